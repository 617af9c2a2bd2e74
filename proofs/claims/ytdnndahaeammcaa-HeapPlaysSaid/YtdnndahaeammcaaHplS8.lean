/-
  Part of a proof over the seat Ytdnndahaeammcaa: printed by a small program or typed by hand.
-/
import Derived.Test.YtdnndahaeammcaaHplS7
import Derived.KernelRfl
import Derived.Test.YtdnndahaeammcaaSxIter
import Derived.Test.YtdnndahaeammcaaHplIter
namespace Go.Proofs.Ytdnndahaeammcaa
open Go.Sx Go.Proofs Classical

open Go.RowKit

/-! ### maps.Keys[map[int]int,int,int] -/
def keysCText (M : List (Int × Int)) : Prop := (((True ∧ True) ∧ True) ∧ ((M = M) ∧ ((True ∧ True) ∧ True)))
theorem keysCVc (M : List (Int × Int)) : fnX X7 (noAnn) Try.f30 [.own 0] [.map 0 M] (ends [.map 0 M] ⟨some (.fn 36 [.ptr 1 0]), [(0, some (.map 0 M)), (1, some (.cells [.own 0] 52))]⟩) = keysCText M := by kernel_rfl
theorem keysCHolds (M : List (Int × Int)) : keysCText M := by
  unfold keysCText
  repeat' first | trivial | rfl | apply And.intro
noncomputable def keysCCon : Con T O := fun args cs => match args, cs with
  | [.own 0], [.map 0 M] => .ret ⟨some (.fn 36 [.ptr 1 0]), [(0, some (.map 0 M)), (1, some (.cells [.own 0] 52))]⟩
  | _, _ => .fail
theorem keysCOk : ConOk R Try.prog 30 keysCCon := con_of_fn R (X7) (TabOk.con R X7Ok) mixed Try.call30 Try.func30 keysCCon (by
  intro args cs K h
  unfold keysCCon at h
  split at h
  · rename_i M
    refine ⟨noAnn, _, fun v S hv => ⟨_, h, hv⟩, ?_⟩
    rw [keysCVc M]
    exact keysCHolds M
  · exact h.elim)
/-! ### slices.Sorted[int] (by hand) -/

def keysOk (L : List (Int × Int)) : Bool := decide (L.length ≤ 1000) && L.all fun p => decide (-9223372036854775808 ≤ p.1) && decide (p.1 ≤ 9223372036854775807)
def keysS (L : List (Int × Int)) : List Int := (L.map (·.1)).mergeSort (fun x y => decide (x ≤ y))
theorem vals_ints (ys : List Int) : valsL intE ys = ys.map (Value.int .i64) := by
  induction ys with
  | nil => rfl
  | cons a l ih =>
    rw [valsL_cons, ih]
    rfl
theorem under3 : Try.prog.underlying 3 = some (.int .i64) := by kernel_rfl
noncomputable def sortedCon : Con T O := mapCon 0 0 3 52 36 keysOk keysS
theorem sortedOk : ConOk R Try.prog 29 sortedCon := by
  refine mapCon_ok R Try.call29 ?_
  intro b bm es clock L w hb hc hbm hes _ hst hok
  simp only [keysOk, Bool.and_eq_true, decide_eq_true_eq, List.all_eq_true] at hok
  obtain ⟨hlen, hrange⟩ := hok
  have hkeys : es.toList.map (·.key) = (L.map (·.1)).map encZ := by
    have := congrArg (List.map Prod.fst) hes
    rw [List.map_map, List.map_map] at this
    rw [List.map_map]
    exact this
  have hwf : ∀ x ∈ L.map (·.1), (Lit.int .i64 x).wf = true := by
    intro x hx
    obtain ⟨p, hp, rfl⟩ := List.mem_map.1 hx
    have := hrange p hp
    show (decide (IntKind.i64.min ≤ p.1) && decide (p.1 ≤ IntKind.i64.max)) = true
    rw [show IntKind.i64.min = -9223372036854775808 from rfl, show IntKind.i64.max = 9223372036854775807 from rfl, decide_eq_true this.1, decide_eq_true this.2]
    rfl
  obtain ⟨D0, hown, hsz, hperm⟩ := keys_of_entries hkeys hwf hst (by rw [List.length_map]; unfold maxLen; omega) hbm under3
  rw [List.length_map] at hsz
  refine (callsIn_wide (n := 5)).1 ((sorted_keys bm _ b D0 RAny w hown hb hc (by rw [hsz]; unfold maxLen; omega) (by rw [hsz]; omega)).mono ?_)
  intro en w' hex
  obtain ⟨v, ss, he, hS, hrow, hbl⟩ := hex
  refine ⟨v, he, ?_, hbl⟩
  have e : ss.mergeSort leI = keysS L := mergeSort_of_perm_i (hS.trans hperm)
  have e2 : ss.length = (keysS L).length := by rw [← e, List.length_mergeSort]
  rw [show (fun x y : Int => decide (x ≤ y)) = leI from rfl, e, e2] at hrow
  rw [show valsL (T 0) (keysS L) = (keysS L).map encZ from vals_ints _]
  exact hrow

noncomputable def tab8 : Tab T O := (30, keysCCon) :: (29, sortedCon) :: tab7
theorem tabOk8 : TabOk R Try.prog tab8 := TabOk.cons R keysCOk <| TabOk.cons R sortedOk <| tabOk7
noncomputable def X8 : Ctx T O := { X0 with con := conOf tab8 }
theorem X8Ok : TabOk R X8.P tab8 := tabOk8
end Go.Proofs.Ytdnndahaeammcaa
