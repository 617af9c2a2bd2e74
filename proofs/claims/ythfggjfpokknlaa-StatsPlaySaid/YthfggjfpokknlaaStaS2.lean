/-
  Part of a proof over the seat Ythfggjfpokknlaa: printed by a small program or typed by hand.
-/
import Derived.Test.YthfggjfpokknlaaStaS1
import Derived.KernelRfl
import Derived.Test.YthfggjfpokknlaaSxIter
import Derived.Test.YthfggjfpokknlaaStaIter
namespace Go.Proofs.Ythfggjfpokknlaa
open Go.Sx Go.Proofs Classical
open Go.RowKit
/-! ### cmp.Compare[int64] -/
def cmpL (a0 : Int) (a1 : Int) : Int := (match (nanL a0) with | true => (match (nanL a1) with | true => ((0 : Int)) | false => ((-1 : Int))) | false => (match (nanL a1) with | true => ((1 : Int)) | false => (match (decide (a0 < a1)) with | true => ((-1 : Int)) | false => (match (decide (a0 > a1)) with | true => ((1 : Int)) | false => ((0 : Int))))))
noncomputable def cmpLCon : Con T O := fun args cs => match args, cs with
  | [.raw (.int .i64 a0), .raw (.int .i64 a1)], [] => retv (.raw (.int .i64 (cmpL a0 a1)))
  | _, _ => .fail
theorem cmpLVc (a0 : Int) (a1 : Int) : fnX X1 noAnn Try.f39 [.raw (.int .i64 a0), .raw (.int .i64 a1)] [] (ends [] ⟨some (.raw (.int .i64 (cmpL a0 a1))), []⟩) = ((match (nanL a0) with | true => (match (nanL a1) with | true => ((cmpL a0 a1 = ((0 : Int))) ∧ True) ∧ True | false => ((cmpL a0 a1 = ((-1 : Int))) ∧ True) ∧ True) | false => (match (nanL a1) with | true => ((cmpL a0 a1 = ((1 : Int))) ∧ True) ∧ True | false => (match (decide (a0 < a1)) with | true => ((cmpL a0 a1 = ((-1 : Int))) ∧ True) ∧ True | false => (match (decide (a0 > a1)) with | true => ((cmpL a0 a1 = ((1 : Int))) ∧ True) ∧ True | false => ((cmpL a0 a1 = ((0 : Int))) ∧ True) ∧ True))))) := by kernel_rfl
theorem cmpLOk : ConOk R Try.prog 39 cmpLCon := con_of_fn R X1 (TabOk.con R X1Ok) mixed Try.call39 Try.func39 cmpLCon (by
  intro args cs K h
  unfold cmpLCon at h
  split at h
  · rename_i a0 a1
    refine ⟨noAnn, _, fun v S hv => ⟨_, h, hv⟩, ?_⟩
    rw [cmpLVc a0 a1]
    unfold cmpL
    cases (nanL a0)
    ·
      cases (nanL a1)
      ·
        cases (decide (a0 < a1))
        ·
          cases (decide (a0 > a1))
          ·
            exact ⟨⟨rfl, trivial⟩, trivial⟩
          ·
            exact ⟨⟨rfl, trivial⟩, trivial⟩
        ·
          exact ⟨⟨rfl, trivial⟩, trivial⟩
      ·
        exact ⟨⟨rfl, trivial⟩, trivial⟩
    ·
      cases (nanL a1)
      ·
        exact ⟨⟨rfl, trivial⟩, trivial⟩
      ·
        exact ⟨⟨rfl, trivial⟩, trivial⟩
  · exact h.elim)
/-! ### slices.Sorted[int] (by hand) -/

def keysOk (L : CM) : Bool := decide (L.length ≤ 1000) && L.all fun p => decide (-9223372036854775808 ≤ p.1) && decide (p.1 ≤ 9223372036854775807)
def keysS (L : CM) : List Int := (L.map (·.1)).mergeSort (fun x y => decide (x ≤ y))
theorem vals_ints (ys : List Int) : valsL intE ys = ys.map (Value.int .i64) := by
  induction ys with
  | nil => rfl
  | cons a l ih =>
    rw [valsL_cons, ih]
    rfl
theorem under3 : Try.prog.underlying 3 = some (.int .i64) := by kernel_rfl
noncomputable def sortedICon : Con T O := mapCon 0 0 3 49 50 keysOk keysS
theorem sortedIOk : ConOk R Try.prog 35 sortedICon := by
  refine mapCon_ok R Try.call35 ?_
  intro b bm es clock L w hb hc hbm hes _ hst hok
  simp only [keysOk, Bool.and_eq_true, decide_eq_true_eq, List.all_eq_true] at hok
  obtain ⟨hlen, hrange⟩ := hok
  have hkeys : es.toList.map (·.key) = (L.map (·.1)).map encZ := by
    have := congrArg (List.map Prod.fst) hes
    rw [List.map_map, List.map_map] at this
    rw [List.map_map]
    exact this
  have hwf : ∀ x ∈ L.map (·.1), (Lit.int .i64 x).wf = true := by
    intro x hx
    obtain ⟨p, hp, rfl⟩ := List.mem_map.1 hx
    have := hrange p hp
    show (decide (IntKind.i64.min ≤ p.1) && decide (p.1 ≤ IntKind.i64.max)) = true
    rw [show IntKind.i64.min = -9223372036854775808 from rfl, show IntKind.i64.max = 9223372036854775807 from rfl, decide_eq_true this.1, decide_eq_true this.2]
    rfl
  obtain ⟨D0, hown, hsz, hperm⟩ := keys_of_entries hkeys hwf hst (by rw [List.length_map]; unfold maxLen; omega) hbm under3
  rw [List.length_map] at hsz
  refine (callsIn_wide (n := 5)).1 ((sorted_keys bm _ b D0 RAny w hown hb hc (by rw [hsz]; unfold maxLen; omega) (by rw [hsz]; omega)).mono ?_)
  intro en w' hex
  obtain ⟨v, ss, he, hS, hrow, hbl⟩ := hex
  refine ⟨v, he, ?_, hbl⟩
  have e : ss.mergeSort leI = keysS L := mergeSort_of_perm_i (hS.trans hperm)
  have e2 : ss.length = (keysS L).length := by rw [← e, List.length_mergeSort]
  rw [show (fun x y : Int => decide (x ≤ y)) = leI from rfl, e, e2] at hrow
  rw [show valsL (T 0) (keysS L) = (keysS L).map encZ from vals_ints _]
  exact hrow

/-! ### slices.Sorted[string] (by hand) -/

theorem vals_strs (ys : List Int) : valsL strE ys = ys.map fun n => encStr (byte1 n) := by
  induction ys with
  | nil => rfl
  | cons a l ih =>
    rw [valsL_cons, ih]
    rfl
theorem under9 : Try.prog.underlying 9 = some .string := by kernel_rfl
def keysOkS (L : CM) : Bool := decide (L.length ≤ 1000)
noncomputable def sortedSCon : Con T O := mapCon 3 2 9 68 55 keysOkS keysS
theorem sortedSOk : ConOk R Try.prog 40 sortedSCon := by
  refine mapCon_ok R Try.call40 ?_
  intro b bm es clock L w hb hc hbm hes hok2 hst hok
  have hlen : L.length ≤ 1000 := of_decide_eq_true hok
  have hkeys : es.toList.map (·.key) = (L.map (·.1)).map fun n => encStr (byte1 n) := by
    have := congrArg (List.map Prod.fst) hes
    rw [List.map_map, List.map_map] at this
    rw [List.map_map]
    exact this
  have hr : ∀ x ∈ L.map (·.1), 0 ≤ x ∧ x < 256 := by
    intro x hx
    obtain ⟨p, hp, rfl⟩ := List.mem_map.1 hx
    exact hok2 p hp rfl
  obtain ⟨D0, hown, hsz, hperm⟩ := keys_of_entriesS hkeys hst (by rw [List.length_map]; unfold maxLen; omega) hbm under9
  rw [List.length_map] at hsz
  refine (callsIn_wide (n := 5)).1 ((sorted_keysS bm _ b D0 RAny w hown hb hc (by rw [hsz]; unfold maxLen; omega) (by rw [hsz]; omega)).mono ?_)
  intro en w' hex
  obtain ⟨v, ss, he, hS, hrow, hbl⟩ := hex
  refine ⟨v, he, ?_, hbl⟩
  have e : ss.mergeSort leB = (keysS L).map byte1 := sort_bytes hr (hS.trans hperm)
  have e2 : ss.length = (keysS L).length := by
    have := congrArg List.length e
    rw [List.length_mergeSort, List.length_map] at this
    exact this
  rw [show (fun x y : List UInt8 => decide (x ≤ y)) = leB from rfl, e, e2, List.map_map] at hrow
  rw [show valsL (T 2) (keysS L) = (keysS L).map fun n => encStr (byte1 n) from vals_strs _]
  exact hrow

noncomputable def tab2 : Tab T O := (39, cmpLCon) :: (35, sortedICon) :: (40, sortedSCon) :: tab1
theorem tabOk2 : TabOk R Try.prog tab2 := TabOk.cons R cmpLOk <| TabOk.cons R sortedIOk <| TabOk.cons R sortedSOk <| tabOk1
noncomputable def X2 : Ctx T O := { X0 with con := conOf tab2 }
theorem X2Ok : TabOk R X2.P tab2 := tabOk2
end Go.Proofs.Ythfggjfpokknlaa
