/-
  Part of a proof over the seat Ytdnndahaeammcaa: printed by a small program or typed by hand.
-/
import Derived.Shelf.SlIterI.Nil
import Derived.Shelf.SortM.Plain
import Derived.Shelf.SortM.SortNone
import Derived.Ground.GgzProg
import Derived.Ground.SlgmProg
import Derived.Test.YtdnndahaeammcaaChecked
namespace Go.Proofs.Ytdnndahaeammcaa
open Go.Proofs Go.RowKit Go.Maps Go.Sort Go.Shelf Go.WideElems

shelf_lay_g SlLaysZI.n7 Ggz 7 at Try 30 as layKeys
shelf_lay_g SlLaysZI.n6 Ggz 6 at Try 29 as laySorted
shelf_lay_g SlLaysM.n5 Slgm 5 at Try 35 as laySort

theorem sortsI (m : Nat) : AnyZI.SortsIn Try.prog laySorted_ren Fence.wide m :=
  ⟨fun blk off cap ss W hH hblk hsz => callsIn_wide.2 (AnyM.slices_Sort_int laySort blk off cap ss W hH hblk hsz),
   fun p cap W => callsIn_wide.2 (AnyM.slices_Sort_int_none laySort p cap W)⟩

set_option maxHeartbeats 1000000 in
theorem sorted_keys {H : Type} (b nn Bm : Nat) (D0 : DataW H) (R : Value → Option (DataW H × List MemPlace)) (w : World) (hown : w.ownsMap Try.prog 3 R b nn D0) (hBm : Bm < w.heap.size) (hm : w.cell? ⟨Bm, 0, none⟩ = some (.map (some b))) (hmax : Maps.size D0 ≤ maxLen) (hbytes : Maps.size D0 * 8 ≤ 140737488355328) :
    CallsIn Fence.wide 5 Try.prog 29 #[.func (.func 36) #[] #[.pointer (some ⟨Bm, 0, none⟩)]] w fun e w' => ∃ (v : Value) (ss : List Int), e = .returned v ∧ ss.Perm (intKeys D0) ∧
      w'.ownsRow w.heap.size 3 1 v ss.length ((ss.mergeSort (fun x y => decide (x ≤ y))).map encZ) ∧ Below w.heap.size w w' := by
  have hseq : SeqGives Fence.wide 2 Try.prog 36 #[.pointer (some ⟨Bm, 0, none⟩)] encZ (fun ss => ss.Perm (intKeys D0)) (Maps.size D0) w :=
    AnyZI.keys_gives (ρ := layKeys_ren) { layKeys with } Fence.wide _ trivial rfl (by omega) Bm b nn D0 _ hBm hm hown
  have cS := AnyZI.sorted_in laySorted Fence.wide 5 trivial trivial trivial trivial rfl (by omega) (sortsI _) (enters_of Try.func35 (by kernel_rfl) rfl) 36 #[.pointer (some ⟨Bm, 0, none⟩)] trivial (enters_of Try.func36 (by kernel_rfl) rfl) _ _ hmax hbytes _ hseq
  refine cS.mono ?_
  rintro e w' ⟨v, ss, he, hS, hrow, _, hb⟩
  exact ⟨v, ss, he, hS, hrow, hb⟩

def RAny : Value → Option (DataW Unit × List MemPlace) := fun _ => some (.nil, [])
theorem keys_of_entries {es : Array MapEntry} {clock : Nat} {ks : List Int} (hes : es.toList.map (·.key) = ks.map encZ) (hwf : ∀ x ∈ ks, (Lit.int .i64 x).wf = true) (hst : MapKept.Stamped es clock) (hsz : ks.length ≤ maxLen) {w : World} {b : Nat} (hb : w.heap[b]? = some (.map es clock)) (hu : Try.prog.underlying 3 = some (.int .i64)) :
    ∃ D0, w.ownsMap Try.prog 3 RAny b ks.length D0 ∧ Maps.size D0 = ks.length ∧ (intKeys D0).Perm ks := by
  have hlen : es.size = ks.length := by
    have := congrArg List.length hes
    simpa using this
  have hk : ∀ x ∈ es.toList, ∃ n, x.key = encZ n ∧ n ∈ ks := by
    intro x hx
    have : x.key ∈ es.toList.map (·.key) := List.mem_map.2 ⟨x, hx, rfl⟩
    rw [hes] at this
    obtain ⟨n, hn, e⟩ := List.mem_map.1 this
    exact ⟨n, e.symm, hn⟩
  have hkey : ∀ n ∈ ks, keyOf Try.prog 3 (encZ n) = some (.int .i64 n) := fun n hn => keyOf_int_mk hu (hwf n hn)
  have hrd : ∀ x ∈ es.toList, ∃ n, x.key = encZ n ∧ n ∈ ks ∧ Go.WideElems.rd Try.prog 3 RAny x = some (.int .i64 n, .nil) := by
    intro x hx
    obtain ⟨n, e, hn⟩ := hk x hx
    refine ⟨n, e, hn, ?_⟩
    unfold Go.WideElems.rd
    rw [e, hkey n hn]
    rfl
  refine ⟨_, ⟨es, clock, hb, ⟨by rw [hlen]; exact hsz, hst, fun x hx => ?_⟩, Nat.le_of_eq hlen, rfl⟩, ?_, ?_⟩
  · obtain ⟨n, _, _, h⟩ := hrd x hx
    exact ⟨_, h⟩
  · show ((es.toList.map (Go.WideElems.rg Try.prog 3 RAny)).foldr DataW.insert []).length = _
    rw [length_sorted]
    simpa using hlen
  · show (((es.toList.map (Go.WideElems.rg Try.prog 3 RAny)).foldr DataW.insert []).map fun p => Go.intOf p.1).Perm ks
    refine ((Go.WideShapes.sorted_perm _).map _).trans ?_
    rw [List.map_map]
    have : es.toList.map ((fun p : Lit × DataW Unit => Go.intOf p.1) ∘ Go.WideElems.rg Try.prog 3 RAny) = ks := by
      have h1 : es.toList.map ((fun p : Lit × DataW Unit => Go.intOf p.1) ∘ Go.WideElems.rg Try.prog 3 RAny) = (es.toList.map (·.key)).map fun v => match v with
          | .int _ n => n
          | _ => 0 := by
        rw [List.map_map]
        apply List.map_congr_left
        intro x hx
        obtain ⟨n, e, _, h⟩ := hrd x hx
        simp only [Function.comp, Go.WideElems.rg, h, e, Option.getD_some, Go.intOf]
      rw [h1, hes, List.map_map]
      conv => rhs; rw [← List.map_id ks]
      rfl
    rw [this]
end Go.Proofs.Ytdnndahaeammcaa
