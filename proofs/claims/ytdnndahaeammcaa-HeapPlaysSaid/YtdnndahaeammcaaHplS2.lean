/-
  Part of a proof over the seat Ytdnndahaeammcaa: printed by a small program or typed by hand.
-/
import Derived.Test.YtdnndahaeammcaaHplS1
import Derived.KernelRfl
namespace Go.Proofs.Ytdnndahaeammcaa
open Go.Sx Go.Proofs Classical

abbrev tz : Thing := thingE.zero
def aheadB (a b : Thing) : Bool := ref07Less a.X b.X || (!ref07Less b.X a.X && decide (a.Id < b.Id))
def aheadA (L : List Thing) (i k : Int) : Bool := aheadB (at' tz L i) (at' tz L k)
def swapL (L : List Thing) (i k : Int) : List Thing := (L.set i.toNat (at' tz L k)).set k.toNat (at' tz L i)
def swapM (L : List Thing) (M : List (Int × Int)) (i k : Int) : List (Int × Int) := mput (at' tz L i).Id k (mput (at' tz L k).Id i M)
def Small (L : List Thing) : Prop := L.length ≤ 100000
instance (L : List Thing) : Decidable (Small L) := inferInstanceAs (Decidable (_ ≤ _))

/-! ### (*regatta/heap.Heap[int]).none -/
def noneText (L : List Thing) (M : List (Int × Int)) : Prop := (((false = false) ∧ True) ∧ ((True ∧ (True ∧ (True ∧ True))) ∧ ((L = L) ∧ ((M = M) ∧ True))))
theorem noneVc (L : List Thing) (M : List (Int × Int)) : fnX X1 (noAnn) Try.f25 [.ptr 0 0] [.cells [.fn 10 [], .own 1, .own 2] 54, .vec 2 L 57, .map 0 M] (ends [.cells [.fn 10 [], .own 1, .own 2] 54, .vec 2 L 57, .map 0 M] ⟨some (.raw (.bool false)), [(1, some (.vec 2 (L) 57)), (2, some (.map 0 (M)))]⟩) = noneText L M := by kernel_rfl
theorem noneHolds (L : List Thing) (M : List (Int × Int)) : noneText L M := by
  unfold noneText
  refine ⟨⟨rfl, trivial⟩, ⟨trivial, trivial, trivial, trivial⟩, rfl, rfl, trivial⟩
noncomputable def noneCon : Con T O := fun args cs => match args, cs with
  | [.ptr 0 0], [.cells [.fn 10 [], .own 1, .own 2] 54, .vec 2 L 57, .map 0 M] => .ret ⟨some (.raw (.bool false)), [(1, some (.vec 2 (L) 57)), (2, some (.map 0 (M)))]⟩
  | _, _ => .fail
theorem noneOk : ConOk R Try.prog 25 noneCon := con_of_fn R (X1) (TabOk.con R X1Ok) mixed Try.call25 Try.func25 noneCon (by
  intro args cs K h
  unfold noneCon at h
  split at h
  · rename_i L M
    refine ⟨noAnn, _, fun v S hv => ⟨_, h, hv⟩, ?_⟩
    rw [noneVc L M]
    exact noneHolds L M
  · exact h.elim)
/-! ### (*regatta/heap.Heap[int]).ahead -/
def aheadText (L : List Thing) (M : List (Int × Int)) (i k : Int) : Prop := (match (inb i L.length) with | true => (match (inb i L.length) with | true => (match (inb k L.length) with | true => (match (inb k L.length) with | true => (match (ref07Less (at' (T (2 : Nat)).zero L i).X (at' (T (2 : Nat)).zero L k).X) with | true => (((aheadA L i k = true) ∧ True) ∧ ((True ∧ (True ∧ (True ∧ True))) ∧ ((L = L) ∧ ((M = M) ∧ True)))) | false => (match (!ref07Less (at' (T (2 : Nat)).zero L k).X (at' (T (2 : Nat)).zero L i).X) with | true => (((aheadA L i k = decide ((at' (T (2 : Nat)).zero L i).Id < (at' (T (2 : Nat)).zero L k).Id)) ∧ True) ∧ ((True ∧ (True ∧ (True ∧ True))) ∧ ((L = L) ∧ ((M = M) ∧ True)))) | false => (((aheadA L i k = false) ∧ True) ∧ ((True ∧ (True ∧ (True ∧ True))) ∧ ((L = L) ∧ ((M = M) ∧ True)))))) | false => False) | false => False) | false => False) | false => False)
theorem aheadVc (L : List Thing) (M : List (Int × Int)) (i k : Int) : fnX X1 (noAnn) Try.f31 [.ptr 0 0, .raw (.int .i64 i), .raw (.int .i64 k)] [.cells [.fn 10 [], .own 1, .own 2] 54, .vec 2 L 57, .map 0 M] (ends [.cells [.fn 10 [], .own 1, .own 2] 54, .vec 2 L 57, .map 0 M] ⟨some (.raw (.bool (aheadA L i k))), [(1, some (.vec 2 (L) 57)), (2, some (.map 0 (M)))]⟩) = aheadText L M i k := by kernel_rfl
theorem aheadHolds (L : List Thing) (M : List (Int × Int)) (i k : Int) (hp : 0 ≤ i ∧ i < L.length ∧ 0 ≤ k ∧ k < L.length) : aheadText L M i k := by
  unfold aheadText aheadA aheadB
  obtain ⟨h1, h2, h3, h4⟩ := hp
  rw [inb_iff.2 ⟨h1, h2⟩, inb_iff.2 ⟨h3, h4⟩]
  cases ref07Less (at' thingE.zero L i).X (at' thingE.zero L k).X
  · cases ref07Less (at' thingE.zero L k).X (at' thingE.zero L i).X
    · exact ⟨⟨rfl, trivial⟩, ⟨trivial, trivial, trivial, trivial⟩, rfl, rfl, trivial⟩
    · exact ⟨⟨rfl, trivial⟩, ⟨trivial, trivial, trivial, trivial⟩, rfl, rfl, trivial⟩
  · exact ⟨⟨rfl, trivial⟩, ⟨trivial, trivial, trivial, trivial⟩, rfl, rfl, trivial⟩
noncomputable def aheadCon : Con T O := fun args cs => match args, cs with
  | [.ptr 0 0, .raw (.int .i64 i), .raw (.int .i64 k)], [.cells [.fn 10 [], .own 1, .own 2] 54, .vec 2 L 57, .map 0 M] => chk (decide (0 ≤ i ∧ i < L.length ∧ 0 ≤ k ∧ k < L.length)) (.ret ⟨some (.raw (.bool (aheadA L i k))), [(1, some (.vec 2 (L) 57)), (2, some (.map 0 (M)))]⟩)
  | _, _ => .fail
theorem aheadOk : ConOk R Try.prog 31 aheadCon := con_of_fn R (X1) (TabOk.con R X1Ok) mixed Try.call31 Try.func31 aheadCon (by
  intro args cs K h
  unfold aheadCon at h
  split at h
  · rename_i i k L M
    rw [Tree.holds_chk] at h
    obtain ⟨hp, h⟩ := h
    refine ⟨noAnn, _, fun v S hv => ⟨_, h, hv⟩, ?_⟩
    rw [aheadVc L M i k]
    exact aheadHolds L M i k (of_decide_eq_true hp)
  · exact h.elim)
/-! ### (*regatta/heap.Heap[int]).swap -/
def swapText (L : List Thing) (M : List (Int × Int)) (i k : Int) : Prop := (match (inb i L.length) with | true => (match (inb i L.length) with | true => (match (inb k L.length) with | true => (match (inb k L.length) with | true => (match (inb i L.length) with | true => (match (inb i L.length) with | true => (match (inb k (L.set i.toNat (at' (T (2 : Nat)).zero L k)).length) with | true => (match (inb k (L.set i.toNat (at' (T (2 : Nat)).zero L k)).length) with | true => ((True ∧ True) ∧ ((True ∧ (True ∧ (True ∧ True))) ∧ ((swapL L i k = (L.set i.toNat (at' (T (2 : Nat)).zero L k)).set k.toNat (at' (T (2 : Nat)).zero L i)) ∧ ((swapM L M i k = mput (at' (T (2 : Nat)).zero L i).Id k (mput (at' (T (2 : Nat)).zero L k).Id i M)) ∧ True)))) | false => False) | false => False) | false => False) | false => False) | false => False) | false => False) | false => False) | false => False)
theorem swapVc (L : List Thing) (M : List (Int × Int)) (i k : Int) : fnX X1 (noAnn) Try.f32 [.ptr 0 0, .raw (.int .i64 i), .raw (.int .i64 k)] [.cells [.fn 10 [], .own 1, .own 2] 54, .vec 2 L 57, .map 0 M] (ends [.cells [.fn 10 [], .own 1, .own 2] 54, .vec 2 L 57, .map 0 M] ⟨some (.tup []), [(1, some (.vec 2 (swapL L i k) 57)), (2, some (.map 0 (swapM L M i k)))]⟩) = swapText L M i k := by kernel_rfl
theorem swapHolds (L : List Thing) (M : List (Int × Int)) (i k : Int) (hp : 0 ≤ i ∧ i < L.length ∧ 0 ≤ k ∧ k < L.length) : swapText L M i k := by
  unfold swapText
  obtain ⟨h1, h2, h3, h4⟩ := hp
  rw [List.length_set, inb_iff.2 ⟨h1, h2⟩, inb_iff.2 ⟨h3, h4⟩]
  exact ⟨⟨trivial, trivial⟩, ⟨trivial, trivial, trivial, trivial⟩, rfl, rfl, trivial⟩
noncomputable def swapCon : Con T O := fun args cs => match args, cs with
  | [.ptr 0 0, .raw (.int .i64 i), .raw (.int .i64 k)], [.cells [.fn 10 [], .own 1, .own 2] 54, .vec 2 L 57, .map 0 M] => chk (decide (0 ≤ i ∧ i < L.length ∧ 0 ≤ k ∧ k < L.length)) (.ret ⟨some (.tup []), [(1, some (.vec 2 (swapL L i k) 57)), (2, some (.map 0 (swapM L M i k)))]⟩)
  | _, _ => .fail
theorem swapOk : ConOk R Try.prog 32 swapCon := con_of_fn R (X1) (TabOk.con R X1Ok) mixed Try.call32 Try.func32 swapCon (by
  intro args cs K h
  unfold swapCon at h
  split at h
  · rename_i i k L M
    rw [Tree.holds_chk] at h
    obtain ⟨hp, h⟩ := h
    refine ⟨noAnn, _, fun v S hv => ⟨_, h, hv⟩, ?_⟩
    rw [swapVc L M i k]
    exact swapHolds L M i k (of_decide_eq_true hp)
  · exact h.elim)
noncomputable def tab2 : Tab T O := (25, noneCon) :: (31, aheadCon) :: (32, swapCon) :: tab1
theorem tabOk2 : TabOk R Try.prog tab2 := TabOk.cons R noneOk <| TabOk.cons R aheadOk <| TabOk.cons R swapOk <| tabOk1
noncomputable def X2 : Ctx T O := { X0 with con := conOf tab2 }
theorem X2Ok : TabOk R X2.P tab2 := tabOk2
end Go.Proofs.Ytdnndahaeammcaa
