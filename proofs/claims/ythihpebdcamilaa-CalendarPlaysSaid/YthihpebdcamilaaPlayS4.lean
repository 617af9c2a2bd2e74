/-
  Part of a proof over the seat Ythihpebdcamilaa: printed by a small program or typed by hand.
-/
import Derived.Test.YthihpebdcamilaaPlayS3
import Derived.KernelRfl
namespace Go.Proofs.Ythihpebdcamilaa
open Go.Sx Go.Proofs Classical

abbrev tz : Thing := thingE.zero
def Thing.X (a : Thing) : Ev := ⟨a.XAt, a.XID, a.XKind⟩
def thing (id : Int) (x : Ev) : Thing := ⟨id, x.At, x.ID, x.Kind⟩
def aheadB (a b : Thing) : Bool := calendarLess a.X b.X || (!calendarLess b.X a.X && decide (a.Id < b.Id))
def aheadA (L : List Thing) (i k : Int) : Bool := aheadB (at' tz L i) (at' tz L k)
def swapL (L : List Thing) (i k : Int) : List Thing := (L.set i.toNat (at' tz L k)).set k.toNat (at' tz L i)
def swapM (L : List Thing) (M : List (Int × Int)) (i k : Int) : List (Int × Int) := mput (at' tz L i).Id k (mput (at' tz L k).Id i M)
def Small (L : List Thing) : Prop := L.length ≤ 100000
instance (L : List Thing) : Decidable (Small L) := inferInstanceAs (Decidable (_ ≤ _))

/-! ### (*regatta/heap.Heap[regatta/api.Event]).none -/
def noneText (L : List Thing) (M : List (Int × Int)) : Prop := (((false = false) ∧ True) ∧ ((True ∧ (True ∧ (True ∧ True))) ∧ ((L = L) ∧ ((M = M) ∧ True))))
theorem noneVc (L : List Thing) (M : List (Int × Int)) : fnX X3 (noAnn) Try.f38 [.ptr 0 0] [.cells [.fn 24 [], .own 1, .own 2] 69, .vec 2 L 74, .map 0 M] (ends [.cells [.fn 24 [], .own 1, .own 2] 69, .vec 2 L 74, .map 0 M] ⟨some (.raw (.bool false)), [(1, some (.vec 2 (L) 74)), (2, some (.map 0 (M)))]⟩) = noneText L M := by kernel_rfl
theorem noneHolds (L : List Thing) (M : List (Int × Int)) : noneText L M := by
  unfold noneText
  refine ⟨⟨rfl, trivial⟩, ⟨trivial, trivial, trivial, trivial⟩, rfl, rfl, trivial⟩
noncomputable def noneCon : Con T O := fun args cs => match args, cs with
  | [.ptr 0 0], [.cells [.fn 24 [], .own 1, .own 2] 69, .vec 2 L 74, .map 0 M] => .ret ⟨some (.raw (.bool false)), [(1, some (.vec 2 (L) 74)), (2, some (.map 0 (M)))]⟩
  | _, _ => .fail
theorem noneOk : ConOk R Try.prog 38 noneCon := con_of_fn R (X3) (TabOk.con R X3Ok) mixed Try.call38 Try.func38 noneCon (by
  intro args cs K h
  unfold noneCon at h
  split at h
  · rename_i L M
    refine ⟨noAnn, _, fun v S hv => ⟨_, h, hv⟩, ?_⟩
    rw [noneVc L M]
    exact noneHolds L M
  · exact h.elim)
/-! ### (*regatta/heap.Heap[regatta/api.Event]).ahead -/
def aheadText (L : List Thing) (M : List (Int × Int)) (i k : Int) : Prop := (match (inb i L.length) with | true => (match (inb i L.length) with | true => (match (inb k L.length) with | true => (match (inb k L.length) with | true => (match (calendarLess (Ev.mk (at' thingE.zero L i).XAt (at' thingE.zero L i).XID (at' thingE.zero L i).XKind) (Ev.mk (at' thingE.zero L k).XAt (at' thingE.zero L k).XID (at' thingE.zero L k).XKind)) with | true => (((aheadA L i k = true) ∧ True) ∧ ((True ∧ (True ∧ (True ∧ True))) ∧ ((L = L) ∧ ((M = M) ∧ True)))) | false => (match (!calendarLess (Ev.mk (at' thingE.zero L k).XAt (at' thingE.zero L k).XID (at' thingE.zero L k).XKind) (Ev.mk (at' thingE.zero L i).XAt (at' thingE.zero L i).XID (at' thingE.zero L i).XKind)) with | true => (((aheadA L i k = decide ((at' thingE.zero L i).Id < (at' thingE.zero L k).Id)) ∧ True) ∧ ((True ∧ (True ∧ (True ∧ True))) ∧ ((L = L) ∧ ((M = M) ∧ True)))) | false => (((aheadA L i k = false) ∧ True) ∧ ((True ∧ (True ∧ (True ∧ True))) ∧ ((L = L) ∧ ((M = M) ∧ True)))))) | false => False) | false => False) | false => False) | false => False)
theorem aheadVc (L : List Thing) (M : List (Int × Int)) (i k : Int) : fnX X3 (noAnn) Try.f43 [.ptr 0 0, .raw (.int .i64 i), .raw (.int .i64 k)] [.cells [.fn 24 [], .own 1, .own 2] 69, .vec 2 L 74, .map 0 M] (ends [.cells [.fn 24 [], .own 1, .own 2] 69, .vec 2 L 74, .map 0 M] ⟨some (.raw (.bool (aheadA L i k))), [(1, some (.vec 2 (L) 74)), (2, some (.map 0 (M)))]⟩) = aheadText L M i k := by kernel_rfl
theorem aheadHolds (L : List Thing) (M : List (Int × Int)) (i k : Int) (hp : 0 ≤ i ∧ i < L.length ∧ 0 ≤ k ∧ k < L.length) : aheadText L M i k := by
  unfold aheadText aheadA aheadB Thing.X tz
  obtain ⟨h1, h2, h3, h4⟩ := hp
  rw [inb_iff.2 ⟨h1, h2⟩, inb_iff.2 ⟨h3, h4⟩]
  cases calendarLess { At := (at' thingE.zero L i).XAt, ID := (at' thingE.zero L i).XID, Kind := (at' thingE.zero L i).XKind } { At := (at' thingE.zero L k).XAt, ID := (at' thingE.zero L k).XID, Kind := (at' thingE.zero L k).XKind }
  · cases calendarLess { At := (at' thingE.zero L k).XAt, ID := (at' thingE.zero L k).XID, Kind := (at' thingE.zero L k).XKind } { At := (at' thingE.zero L i).XAt, ID := (at' thingE.zero L i).XID, Kind := (at' thingE.zero L i).XKind }
    · exact ⟨⟨rfl, trivial⟩, ⟨trivial, trivial, trivial, trivial⟩, rfl, rfl, trivial⟩
    · exact ⟨⟨rfl, trivial⟩, ⟨trivial, trivial, trivial, trivial⟩, rfl, rfl, trivial⟩
  · exact ⟨⟨rfl, trivial⟩, ⟨trivial, trivial, trivial, trivial⟩, rfl, rfl, trivial⟩
noncomputable def aheadCon : Con T O := fun args cs => match args, cs with
  | [.ptr 0 0, .raw (.int .i64 i), .raw (.int .i64 k)], [.cells [.fn 24 [], .own 1, .own 2] 69, .vec 2 L 74, .map 0 M] => chk (decide (0 ≤ i ∧ i < L.length ∧ 0 ≤ k ∧ k < L.length)) (.ret ⟨some (.raw (.bool (aheadA L i k))), [(1, some (.vec 2 (L) 74)), (2, some (.map 0 (M)))]⟩)
  | _, _ => .fail
theorem aheadOk : ConOk R Try.prog 43 aheadCon := con_of_fn R (X3) (TabOk.con R X3Ok) mixed Try.call43 Try.func43 aheadCon (by
  intro args cs K h
  unfold aheadCon at h
  split at h
  · rename_i i k L M
    rw [Tree.holds_chk] at h
    obtain ⟨hp, h⟩ := h
    refine ⟨noAnn, _, fun v S hv => ⟨_, h, hv⟩, ?_⟩
    rw [aheadVc L M i k]
    exact aheadHolds L M i k (of_decide_eq_true hp)
  · exact h.elim)
/-! ### (*regatta/heap.Heap[regatta/api.Event]).swap -/
def swapText (L : List Thing) (M : List (Int × Int)) (i k : Int) : Prop := (match (inb i L.length) with | true => (match (inb i L.length) with | true => (match (inb k L.length) with | true => (match (inb k L.length) with | true => (match (inb i L.length) with | true => (match (inb i L.length) with | true => (match (inb k (L.set i.toNat (at' thingE.zero L k)).length) with | true => (match (inb k (L.set i.toNat (at' thingE.zero L k)).length) with | true => ((True ∧ True) ∧ ((True ∧ (True ∧ (True ∧ True))) ∧ ((swapL L i k = (L.set i.toNat (at' thingE.zero L k)).set k.toNat (at' thingE.zero L i)) ∧ ((swapM L M i k = mput (at' thingE.zero L i).Id k (mput (at' thingE.zero L k).Id i M)) ∧ True)))) | false => False) | false => False) | false => False) | false => False) | false => False) | false => False) | false => False) | false => False)
theorem swapVc (L : List Thing) (M : List (Int × Int)) (i k : Int) : fnX X3 (noAnn) Try.f44 [.ptr 0 0, .raw (.int .i64 i), .raw (.int .i64 k)] [.cells [.fn 24 [], .own 1, .own 2] 69, .vec 2 L 74, .map 0 M] (ends [.cells [.fn 24 [], .own 1, .own 2] 69, .vec 2 L 74, .map 0 M] ⟨some (.tup []), [(1, some (.vec 2 (swapL L i k) 74)), (2, some (.map 0 (swapM L M i k)))]⟩) = swapText L M i k := by kernel_rfl
theorem swapHolds (L : List Thing) (M : List (Int × Int)) (i k : Int) (hp : 0 ≤ i ∧ i < L.length ∧ 0 ≤ k ∧ k < L.length) : swapText L M i k := by
  unfold swapText
  obtain ⟨h1, h2, h3, h4⟩ := hp
  rw [List.length_set, inb_iff.2 ⟨h1, h2⟩, inb_iff.2 ⟨h3, h4⟩]
  exact ⟨⟨trivial, trivial⟩, ⟨trivial, trivial, trivial, trivial⟩, rfl, rfl, trivial⟩
noncomputable def swapCon : Con T O := fun args cs => match args, cs with
  | [.ptr 0 0, .raw (.int .i64 i), .raw (.int .i64 k)], [.cells [.fn 24 [], .own 1, .own 2] 69, .vec 2 L 74, .map 0 M] => chk (decide (0 ≤ i ∧ i < L.length ∧ 0 ≤ k ∧ k < L.length)) (.ret ⟨some (.tup []), [(1, some (.vec 2 (swapL L i k) 74)), (2, some (.map 0 (swapM L M i k)))]⟩)
  | _, _ => .fail
theorem swapOk : ConOk R Try.prog 44 swapCon := con_of_fn R (X3) (TabOk.con R X3Ok) mixed Try.call44 Try.func44 swapCon (by
  intro args cs K h
  unfold swapCon at h
  split at h
  · rename_i i k L M
    rw [Tree.holds_chk] at h
    obtain ⟨hp, h⟩ := h
    refine ⟨noAnn, _, fun v S hv => ⟨_, h, hv⟩, ?_⟩
    rw [swapVc L M i k]
    exact swapHolds L M i k (of_decide_eq_true hp)
  · exact h.elim)
noncomputable def tab4 : Tab T O := (38, noneCon) :: (43, aheadCon) :: (44, swapCon) :: tab3
theorem tabOk4 : TabOk R Try.prog tab4 := TabOk.cons R noneOk <| TabOk.cons R aheadOk <| TabOk.cons R swapOk <| tabOk3
noncomputable def X4 : Ctx T O := { X0 with con := conOf tab4 }
theorem X4Ok : TabOk R X4.P tab4 := tabOk4
end Go.Proofs.Ythihpebdcamilaa
