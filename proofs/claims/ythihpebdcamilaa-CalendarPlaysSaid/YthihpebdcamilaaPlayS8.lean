/-
  Part of a proof over the seat Ythihpebdcamilaa: printed by a small program or typed by hand.
-/
import Derived.Test.YthihpebdcamilaaPlayS7
import Derived.KernelRfl
namespace Go.Proofs.Ythihpebdcamilaa
open Go.Sx Go.Proofs Classical

def pushH (s : HS) (id : Int) (x : Ev) : HS := riseN s.1.length (s.1 ++ [thing id x], mput id s.1.length s.2) s.1.length

/-! ### (*regatta/heap.Heap[regatta/api.Event]).Push -/
def pushCText (L : List Thing) (M : List (Int × Int)) (id : Int) (x : Ev) : Prop := (match ((mget id M).isSome) with | true => (match (thereB id M) with | true => (((false = false) ∧ True) ∧ ((True ∧ (True ∧ (True ∧ True))) ∧ ((L = L) ∧ ((M = M) ∧ True)))) | false => (((true = false) ∧ True) ∧ ((True ∧ (True ∧ (True ∧ True))) ∧ (((pushH (L, M) id x).snd = M) ∧ (((pushH (L, M) id x).fst = L) ∧ True))))) | false => (match (roomy (L.length + (1 : Nat)) (nat_lit 32)) with | true => (match (decide ((0 : Int) ≤ IntKind.i64.wrap ((↑(L ++ [Thing.mk id x.At x.ID x.Kind]).length : Int) - (1 : Int)) ∧ IntKind.i64.wrap ((↑(L ++ [Thing.mk id x.At x.ID x.Kind]).length : Int) - (1 : Int)) < (↑(L ++ [Thing.mk id x.At x.ID x.Kind]).length : Int) ∧ (L ++ [Thing.mk id x.At x.ID x.Kind]).length ≤ (100000 : Nat))) with | true => (match (thereB id M) with | true => (((false = true) ∧ True) ∧ ((True ∧ (False ∧ (True ∧ True))) ∧ (False ∧ ((M = (riseN (IntKind.i64.wrap ((↑(L ++ [Thing.mk id x.At x.ID x.Kind]).length : Int) - (1 : Int))).toNat (L ++ [Thing.mk id x.At x.ID x.Kind], mput id (↑L.length : Int) M) (IntKind.i64.wrap ((↑(L ++ [Thing.mk id x.At x.ID x.Kind]).length : Int) - (1 : Int))).toNat).snd) ∧ True)))) | false => (((true = true) ∧ True) ∧ ((True ∧ (True ∧ (True ∧ True))) ∧ (((pushH (L, M) id x).snd = (riseN (IntKind.i64.wrap ((↑(L ++ [Thing.mk id x.At x.ID x.Kind]).length : Int) - (1 : Int))).toNat (L ++ [Thing.mk id x.At x.ID x.Kind], mput id (↑L.length : Int) M) (IntKind.i64.wrap ((↑(L ++ [Thing.mk id x.At x.ID x.Kind]).length : Int) - (1 : Int))).toNat).snd) ∧ (((pushH (L, M) id x).fst = (riseN (IntKind.i64.wrap ((↑(L ++ [Thing.mk id x.At x.ID x.Kind]).length : Int) - (1 : Int))).toNat (L ++ [Thing.mk id x.At x.ID x.Kind], mput id (↑L.length : Int) M) (IntKind.i64.wrap ((↑(L ++ [Thing.mk id x.At x.ID x.Kind]).length : Int) - (1 : Int))).toNat).fst) ∧ True))))) | false => False) | false => False))
theorem pushCVc (L : List Thing) (M : List (Int × Int)) (id : Int) (x : Ev) : fnX X7 (noAnn) Try.f27 [.ptr 0 0, .raw (.int .i64 id), .agg [.raw (.int .i64 x.At), .raw (.int .i64 x.ID), .raw (.int .i64 x.Kind)]] [.cells [.fn 24 [], .own 1, .own 2] 69, .vec 2 L 74, .map 0 M] (endsIf (thereB id M) [.cells [.fn 24 [], .own 1, .own 2] 69, .vec 2 L 74, .map 0 M] ⟨some (.raw (.bool false)), [(1, some (.vec 2 (L) 74)), (2, some (.map 0 (M)))]⟩ ⟨some (.raw (.bool true)), [(0, some (.cells [.fn 24 [], .own 3, .own 2] 69)), (1, none), (2, some (.map 0 (pushH (L, M) id x).2)), (3, some (.vec 2 (pushH (L, M) id x).1 74))]⟩) = pushCText L M id x := by kernel_rfl
theorem pushCHolds (L : List Thing) (M : List (Int × Int)) (id : Int) (x : Ev) (hp : L.length ≤ 1000) : pushCText L M id x := by
  unfold pushCText
  have el : (L ++ [Thing.mk id x.At x.ID x.Kind]).length = L.length + 1 := by simp
  have ew : IntKind.i64.wrap (((L ++ [Thing.mk id x.At x.ID x.Kind]).length : Int) - 1) = (L.length : Int) := by rw [el, wrap_id (by omega) (by omega)]; omega
  cases h : thereB id M
  · rw [show (mget id M).isSome = false from h, show roomy (L.length + 1) 32 = true by simp [roomy]; omega, ew]
    rw [show decide ((0 : Int) ≤ (L.length : Int) ∧ (L.length : Int) < ((L ++ [Thing.mk id x.At x.ID x.Kind]).length : Int) ∧ (L ++ [Thing.mk id x.At x.ID x.Kind]).length ≤ (100000 : Nat)) = true from decide_eq_true (by rw [el]; omega)]
    rw [Int.toNat_natCast]
    repeat' first | trivial | rfl | apply And.intro
  · rw [show (mget id M).isSome = true from h]
    repeat' first | trivial | rfl | apply And.intro
noncomputable def pushCCon : Con T O := fun args cs => match args, cs with
  | [.ptr 0 0, .raw (.int .i64 id), .agg [.raw (.int .i64 x_0), .raw (.int .i64 x_1), .raw (.int .i64 x_2)]], [.cells [.fn 24 [], .own 1, .own 2] 69, .vec 2 L 74, .map 0 M] => chk (decide (L.length ≤ 1000)) (.ite (thereB id M) (.ret ⟨some (.raw (.bool false)), [(1, some (.vec 2 (L) 74)), (2, some (.map 0 (M)))]⟩) (.ret ⟨some (.raw (.bool true)), [(0, some (.cells [.fn 24 [], .own 3, .own 2] 69)), (1, none), (2, some (.map 0 (pushH (L, M) id (⟨x_0, x_1, x_2⟩ : Ev)).2)), (3, some (.vec 2 (pushH (L, M) id (⟨x_0, x_1, x_2⟩ : Ev)).1 74))]⟩))
  | _, _ => .fail
theorem pushCOk : ConOk R Try.prog 27 pushCCon := con_of_fn R (X7) (TabOk.con R X7Ok) mixed Try.call27 Try.func27 pushCCon (by
  intro args cs K h
  unfold pushCCon at h
  split at h
  · rename_i id x_0 x_1 x_2 L M
    rw [Tree.holds_chk] at h
    obtain ⟨hp, h⟩ := h
    refine ⟨noAnn, _, fun v S hv => holds_if h v S hv, ?_⟩
    rw [pushCVc L M id (⟨x_0, x_1, x_2⟩ : Ev)]
    exact pushCHolds L M id (⟨x_0, x_1, x_2⟩ : Ev) (of_decide_eq_true hp)
  · exact h.elim)
/-! ### (*regatta/heap.Heap[regatta/api.Event]).Pop -/
def popCText (L : List Thing) (M : List (Int × Int)) : Prop := (match ((↑L.length : Int) == (0 : Int)) with | true => (match (L.length == (0 : Nat)) with | true => (((((0 : Int) = (0 : Int)) ∧ ((((0 : Int) = (0 : Int)) ∧ (((0 : Int) = (0 : Int)) ∧ (((0 : Int) = (0 : Int)) ∧ True))) ∧ ((false = false) ∧ True))) ∧ True) ∧ ((True ∧ (True ∧ (True ∧ True))) ∧ ((L = L) ∧ ((M = M) ∧ True)))) | false => (((((at' tz L (0 : Int)).Id = (0 : Int)) ∧ ((((at' tz L (0 : Int)).XAt = (0 : Int)) ∧ (((at' tz L (0 : Int)).XID = (0 : Int)) ∧ (((at' tz L (0 : Int)).XKind = (0 : Int)) ∧ True))) ∧ ((true = false) ∧ True))) ∧ True) ∧ ((True ∧ (True ∧ (True ∧ True))) ∧ (((takeH (L, M) (0 : Nat)).snd = M) ∧ (((takeH (L, M) (0 : Nat)).fst = L) ∧ True))))) | false => (match (decide ((0 : Int) ≤ (0 : Int) ∧ (0 : Int) < (↑L.length : Int) ∧ L.length ≤ (100000 : Nat))) with | true => (match (L.length == (0 : Nat)) with | true => (((((0 : Int) = (at' tz L (0 : Int)).Id) ∧ ((((0 : Int) = (at' tz L (0 : Int)).XAt) ∧ (((0 : Int) = (at' tz L (0 : Int)).XID) ∧ (((0 : Int) = (at' tz L (0 : Int)).XKind) ∧ True))) ∧ ((false = true) ∧ True))) ∧ True) ∧ ((True ∧ (False ∧ (True ∧ True))) ∧ (False ∧ ((M = (takeH (L, M) (Int.toNat (0 : Int))).snd) ∧ True)))) | false => (((((at' tz L (0 : Int)).Id = (at' tz L (0 : Int)).Id) ∧ ((((at' tz L (0 : Int)).XAt = (at' tz L (0 : Int)).XAt) ∧ (((at' tz L (0 : Int)).XID = (at' tz L (0 : Int)).XID) ∧ (((at' tz L (0 : Int)).XKind = (at' tz L (0 : Int)).XKind) ∧ True))) ∧ ((true = true) ∧ True))) ∧ True) ∧ ((True ∧ (True ∧ (True ∧ True))) ∧ (((takeH (L, M) (0 : Nat)).snd = (takeH (L, M) (Int.toNat (0 : Int))).snd) ∧ (((takeH (L, M) (0 : Nat)).fst = (takeH (L, M) (Int.toNat (0 : Int))).fst) ∧ True))))) | false => False))
theorem popCVc (L : List Thing) (M : List (Int × Int)) : fnX X7 (noAnn) Try.f29 [.ptr 0 0] [.cells [.fn 24 [], .own 1, .own 2] 69, .vec 2 L 74, .map 0 M] (endsIf (L.length == 0) [.cells [.fn 24 [], .own 1, .own 2] 69, .vec 2 L 74, .map 0 M] ⟨some (.tup [.raw (.int .i64 0), .agg [.raw (.int .i64 0), .raw (.int .i64 0), .raw (.int .i64 0)], .raw (.bool false)]), [(1, some (.vec 2 (L) 74)), (2, some (.map 0 (M)))]⟩ ⟨some (.tup [.raw (.int .i64 (at' tz L 0).Id), .agg [.raw (.int .i64 (at' tz L 0).XAt), .raw (.int .i64 (at' tz L 0).XID), .raw (.int .i64 (at' tz L 0).XKind)], .raw (.bool true)]), [(0, some (.cells [.fn 24 [], .own 3, .own 2] 69)), (1, none), (2, some (.map 0 (takeH (L, M) 0).2)), (3, some (.vec 2 (takeH (L, M) 0).1 74))]⟩) = popCText L M := by kernel_rfl
theorem popCHolds (L : List Thing) (M : List (Int × Int)) (hp : L.length ≤ 1000) : popCText L M := by
  unfold popCText
  cases h : L.length == 0
  · have h0 : L.length ≠ 0 := by simpa using h
    rw [show ((L.length : Int) == (0 : Int)) = false by rw [beq_eq_false_iff_ne]; omega, show decide ((0 : Int) ≤ (0 : Int) ∧ (0 : Int) < (L.length : Int) ∧ L.length ≤ (100000 : Nat)) = true from decide_eq_true ⟨by omega, by omega, by omega⟩]
    repeat' first | trivial | rfl | apply And.intro
  · have h0 : L.length = 0 := by simpa using h
    rw [show ((L.length : Int) == (0 : Int)) = true by rw [beq_iff_eq]; omega]
    repeat' first | trivial | rfl | apply And.intro
noncomputable def popCCon : Con T O := fun args cs => match args, cs with
  | [.ptr 0 0], [.cells [.fn 24 [], .own 1, .own 2] 69, .vec 2 L 74, .map 0 M] => chk (decide (L.length ≤ 1000)) (.ite (L.length == 0) (.ret ⟨some (.tup [.raw (.int .i64 0), .agg [.raw (.int .i64 0), .raw (.int .i64 0), .raw (.int .i64 0)], .raw (.bool false)]), [(1, some (.vec 2 (L) 74)), (2, some (.map 0 (M)))]⟩) (.ret ⟨some (.tup [.raw (.int .i64 (at' tz L 0).Id), .agg [.raw (.int .i64 (at' tz L 0).XAt), .raw (.int .i64 (at' tz L 0).XID), .raw (.int .i64 (at' tz L 0).XKind)], .raw (.bool true)]), [(0, some (.cells [.fn 24 [], .own 3, .own 2] 69)), (1, none), (2, some (.map 0 (takeH (L, M) 0).2)), (3, some (.vec 2 (takeH (L, M) 0).1 74))]⟩))
  | _, _ => .fail
theorem popCOk : ConOk R Try.prog 29 popCCon := con_of_fn R (X7) (TabOk.con R X7Ok) mixed Try.call29 Try.func29 popCCon (by
  intro args cs K h
  unfold popCCon at h
  split at h
  · rename_i L M
    rw [Tree.holds_chk] at h
    obtain ⟨hp, h⟩ := h
    refine ⟨noAnn, _, fun v S hv => holds_if h v S hv, ?_⟩
    rw [popCVc L M]
    exact popCHolds L M (of_decide_eq_true hp)
  · exact h.elim)
/-! ### (*regatta/heap.Heap[regatta/api.Event]).Min -/
def minCText (L : List Thing) (M : List (Int × Int)) : Prop := (match ((↑L.length : Int) == (0 : Int)) with | true => (((((bif L.length == (0 : Nat) then (0 : Int) else (at' tz L (0 : Int)).Id) = (0 : Int)) ∧ ((((bif L.length == (0 : Nat) then (0 : Int) else (at' tz L (0 : Int)).XAt) = (0 : Int)) ∧ (((bif L.length == (0 : Nat) then (0 : Int) else (at' tz L (0 : Int)).XID) = (0 : Int)) ∧ (((bif L.length == (0 : Nat) then (0 : Int) else (at' tz L (0 : Int)).XKind) = (0 : Int)) ∧ True))) ∧ (((!L.length == (0 : Nat)) = false) ∧ True))) ∧ True) ∧ ((True ∧ (True ∧ (True ∧ True))) ∧ ((L = L) ∧ ((M = M) ∧ True)))) | false => (match (inb (0 : Int) L.length) with | true => (match (inb (0 : Int) L.length) with | true => (match (inb (0 : Int) L.length) with | true => (match (inb (0 : Int) L.length) with | true => (((((bif L.length == (0 : Nat) then (0 : Int) else (at' tz L (0 : Int)).Id) = (at' thingE.zero L (0 : Int)).Id) ∧ ((((bif L.length == (0 : Nat) then (0 : Int) else (at' tz L (0 : Int)).XAt) = (at' thingE.zero L (0 : Int)).XAt) ∧ (((bif L.length == (0 : Nat) then (0 : Int) else (at' tz L (0 : Int)).XID) = (at' thingE.zero L (0 : Int)).XID) ∧ (((bif L.length == (0 : Nat) then (0 : Int) else (at' tz L (0 : Int)).XKind) = (at' thingE.zero L (0 : Int)).XKind) ∧ True))) ∧ (((!L.length == (0 : Nat)) = true) ∧ True))) ∧ True) ∧ ((True ∧ (True ∧ (True ∧ True))) ∧ ((L = L) ∧ ((M = M) ∧ True)))) | false => False) | false => False) | false => False) | false => False))
theorem minCVc (L : List Thing) (M : List (Int × Int)) : fnX X7 (noAnn) Try.f32 [.ptr 0 0] [.cells [.fn 24 [], .own 1, .own 2] 69, .vec 2 L 74, .map 0 M] (ends [.cells [.fn 24 [], .own 1, .own 2] 69, .vec 2 L 74, .map 0 M] ⟨some (.tup [.raw (.int .i64 (bif L.length == 0 then 0 else (at' tz L 0).Id)), .agg [.raw (.int .i64 (bif L.length == 0 then 0 else (at' tz L 0).XAt)), .raw (.int .i64 (bif L.length == 0 then 0 else (at' tz L 0).XID)), .raw (.int .i64 (bif L.length == 0 then 0 else (at' tz L 0).XKind))], .raw (.bool (!(L.length == 0)))]), [(1, some (.vec 2 (L) 74)), (2, some (.map 0 (M)))]⟩) = minCText L M := by kernel_rfl
theorem minCHolds (L : List Thing) (M : List (Int × Int)) (hp : L.length ≤ 1000) : minCText L M := by
  unfold minCText
  cases h : L.length == 0
  · have h0 : L.length ≠ 0 := by simpa using h
    rw [show ((L.length : Int) == (0 : Int)) = false by rw [beq_eq_false_iff_ne]; omega, show inb (0 : Int) L.length = true from inb_iff.2 ⟨by omega, by omega⟩]
    repeat' first | trivial | rfl | apply And.intro
  · have h0 : L.length = 0 := by simpa using h
    rw [show ((L.length : Int) == (0 : Int)) = true by rw [beq_iff_eq]; omega]
    repeat' first | trivial | rfl | apply And.intro
noncomputable def minCCon : Con T O := fun args cs => match args, cs with
  | [.ptr 0 0], [.cells [.fn 24 [], .own 1, .own 2] 69, .vec 2 L 74, .map 0 M] => chk (decide (L.length ≤ 1000)) (.ret ⟨some (.tup [.raw (.int .i64 (bif L.length == 0 then 0 else (at' tz L 0).Id)), .agg [.raw (.int .i64 (bif L.length == 0 then 0 else (at' tz L 0).XAt)), .raw (.int .i64 (bif L.length == 0 then 0 else (at' tz L 0).XID)), .raw (.int .i64 (bif L.length == 0 then 0 else (at' tz L 0).XKind))], .raw (.bool (!(L.length == 0)))]), [(1, some (.vec 2 (L) 74)), (2, some (.map 0 (M)))]⟩)
  | _, _ => .fail
theorem minCOk : ConOk R Try.prog 32 minCCon := con_of_fn R (X7) (TabOk.con R X7Ok) mixed Try.call32 Try.func32 minCCon (by
  intro args cs K h
  unfold minCCon at h
  split at h
  · rename_i L M
    rw [Tree.holds_chk] at h
    obtain ⟨hp, h⟩ := h
    refine ⟨noAnn, _, fun v S hv => ⟨_, h, hv⟩, ?_⟩
    rw [minCVc L M]
    exact minCHolds L M (of_decide_eq_true hp)
  · exact h.elim)
/-! ### (*regatta/heap.Heap[regatta/api.Event]).Remove -/
def removeCText (L : List Thing) (M : List (Int × Int)) (id : Int) : Prop := (match (!(mget id M).isSome) with | true => (match (thereB id M) with | true => ((((((at' tz L (whereI id M)).XAt = (0 : Int)) ∧ (((at' tz L (whereI id M)).XID = (0 : Int)) ∧ (((at' tz L (whereI id M)).XKind = (0 : Int)) ∧ True))) ∧ ((true = false) ∧ True)) ∧ True) ∧ ((True ∧ (True ∧ (True ∧ True))) ∧ (((takeH (L, M) (whereI id M).toNat).snd = M) ∧ (((takeH (L, M) (whereI id M).toNat).fst = L) ∧ True)))) | false => ((((((0 : Int) = (0 : Int)) ∧ (((0 : Int) = (0 : Int)) ∧ (((0 : Int) = (0 : Int)) ∧ True))) ∧ ((false = false) ∧ True)) ∧ True) ∧ ((True ∧ (True ∧ (True ∧ True))) ∧ ((L = L) ∧ ((M = M) ∧ True))))) | false => (match (decide ((0 : Int) ≤ (mget id M).getD (0 : Int) ∧ (mget id M).getD (0 : Int) < (↑L.length : Int) ∧ L.length ≤ (100000 : Nat))) with | true => (match (thereB id M) with | true => ((((((at' tz L (whereI id M)).XAt = (at' tz L ((mget id M).getD (0 : Int))).XAt) ∧ (((at' tz L (whereI id M)).XID = (at' tz L ((mget id M).getD (0 : Int))).XID) ∧ (((at' tz L (whereI id M)).XKind = (at' tz L ((mget id M).getD (0 : Int))).XKind) ∧ True))) ∧ ((true = true) ∧ True)) ∧ True) ∧ ((True ∧ (True ∧ (True ∧ True))) ∧ (((takeH (L, M) (whereI id M).toNat).snd = (takeH (L, M) (Int.toNat ((mget id M).getD (0 : Int)))).snd) ∧ (((takeH (L, M) (whereI id M).toNat).fst = (takeH (L, M) (Int.toNat ((mget id M).getD (0 : Int)))).fst) ∧ True)))) | false => ((((((0 : Int) = (at' tz L ((mget id M).getD (0 : Int))).XAt) ∧ (((0 : Int) = (at' tz L ((mget id M).getD (0 : Int))).XID) ∧ (((0 : Int) = (at' tz L ((mget id M).getD (0 : Int))).XKind) ∧ True))) ∧ ((false = true) ∧ True)) ∧ True) ∧ ((True ∧ (False ∧ (True ∧ True))) ∧ (False ∧ ((M = (takeH (L, M) (Int.toNat ((mget id M).getD (0 : Int)))).snd) ∧ True))))) | false => False))
theorem removeCVc (L : List Thing) (M : List (Int × Int)) (id : Int) : fnX X7 (noAnn) Try.f31 [.ptr 0 0, .raw (.int .i64 id)] [.cells [.fn 24 [], .own 1, .own 2] 69, .vec 2 L 74, .map 0 M] (endsIf (thereB id M) [.cells [.fn 24 [], .own 1, .own 2] 69, .vec 2 L 74, .map 0 M] ⟨some (.tup [.agg [.raw (.int .i64 (at' tz L (whereI id M)).XAt), .raw (.int .i64 (at' tz L (whereI id M)).XID), .raw (.int .i64 (at' tz L (whereI id M)).XKind)], .raw (.bool true)]), [(0, some (.cells [.fn 24 [], .own 3, .own 2] 69)), (1, none), (2, some (.map 0 (takeH (L, M) (whereI id M).toNat).2)), (3, some (.vec 2 (takeH (L, M) (whereI id M).toNat).1 74))]⟩ ⟨some (.tup [.agg [.raw (.int .i64 0), .raw (.int .i64 0), .raw (.int .i64 0)], .raw (.bool false)]), [(1, some (.vec 2 (L) 74)), (2, some (.map 0 (M)))]⟩) = removeCText L M id := by kernel_rfl
theorem removeCHolds (L : List Thing) (M : List (Int × Int)) (id : Int) (hp : L.length ≤ 1000 ∧ (thereB id M = true → 0 ≤ whereI id M ∧ whereI id M < L.length)) : removeCText L M id := by
  unfold removeCText
  obtain ⟨h1, h2⟩ := hp
  cases h : thereB id M
  · rw [show (mget id M).isSome = false from h]
    repeat' first | trivial | rfl | apply And.intro
  · obtain ⟨h3, h4⟩ := h2 h
    rw [show (mget id M).isSome = true from h, show decide ((0 : Int) ≤ (mget id M).getD (0 : Int) ∧ (mget id M).getD (0 : Int) < (L.length : Int) ∧ L.length ≤ (100000 : Nat)) = true from decide_eq_true ⟨h3, h4, by omega⟩]
    repeat' first | trivial | rfl | apply And.intro
noncomputable def removeCCon : Con T O := fun args cs => match args, cs with
  | [.ptr 0 0, .raw (.int .i64 id)], [.cells [.fn 24 [], .own 1, .own 2] 69, .vec 2 L 74, .map 0 M] => chk (decide (L.length ≤ 1000 ∧ (thereB id M = true → 0 ≤ whereI id M ∧ whereI id M < L.length))) (.ite (thereB id M) (.ret ⟨some (.tup [.agg [.raw (.int .i64 (at' tz L (whereI id M)).XAt), .raw (.int .i64 (at' tz L (whereI id M)).XID), .raw (.int .i64 (at' tz L (whereI id M)).XKind)], .raw (.bool true)]), [(0, some (.cells [.fn 24 [], .own 3, .own 2] 69)), (1, none), (2, some (.map 0 (takeH (L, M) (whereI id M).toNat).2)), (3, some (.vec 2 (takeH (L, M) (whereI id M).toNat).1 74))]⟩) (.ret ⟨some (.tup [.agg [.raw (.int .i64 0), .raw (.int .i64 0), .raw (.int .i64 0)], .raw (.bool false)]), [(1, some (.vec 2 (L) 74)), (2, some (.map 0 (M)))]⟩))
  | _, _ => .fail
theorem removeCOk : ConOk R Try.prog 31 removeCCon := con_of_fn R (X7) (TabOk.con R X7Ok) mixed Try.call31 Try.func31 removeCCon (by
  intro args cs K h
  unfold removeCCon at h
  split at h
  · rename_i id L M
    rw [Tree.holds_chk] at h
    obtain ⟨hp, h⟩ := h
    refine ⟨noAnn, _, fun v S hv => holds_if h v S hv, ?_⟩
    rw [removeCVc L M id]
    exact removeCHolds L M id (of_decide_eq_true hp)
  · exact h.elim)
noncomputable def tab8 : Tab T O := (27, pushCCon) :: (29, popCCon) :: (32, minCCon) :: (31, removeCCon) :: tab7
theorem tabOk8 : TabOk R Try.prog tab8 := TabOk.cons R pushCOk <| TabOk.cons R popCOk <| TabOk.cons R minCOk <| TabOk.cons R removeCOk <| tabOk7
noncomputable def X8 : Ctx T O := { X0 with con := conOf tab8 }
theorem X8Ok : TabOk R X8.P tab8 := tabOk8
end Go.Proofs.Ythihpebdcamilaa
