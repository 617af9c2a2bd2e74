/-
  Part of a proof over the seat Ytdnndahaeammcaa: printed by a small program or typed by hand.
-/
import Derived.Test.YtdnndahaeammcaaHplS5
import Derived.KernelRfl
namespace Go.Proofs.Ytdnndahaeammcaa
open Go.Sx Go.Proofs Classical

def pushH (s : HS) (id x : Int) : HS := riseN s.1.length (s.1 ++ [⟨id, x⟩], mput id s.1.length s.2) s.1.length

/-! ### (*regatta/heap.Heap[int]).Push -/
def pushCText (L : List Thing) (M : List (Int × Int)) (id x : Int) : Prop := (match ((mget id M).isSome) with | true => (match (thereB id M) with | true => (((false = false) ∧ True) ∧ ((True ∧ (True ∧ (True ∧ True))) ∧ ((L = L) ∧ ((M = M) ∧ True)))) | false => (((true = false) ∧ True) ∧ ((True ∧ (True ∧ (True ∧ True))) ∧ (((pushH (L, M) id x).snd = M) ∧ (((pushH (L, M) id x).fst = L) ∧ True))))) | false => (match (roomy (L.length + (1 : Nat)) (nat_lit 16)) with | true => (match (decide ((0 : Int) ≤ IntKind.i64.wrap ((↑(L ++ [Thing.mk id x]).length : Int) - (1 : Int)) ∧ IntKind.i64.wrap ((↑(L ++ [Thing.mk id x]).length : Int) - (1 : Int)) < (↑(L ++ [Thing.mk id x]).length : Int) ∧ (L ++ [Thing.mk id x]).length ≤ (100000 : Nat))) with | true => (match (thereB id M) with | true => (((false = true) ∧ True) ∧ ((True ∧ (False ∧ (True ∧ True))) ∧ (False ∧ ((M = (riseN (IntKind.i64.wrap ((↑(L ++ [Thing.mk id x]).length : Int) - (1 : Int))).toNat (L ++ [Thing.mk id x], mput id (↑L.length : Int) M) (IntKind.i64.wrap ((↑(L ++ [Thing.mk id x]).length : Int) - (1 : Int))).toNat).snd) ∧ True)))) | false => (((true = true) ∧ True) ∧ ((True ∧ (True ∧ (True ∧ True))) ∧ (((pushH (L, M) id x).snd = (riseN (IntKind.i64.wrap ((↑(L ++ [Thing.mk id x]).length : Int) - (1 : Int))).toNat (L ++ [Thing.mk id x], mput id (↑L.length : Int) M) (IntKind.i64.wrap ((↑(L ++ [Thing.mk id x]).length : Int) - (1 : Int))).toNat).snd) ∧ (((pushH (L, M) id x).fst = (riseN (IntKind.i64.wrap ((↑(L ++ [Thing.mk id x]).length : Int) - (1 : Int))).toNat (L ++ [Thing.mk id x], mput id (↑L.length : Int) M) (IntKind.i64.wrap ((↑(L ++ [Thing.mk id x]).length : Int) - (1 : Int))).toNat).fst) ∧ True))))) | false => False) | false => False))
theorem pushCVc (L : List Thing) (M : List (Int × Int)) (id x : Int) : fnX X5 (noAnn) Try.f11 [.ptr 0 0, .raw (.int .i64 id), .raw (.int .i64 x)] [.cells [.fn 10 [], .own 1, .own 2] 54, .vec 2 L 57, .map 0 M] (endsIf (thereB id M) [.cells [.fn 10 [], .own 1, .own 2] 54, .vec 2 L 57, .map 0 M] ⟨some (.raw (.bool false)), [(1, some (.vec 2 (L) 57)), (2, some (.map 0 (M)))]⟩ ⟨some (.raw (.bool true)), [(0, some (.cells [.fn 10 [], .own 3, .own 2] 54)), (1, none), (2, some (.map 0 (pushH (L, M) id x).2)), (3, some (.vec 2 (pushH (L, M) id x).1 57))]⟩) = pushCText L M id x := by kernel_rfl
theorem pushCHolds (L : List Thing) (M : List (Int × Int)) (id x : Int) (hp : L.length ≤ 1000) : pushCText L M id x := by
  unfold pushCText
  have el : (L ++ [Thing.mk id x]).length = L.length + 1 := by simp
  have ew : IntKind.i64.wrap (((L ++ [Thing.mk id x]).length : Int) - 1) = (L.length : Int) := by rw [el, wrap_id (by omega) (by omega)]; omega
  cases h : thereB id M
  · rw [show (mget id M).isSome = false from h, show roomy (L.length + 1) 16 = true by simp [roomy]; omega, ew]
    rw [show decide ((0 : Int) ≤ (L.length : Int) ∧ (L.length : Int) < ((L ++ [Thing.mk id x]).length : Int) ∧ (L ++ [Thing.mk id x]).length ≤ (100000 : Nat)) = true from decide_eq_true (by rw [el]; omega)]
    rw [Int.toNat_natCast]
    exact ⟨⟨rfl, trivial⟩, ⟨trivial, trivial, trivial, trivial⟩, rfl, rfl, trivial⟩
  · rw [show (mget id M).isSome = true from h]
    exact ⟨⟨rfl, trivial⟩, ⟨trivial, trivial, trivial, trivial⟩, rfl, rfl, trivial⟩
noncomputable def pushCCon : Con T O := fun args cs => match args, cs with
  | [.ptr 0 0, .raw (.int .i64 id), .raw (.int .i64 x)], [.cells [.fn 10 [], .own 1, .own 2] 54, .vec 2 L 57, .map 0 M] => chk (decide (L.length ≤ 1000)) (.ite (thereB id M) (.ret ⟨some (.raw (.bool false)), [(1, some (.vec 2 (L) 57)), (2, some (.map 0 (M)))]⟩) (.ret ⟨some (.raw (.bool true)), [(0, some (.cells [.fn 10 [], .own 3, .own 2] 54)), (1, none), (2, some (.map 0 (pushH (L, M) id x).2)), (3, some (.vec 2 (pushH (L, M) id x).1 57))]⟩))
  | _, _ => .fail
theorem pushCOk : ConOk R Try.prog 11 pushCCon := con_of_fn R (X5) (TabOk.con R X5Ok) mixed Try.call11 Try.func11 pushCCon (by
  intro args cs K h
  unfold pushCCon at h
  split at h
  · rename_i id x L M
    rw [Tree.holds_chk] at h
    obtain ⟨hp, h⟩ := h
    refine ⟨noAnn, _, fun v S hv => holds_if h v S hv, ?_⟩
    rw [pushCVc L M id x]
    exact pushCHolds L M id x (of_decide_eq_true hp)
  · exact h.elim)
/-! ### (*regatta/heap.Heap[int]).Pop -/
def popCText (L : List Thing) (M : List (Int × Int)) : Prop := (match ((↑L.length : Int) == (0 : Int)) with | true => (match (L.length == (0 : Nat)) with | true => (((((0 : Int) = (0 : Int)) ∧ (((0 : Int) = (0 : Int)) ∧ ((false = false) ∧ True))) ∧ True) ∧ ((True ∧ (True ∧ (True ∧ True))) ∧ ((L = L) ∧ ((M = M) ∧ True)))) | false => (((((at' tz L (0 : Int)).Id = (0 : Int)) ∧ (((at' tz L (0 : Int)).X = (0 : Int)) ∧ ((true = false) ∧ True))) ∧ True) ∧ ((True ∧ (True ∧ (True ∧ True))) ∧ (((takeH (L, M) (0 : Nat)).snd = M) ∧ (((takeH (L, M) (0 : Nat)).fst = L) ∧ True))))) | false => (match (decide ((0 : Int) ≤ (0 : Int) ∧ (0 : Int) < (↑L.length : Int) ∧ L.length ≤ (100000 : Nat))) with | true => (match (L.length == (0 : Nat)) with | true => (((((0 : Int) = (at' tz L (0 : Int)).Id) ∧ (((0 : Int) = (at' tz L (0 : Int)).X) ∧ ((false = true) ∧ True))) ∧ True) ∧ ((True ∧ (False ∧ (True ∧ True))) ∧ (False ∧ ((M = (takeH (L, M) (Int.toNat (0 : Int))).snd) ∧ True)))) | false => (((((at' tz L (0 : Int)).Id = (at' tz L (0 : Int)).Id) ∧ (((at' tz L (0 : Int)).X = (at' tz L (0 : Int)).X) ∧ ((true = true) ∧ True))) ∧ True) ∧ ((True ∧ (True ∧ (True ∧ True))) ∧ (((takeH (L, M) (0 : Nat)).snd = (takeH (L, M) (Int.toNat (0 : Int))).snd) ∧ (((takeH (L, M) (0 : Nat)).fst = (takeH (L, M) (Int.toNat (0 : Int))).fst) ∧ True))))) | false => False))
theorem popCVc (L : List Thing) (M : List (Int × Int)) : fnX X5 (noAnn) Try.f12 [.ptr 0 0] [.cells [.fn 10 [], .own 1, .own 2] 54, .vec 2 L 57, .map 0 M] (endsIf (L.length == 0) [.cells [.fn 10 [], .own 1, .own 2] 54, .vec 2 L 57, .map 0 M] ⟨some (.tup [.raw (.int .i64 0), .raw (.int .i64 0), .raw (.bool false)]), [(1, some (.vec 2 (L) 57)), (2, some (.map 0 (M)))]⟩ ⟨some (.tup [.raw (.int .i64 (at' tz L 0).Id), .raw (.int .i64 (at' tz L 0).X), .raw (.bool true)]), [(0, some (.cells [.fn 10 [], .own 3, .own 2] 54)), (1, none), (2, some (.map 0 (takeH (L, M) 0).2)), (3, some (.vec 2 (takeH (L, M) 0).1 57))]⟩) = popCText L M := by kernel_rfl
theorem popCHolds (L : List Thing) (M : List (Int × Int)) (hp : L.length ≤ 1000) : popCText L M := by
  unfold popCText
  cases h : L.length == 0
  · have h0 : L.length ≠ 0 := by simpa using h
    rw [show ((L.length : Int) == (0 : Int)) = false by rw [beq_eq_false_iff_ne]; omega, show decide ((0 : Int) ≤ (0 : Int) ∧ (0 : Int) < (L.length : Int) ∧ L.length ≤ (100000 : Nat)) = true from decide_eq_true ⟨by omega, by omega, by omega⟩]
    exact ⟨⟨⟨rfl, rfl, rfl, trivial⟩, trivial⟩, ⟨trivial, trivial, trivial, trivial⟩, rfl, rfl, trivial⟩
  · have h0 : L.length = 0 := by simpa using h
    rw [show ((L.length : Int) == (0 : Int)) = true by rw [beq_iff_eq]; omega]
    exact ⟨⟨⟨rfl, rfl, rfl, trivial⟩, trivial⟩, ⟨trivial, trivial, trivial, trivial⟩, rfl, rfl, trivial⟩
noncomputable def popCCon : Con T O := fun args cs => match args, cs with
  | [.ptr 0 0], [.cells [.fn 10 [], .own 1, .own 2] 54, .vec 2 L 57, .map 0 M] => chk (decide (L.length ≤ 1000)) (.ite (L.length == 0) (.ret ⟨some (.tup [.raw (.int .i64 0), .raw (.int .i64 0), .raw (.bool false)]), [(1, some (.vec 2 (L) 57)), (2, some (.map 0 (M)))]⟩) (.ret ⟨some (.tup [.raw (.int .i64 (at' tz L 0).Id), .raw (.int .i64 (at' tz L 0).X), .raw (.bool true)]), [(0, some (.cells [.fn 10 [], .own 3, .own 2] 54)), (1, none), (2, some (.map 0 (takeH (L, M) 0).2)), (3, some (.vec 2 (takeH (L, M) 0).1 57))]⟩))
  | _, _ => .fail
theorem popCOk : ConOk R Try.prog 12 popCCon := con_of_fn R (X5) (TabOk.con R X5Ok) mixed Try.call12 Try.func12 popCCon (by
  intro args cs K h
  unfold popCCon at h
  split at h
  · rename_i L M
    rw [Tree.holds_chk] at h
    obtain ⟨hp, h⟩ := h
    refine ⟨noAnn, _, fun v S hv => holds_if h v S hv, ?_⟩
    rw [popCVc L M]
    exact popCHolds L M (of_decide_eq_true hp)
  · exact h.elim)
/-! ### (*regatta/heap.Heap[int]).Min -/
def minCText (L : List Thing) (M : List (Int × Int)) : Prop := (match ((↑L.length : Int) == (0 : Int)) with | true => (((((bif L.length == (0 : Nat) then (0 : Int) else (at' tz L (0 : Int)).Id) = (0 : Int)) ∧ (((bif L.length == (0 : Nat) then (0 : Int) else (at' tz L (0 : Int)).X) = (0 : Int)) ∧ (((!L.length == (0 : Nat)) = false) ∧ True))) ∧ True) ∧ ((True ∧ (True ∧ (True ∧ True))) ∧ ((L = L) ∧ ((M = M) ∧ True)))) | false => (match (inb (0 : Int) L.length) with | true => (match (inb (0 : Int) L.length) with | true => (match (inb (0 : Int) L.length) with | true => (match (inb (0 : Int) L.length) with | true => (((((bif L.length == (0 : Nat) then (0 : Int) else (at' tz L (0 : Int)).Id) = (at' (T (2 : Nat)).zero L (0 : Int)).Id) ∧ (((bif L.length == (0 : Nat) then (0 : Int) else (at' tz L (0 : Int)).X) = (at' (T (2 : Nat)).zero L (0 : Int)).X) ∧ (((!L.length == (0 : Nat)) = true) ∧ True))) ∧ True) ∧ ((True ∧ (True ∧ (True ∧ True))) ∧ ((L = L) ∧ ((M = M) ∧ True)))) | false => False) | false => False) | false => False) | false => False))
theorem minCVc (L : List Thing) (M : List (Int × Int)) : fnX X5 (noAnn) Try.f15 [.ptr 0 0] [.cells [.fn 10 [], .own 1, .own 2] 54, .vec 2 L 57, .map 0 M] (ends [.cells [.fn 10 [], .own 1, .own 2] 54, .vec 2 L 57, .map 0 M] ⟨some (.tup [.raw (.int .i64 (bif L.length == 0 then 0 else (at' tz L 0).Id)), .raw (.int .i64 (bif L.length == 0 then 0 else (at' tz L 0).X)), .raw (.bool (!(L.length == 0)))]), [(1, some (.vec 2 (L) 57)), (2, some (.map 0 (M)))]⟩) = minCText L M := by kernel_rfl
theorem minCHolds (L : List Thing) (M : List (Int × Int)) (hp : L.length ≤ 1000) : minCText L M := by
  unfold minCText
  cases h : L.length == 0
  · have h0 : L.length ≠ 0 := by simpa using h
    rw [show ((L.length : Int) == (0 : Int)) = false by rw [beq_eq_false_iff_ne]; omega, show inb (0 : Int) L.length = true from inb_iff.2 ⟨by omega, by omega⟩]
    exact ⟨⟨⟨rfl, rfl, rfl, trivial⟩, trivial⟩, ⟨trivial, trivial, trivial, trivial⟩, rfl, rfl, trivial⟩
  · have h0 : L.length = 0 := by simpa using h
    rw [show ((L.length : Int) == (0 : Int)) = true by rw [beq_iff_eq]; omega]
    exact ⟨⟨⟨rfl, rfl, rfl, trivial⟩, trivial⟩, ⟨trivial, trivial, trivial, trivial⟩, rfl, rfl, trivial⟩
noncomputable def minCCon : Con T O := fun args cs => match args, cs with
  | [.ptr 0 0], [.cells [.fn 10 [], .own 1, .own 2] 54, .vec 2 L 57, .map 0 M] => chk (decide (L.length ≤ 1000)) (.ret ⟨some (.tup [.raw (.int .i64 (bif L.length == 0 then 0 else (at' tz L 0).Id)), .raw (.int .i64 (bif L.length == 0 then 0 else (at' tz L 0).X)), .raw (.bool (!(L.length == 0)))]), [(1, some (.vec 2 (L) 57)), (2, some (.map 0 (M)))]⟩)
  | _, _ => .fail
theorem minCOk : ConOk R Try.prog 15 minCCon := con_of_fn R (X5) (TabOk.con R X5Ok) mixed Try.call15 Try.func15 minCCon (by
  intro args cs K h
  unfold minCCon at h
  split at h
  · rename_i L M
    rw [Tree.holds_chk] at h
    obtain ⟨hp, h⟩ := h
    refine ⟨noAnn, _, fun v S hv => ⟨_, h, hv⟩, ?_⟩
    rw [minCVc L M]
    exact minCHolds L M (of_decide_eq_true hp)
  · exact h.elim)
/-! ### (*regatta/heap.Heap[int]).Remove -/
def removeCText (L : List Thing) (M : List (Int × Int)) (id : Int) : Prop := (match (!(mget id M).isSome) with | true => (match (thereB id M) with | true => (((((at' tz L (whereI id M)).X = (0 : Int)) ∧ ((true = false) ∧ True)) ∧ True) ∧ ((True ∧ (True ∧ (True ∧ True))) ∧ (((takeH (L, M) (whereI id M).toNat).snd = M) ∧ (((takeH (L, M) (whereI id M).toNat).fst = L) ∧ True)))) | false => (((((0 : Int) = (0 : Int)) ∧ ((false = false) ∧ True)) ∧ True) ∧ ((True ∧ (True ∧ (True ∧ True))) ∧ ((L = L) ∧ ((M = M) ∧ True))))) | false => (match (decide ((0 : Int) ≤ (mget id M).getD (0 : Int) ∧ (mget id M).getD (0 : Int) < (↑L.length : Int) ∧ L.length ≤ (100000 : Nat))) with | true => (match (thereB id M) with | true => (((((at' tz L (whereI id M)).X = (at' tz L ((mget id M).getD (0 : Int))).X) ∧ ((true = true) ∧ True)) ∧ True) ∧ ((True ∧ (True ∧ (True ∧ True))) ∧ (((takeH (L, M) (whereI id M).toNat).snd = (takeH (L, M) (Int.toNat ((mget id M).getD (0 : Int)))).snd) ∧ (((takeH (L, M) (whereI id M).toNat).fst = (takeH (L, M) (Int.toNat ((mget id M).getD (0 : Int)))).fst) ∧ True)))) | false => (((((0 : Int) = (at' tz L ((mget id M).getD (0 : Int))).X) ∧ ((false = true) ∧ True)) ∧ True) ∧ ((True ∧ (False ∧ (True ∧ True))) ∧ (False ∧ ((M = (takeH (L, M) (Int.toNat ((mget id M).getD (0 : Int)))).snd) ∧ True))))) | false => False))
theorem removeCVc (L : List Thing) (M : List (Int × Int)) (id : Int) : fnX X5 (noAnn) Try.f14 [.ptr 0 0, .raw (.int .i64 id)] [.cells [.fn 10 [], .own 1, .own 2] 54, .vec 2 L 57, .map 0 M] (endsIf (thereB id M) [.cells [.fn 10 [], .own 1, .own 2] 54, .vec 2 L 57, .map 0 M] ⟨some (.tup [.raw (.int .i64 (at' tz L (whereI id M)).X), .raw (.bool true)]), [(0, some (.cells [.fn 10 [], .own 3, .own 2] 54)), (1, none), (2, some (.map 0 (takeH (L, M) (whereI id M).toNat).2)), (3, some (.vec 2 (takeH (L, M) (whereI id M).toNat).1 57))]⟩ ⟨some (.tup [.raw (.int .i64 0), .raw (.bool false)]), [(1, some (.vec 2 (L) 57)), (2, some (.map 0 (M)))]⟩) = removeCText L M id := by kernel_rfl
theorem removeCHolds (L : List Thing) (M : List (Int × Int)) (id : Int) (hp : L.length ≤ 1000 ∧ (thereB id M = true → 0 ≤ whereI id M ∧ whereI id M < L.length)) : removeCText L M id := by
  unfold removeCText
  obtain ⟨h1, h2⟩ := hp
  cases h : thereB id M
  · rw [show (mget id M).isSome = false from h]
    exact ⟨⟨⟨rfl, rfl, trivial⟩, trivial⟩, ⟨trivial, trivial, trivial, trivial⟩, rfl, rfl, trivial⟩
  · obtain ⟨h3, h4⟩ := h2 h
    rw [show (mget id M).isSome = true from h, show decide ((0 : Int) ≤ (mget id M).getD (0 : Int) ∧ (mget id M).getD (0 : Int) < (L.length : Int) ∧ L.length ≤ (100000 : Nat)) = true from decide_eq_true ⟨h3, h4, by omega⟩]
    exact ⟨⟨⟨rfl, rfl, trivial⟩, trivial⟩, ⟨trivial, trivial, trivial, trivial⟩, rfl, rfl, trivial⟩
noncomputable def removeCCon : Con T O := fun args cs => match args, cs with
  | [.ptr 0 0, .raw (.int .i64 id)], [.cells [.fn 10 [], .own 1, .own 2] 54, .vec 2 L 57, .map 0 M] => chk (decide (L.length ≤ 1000 ∧ (thereB id M = true → 0 ≤ whereI id M ∧ whereI id M < L.length))) (.ite (thereB id M) (.ret ⟨some (.tup [.raw (.int .i64 (at' tz L (whereI id M)).X), .raw (.bool true)]), [(0, some (.cells [.fn 10 [], .own 3, .own 2] 54)), (1, none), (2, some (.map 0 (takeH (L, M) (whereI id M).toNat).2)), (3, some (.vec 2 (takeH (L, M) (whereI id M).toNat).1 57))]⟩) (.ret ⟨some (.tup [.raw (.int .i64 0), .raw (.bool false)]), [(1, some (.vec 2 (L) 57)), (2, some (.map 0 (M)))]⟩))
  | _, _ => .fail
theorem removeCOk : ConOk R Try.prog 14 removeCCon := con_of_fn R (X5) (TabOk.con R X5Ok) mixed Try.call14 Try.func14 removeCCon (by
  intro args cs K h
  unfold removeCCon at h
  split at h
  · rename_i id L M
    rw [Tree.holds_chk] at h
    obtain ⟨hp, h⟩ := h
    refine ⟨noAnn, _, fun v S hv => holds_if h v S hv, ?_⟩
    rw [removeCVc L M id]
    exact removeCHolds L M id (of_decide_eq_true hp)
  · exact h.elim)
noncomputable def tab6 : Tab T O := (11, pushCCon) :: (12, popCCon) :: (15, minCCon) :: (14, removeCCon) :: tab5
theorem tabOk6 : TabOk R Try.prog tab6 := TabOk.cons R pushCOk <| TabOk.cons R popCOk <| TabOk.cons R minCOk <| TabOk.cons R removeCOk <| tabOk5
noncomputable def X6 : Ctx T O := { X0 with con := conOf tab6 }
theorem X6Ok : TabOk R X6.P tab6 := tabOk6
end Go.Proofs.Ytdnndahaeammcaa
