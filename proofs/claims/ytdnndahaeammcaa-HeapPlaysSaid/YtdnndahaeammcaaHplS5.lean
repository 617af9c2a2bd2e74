/-
  Part of a proof over the seat Ytdnndahaeammcaa: printed by a small program or typed by hand.
-/
import Derived.Test.YtdnndahaeammcaaHplS4
import Derived.KernelRfl
namespace Go.Proofs.Ytdnndahaeammcaa
open Go.Sx Go.Proofs Classical

def takeH (s : HS) (i : Nat) : HS :=
  bif decide (i < s.1.length - 1) then
    sinkN (s.1.length - 1 - i) (riseN i ((swapL s.1 i (s.1.length - 1 : Nat)).take (s.1.length - 1), mdel (at' tz s.1 i).Id (swapM s.1 s.2 i (s.1.length - 1 : Nat))) i) i
  else ((swapL s.1 i (s.1.length - 1 : Nat)).take (s.1.length - 1), mdel (at' tz s.1 i).Id (swapM s.1 s.2 i (s.1.length - 1 : Nat)))
theorem riseN_length : ∀ (n : Nat) (s : HS) (i : Nat), (riseN n s i).1.length = s.1.length
  | 0, _, _ => rfl
  | n + 1, s, i => by
    simp only [riseN]
    cases decide (0 < i) && aheadA s.1 i (up i)
    · rfl
    · simp only [cond_true]
      rw [riseN_length n]
      exact swapL_length _ _ _
def thereB (id : Int) (M : List (Int × Int)) : Bool := (mget id M).isSome
def whereI (id : Int) (M : List (Int × Int)) : Int := (mget id M).getD 0


theorem slOk_cut {k n : Nat} (h : k ≤ n) : slOk none (some (k : Int)) none (n : Int) = true := by simp [slOk, optB]; omega
def noThings : List Thing := []
def noPlaces : List (Int × Int) := []

/-! ### (*regatta/heap.Heap[int]).take -/
def takeText (L : List Thing) (M : List (Int × Int)) (i : Int) : Prop := (match (inb i L.length) with | true => (match (inb i L.length) with | true => (match (decide ((0 : Int) ≤ i ∧ i < (↑L.length : Int) ∧ (0 : Int) ≤ IntKind.i64.wrap ((↑L.length : Int) - (1 : Int)) ∧ IntKind.i64.wrap ((↑L.length : Int) - (1 : Int)) < (↑L.length : Int))) with | true => (match (slOk none (some (IntKind.i64.wrap ((↑L.length : Int) - (1 : Int)))) none (↑(swapL L i (IntKind.i64.wrap ((↑L.length : Int) - (1 : Int)))).length : Int) && decide (optB none (0 : Int) = (0 : Int))) with | true => (match (decide (i < IntKind.i64.wrap ((↑L.length : Int) - (1 : Int)))) with | true => (match (decide ((0 : Int) ≤ i ∧ i < (↑(cutL none (some (IntKind.i64.wrap ((↑L.length : Int) - (1 : Int)))) (swapL L i (IntKind.i64.wrap ((↑L.length : Int) - (1 : Int))))).length : Int) ∧ (cutL none (some (IntKind.i64.wrap ((↑L.length : Int) - (1 : Int)))) (swapL L i (IntKind.i64.wrap ((↑L.length : Int) - (1 : Int))))).length ≤ (100000 : Nat))) with | true => (match (decide ((0 : Int) ≤ i ∧ i < (↑(riseN i.toNat (cutL none (some (IntKind.i64.wrap ((↑L.length : Int) - (1 : Int)))) (swapL L i (IntKind.i64.wrap ((↑L.length : Int) - (1 : Int)))), mdel (at' (T (2 : Nat)).zero L i).Id (swapM L M i (IntKind.i64.wrap ((↑L.length : Int) - (1 : Int))))) i.toNat).fst.length : Int) ∧ (riseN i.toNat (cutL none (some (IntKind.i64.wrap ((↑L.length : Int) - (1 : Int)))) (swapL L i (IntKind.i64.wrap ((↑L.length : Int) - (1 : Int)))), mdel (at' (T (2 : Nat)).zero L i).Id (swapM L M i (IntKind.i64.wrap ((↑L.length : Int) - (1 : Int))))) i.toNat).fst.length ≤ (100000 : Nat))) with | true => (((((at' tz L i).Id = (at' (T (2 : Nat)).zero L i).Id) ∧ (((at' tz L i).X = (at' (T (2 : Nat)).zero L i).X) ∧ True)) ∧ True) ∧ ((True ∧ (True ∧ (True ∧ True))) ∧ (((takeH (L, M) i.toNat).snd = (sinkN ((riseN i.toNat (cutL none (some (IntKind.i64.wrap ((↑L.length : Int) - (1 : Int)))) (swapL L i (IntKind.i64.wrap ((↑L.length : Int) - (1 : Int)))), mdel (at' (T (2 : Nat)).zero L i).Id (swapM L M i (IntKind.i64.wrap ((↑L.length : Int) - (1 : Int))))) i.toNat).fst.length - i.toNat) (riseN i.toNat (cutL none (some (IntKind.i64.wrap ((↑L.length : Int) - (1 : Int)))) (swapL L i (IntKind.i64.wrap ((↑L.length : Int) - (1 : Int)))), mdel (at' (T (2 : Nat)).zero L i).Id (swapM L M i (IntKind.i64.wrap ((↑L.length : Int) - (1 : Int))))) i.toNat) i.toNat).snd) ∧ (((takeH (L, M) i.toNat).fst = (sinkN ((riseN i.toNat (cutL none (some (IntKind.i64.wrap ((↑L.length : Int) - (1 : Int)))) (swapL L i (IntKind.i64.wrap ((↑L.length : Int) - (1 : Int)))), mdel (at' (T (2 : Nat)).zero L i).Id (swapM L M i (IntKind.i64.wrap ((↑L.length : Int) - (1 : Int))))) i.toNat).fst.length - i.toNat) (riseN i.toNat (cutL none (some (IntKind.i64.wrap ((↑L.length : Int) - (1 : Int)))) (swapL L i (IntKind.i64.wrap ((↑L.length : Int) - (1 : Int)))), mdel (at' (T (2 : Nat)).zero L i).Id (swapM L M i (IntKind.i64.wrap ((↑L.length : Int) - (1 : Int))))) i.toNat) i.toNat).fst) ∧ True)))) | false => False) | false => False) | false => (((((at' tz L i).Id = (at' (T (2 : Nat)).zero L i).Id) ∧ (((at' tz L i).X = (at' (T (2 : Nat)).zero L i).X) ∧ True)) ∧ True) ∧ ((True ∧ (True ∧ (True ∧ True))) ∧ (((takeH (L, M) i.toNat).snd = mdel (at' (T (2 : Nat)).zero L i).Id (swapM L M i (IntKind.i64.wrap ((↑L.length : Int) - (1 : Int))))) ∧ (((takeH (L, M) i.toNat).fst = cutL none (some (IntKind.i64.wrap ((↑L.length : Int) - (1 : Int)))) (swapL L i (IntKind.i64.wrap ((↑L.length : Int) - (1 : Int))))) ∧ True))))) | false => False) | false => False) | false => False) | false => False)
theorem takeVc (L : List Thing) (M : List (Int × Int)) (i : Int) : fnX X4 (noAnn) Try.f27 [.ptr 0 0, .raw (.int .i64 i)] [.cells [.fn 10 [], .own 1, .own 2] 54, .vec 2 L 57, .map 0 M] (ends [.cells [.fn 10 [], .own 1, .own 2] 54, .vec 2 L 57, .map 0 M] ⟨some (.agg [.raw (.int .i64 (at' tz L i).Id), .raw (.int .i64 (at' tz L i).X)]), [(0, some (.cells [.fn 10 [], .own 3, .own 2] 54)), (1, none), (2, some (.map 0 (takeH (L, M) i.toNat).2)), (3, some (.vec 2 (takeH (L, M) i.toNat).1 57))]⟩) = takeText L M i := by kernel_rfl
theorem takeHolds (L : List Thing) (M : List (Int × Int)) (i : Int) (hp : 0 ≤ i ∧ i < L.length ∧ L.length ≤ 100000) : takeText L M i := by
  unfold takeText
  obtain ⟨p0, p1, p2⟩ := hp
  obtain ⟨n, rfl⟩ := Int.eq_ofNat_of_zero_le p0
  have hn : n < L.length := by omega
  have ew : IntKind.i64.wrap ((L.length : Int) - 1) = ((L.length - 1 : Nat) : Int) := by rw [wrap_id (by omega) (by omega)]; omega
  have ec : cutL none (some ((L.length - 1 : Nat) : Int)) (swapL L n (L.length - 1 : Nat)) = (swapL L n (L.length - 1 : Nat)).take (L.length - 1) := by simp [cutL, optB]
  rw [Int.toNat_natCast, ew, ec, inb_nat hn]
  rw [show decide (0 ≤ (n : Int) ∧ (n : Int) < (L.length : Int) ∧ 0 ≤ ((L.length - 1 : Nat) : Int) ∧ ((L.length - 1 : Nat) : Int) < (L.length : Int)) = true from decide_eq_true ⟨by omega, by omega, by omega, by omega⟩]
  rw [show (slOk none (some ((L.length - 1 : Nat) : Int)) none ((swapL L n (L.length - 1 : Nat)).length : Int) && decide (optB none 0 = 0)) = true by
    rw [swapL_length, slOk_cut (by omega)]
    rfl]
  have el : ((swapL L n (L.length - 1 : Nat)).take (L.length - 1)).length = L.length - 1 := by rw [List.length_take, swapL_length]; omega
  by_cases h : n < L.length - 1
  · have eq : takeH (L, M) n = sinkN (L.length - 1 - n) (riseN n ((swapL L n (L.length - 1 : Nat)).take (L.length - 1), mdel (at' tz L n).Id (swapM L M n (L.length - 1 : Nat))) n) n := by
      unfold takeH
      rw [decide_eq_true (show n < (L, M).1.length - 1 from h)]
      rfl
    rw [riseN_length]
    dsimp only
    rw [el, show decide ((n : Int) < ((L.length - 1 : Nat) : Int)) = true from decide_eq_true (by omega), show decide (0 ≤ (n : Int) ∧ (n : Int) < ((L.length - 1 : Nat) : Int) ∧ L.length - 1 ≤ 100000) = true from decide_eq_true ⟨by omega, by omega, by omega⟩]
    rw [eq]
    exact ⟨⟨⟨rfl, rfl, trivial⟩, trivial⟩, ⟨trivial, trivial, trivial, trivial⟩, rfl, rfl, trivial⟩
  · have eq : takeH (L, M) n = ((swapL L n (L.length - 1 : Nat)).take (L.length - 1), mdel (at' tz L n).Id (swapM L M n (L.length - 1 : Nat))) := by
      unfold takeH
      rw [decide_eq_false (show ¬ n < (L, M).1.length - 1 from h)]
      rfl
    rw [show decide ((n : Int) < ((L.length - 1 : Nat) : Int)) = false from decide_eq_false (by omega)]
    rw [eq]
    exact ⟨⟨⟨rfl, rfl, trivial⟩, trivial⟩, ⟨trivial, trivial, trivial, trivial⟩, rfl, rfl, trivial⟩
noncomputable def takeCon : Con T O := fun args cs => match args, cs with
  | [.ptr 0 0, .raw (.int .i64 i)], [.cells [.fn 10 [], .own 1, .own 2] 54, .vec 2 L 57, .map 0 M] => chk (decide (0 ≤ i ∧ i < L.length ∧ L.length ≤ 100000)) (.ret ⟨some (.agg [.raw (.int .i64 (at' tz L i).Id), .raw (.int .i64 (at' tz L i).X)]), [(0, some (.cells [.fn 10 [], .own 3, .own 2] 54)), (1, none), (2, some (.map 0 (takeH (L, M) i.toNat).2)), (3, some (.vec 2 (takeH (L, M) i.toNat).1 57))]⟩)
  | _, _ => .fail
theorem takeOk : ConOk R Try.prog 27 takeCon := con_of_fn R (X4) (TabOk.con R X4Ok) mixed Try.call27 Try.func27 takeCon (by
  intro args cs K h
  unfold takeCon at h
  split at h
  · rename_i i L M
    rw [Tree.holds_chk] at h
    obtain ⟨hp, h⟩ := h
    refine ⟨noAnn, _, fun v S hv => ⟨_, h, hv⟩, ?_⟩
    rw [takeVc L M i]
    exact takeHolds L M i (of_decide_eq_true hp)
  · exact h.elim)
/-! ### (*regatta/heap.Heap[int]).Len -/
def lenHText (L : List Thing) (M : List (Int × Int)) : Prop := ((((↑L.length : Int) = (↑L.length : Int)) ∧ True) ∧ ((True ∧ (True ∧ (True ∧ True))) ∧ ((L = L) ∧ ((M = M) ∧ True))))
theorem lenHVc (L : List Thing) (M : List (Int × Int)) : fnX X4 (noAnn) Try.f13 [.ptr 0 0] [.cells [.fn 10 [], .own 1, .own 2] 54, .vec 2 L 57, .map 0 M] (ends [.cells [.fn 10 [], .own 1, .own 2] 54, .vec 2 L 57, .map 0 M] ⟨some (.raw (.int .i64 L.length)), [(1, some (.vec 2 (L) 57)), (2, some (.map 0 (M)))]⟩) = lenHText L M := by kernel_rfl
theorem lenHHolds (L : List Thing) (M : List (Int × Int)) : lenHText L M := by
  unfold lenHText
  exact ⟨⟨rfl, trivial⟩, ⟨trivial, trivial, trivial, trivial⟩, rfl, rfl, trivial⟩
noncomputable def lenHCon : Con T O := fun args cs => match args, cs with
  | [.ptr 0 0], [.cells [.fn 10 [], .own 1, .own 2] 54, .vec 2 L 57, .map 0 M] => .ret ⟨some (.raw (.int .i64 L.length)), [(1, some (.vec 2 (L) 57)), (2, some (.map 0 (M)))]⟩
  | _, _ => .fail
theorem lenHOk : ConOk R Try.prog 13 lenHCon := con_of_fn R (X4) (TabOk.con R X4Ok) mixed Try.call13 Try.func13 lenHCon (by
  intro args cs K h
  unfold lenHCon at h
  split at h
  · rename_i L M
    refine ⟨noAnn, _, fun v S hv => ⟨_, h, hv⟩, ?_⟩
    rw [lenHVc L M]
    exact lenHHolds L M
  · exact h.elim)
/-! ### regatta/heap.New[int] -/
def newHText  : Prop := ((True ∧ True) ∧ ((True ∧ (True ∧ (True ∧ True))) ∧ ((noThings = []) ∧ ((noPlaces = []) ∧ True))))
theorem newHVc  : fnX X4 (noAnn) Try.f9 [.fn 10 []] [] (ends [] ⟨some (.ptr 0 0), [(0, some (.cells [.fn 10 [], .own 1, .own 2] 54)), (1, some (.vec 2 noThings 57)), (2, some (.map 0 noPlaces))]⟩) = newHText  := by kernel_rfl
theorem newHHolds  : newHText  := by
  unfold newHText
  exact ⟨⟨trivial, trivial⟩, ⟨trivial, trivial, trivial, trivial⟩, rfl, rfl, trivial⟩
noncomputable def newHCon : Con T O := fun args cs => match args, cs with
  | [.fn 10 []], [] => .ret ⟨some (.ptr 0 0), [(0, some (.cells [.fn 10 [], .own 1, .own 2] 54)), (1, some (.vec 2 noThings 57)), (2, some (.map 0 noPlaces))]⟩
  | _, _ => .fail
theorem newHOk : ConOk R Try.prog 9 newHCon := con_of_fn R (X4) (TabOk.con R X4Ok) mixed Try.call9 Try.func9 newHCon (by
  intro args cs K h
  unfold newHCon at h
  split at h
  ·
    refine ⟨noAnn, _, fun v S hv => ⟨_, h, hv⟩, ?_⟩
    rw [newHVc ]
    exact newHHolds 
  · exact h.elim)
/-! ### (*regatta/heap.Heap[int]).Get -/
def getHText (L : List Thing) (M : List (Int × Int)) (id : Int) : Prop := (match (!(mget id M).isSome) with | true => (((((bif thereB id M then (at' tz L (whereI id M)).X else (0 : Int)) = (0 : Int)) ∧ ((thereB id M = false) ∧ True)) ∧ True) ∧ ((True ∧ (True ∧ (True ∧ True))) ∧ ((L = L) ∧ ((M = M) ∧ True)))) | false => (match (inb ((mget id M).getD (0 : Int)) L.length) with | true => (match (inb ((mget id M).getD (0 : Int)) L.length) with | true => (((((bif thereB id M then (at' tz L (whereI id M)).X else (0 : Int)) = (at' (T (2 : Nat)).zero L ((mget id M).getD (0 : Int))).X) ∧ ((thereB id M = true) ∧ True)) ∧ True) ∧ ((True ∧ (True ∧ (True ∧ True))) ∧ ((L = L) ∧ ((M = M) ∧ True)))) | false => False) | false => False))
theorem getHVc (L : List Thing) (M : List (Int × Int)) (id : Int) : fnX X4 (noAnn) Try.f16 [.ptr 0 0, .raw (.int .i64 id)] [.cells [.fn 10 [], .own 1, .own 2] 54, .vec 2 L 57, .map 0 M] (ends [.cells [.fn 10 [], .own 1, .own 2] 54, .vec 2 L 57, .map 0 M] ⟨some (.tup [.raw (.int .i64 (bif thereB id M then (at' tz L (whereI id M)).X else 0)), .raw (.bool (thereB id M))]), [(1, some (.vec 2 (L) 57)), (2, some (.map 0 (M)))]⟩) = getHText L M id := by kernel_rfl
theorem getHHolds (L : List Thing) (M : List (Int × Int)) (id : Int) (hp : thereB id M = true → 0 ≤ whereI id M ∧ whereI id M < L.length) : getHText L M id := by
  unfold getHText
  cases h : thereB id M
  · rw [show (mget id M).isSome = false from h]
    exact ⟨⟨⟨rfl, rfl, trivial⟩, trivial⟩, ⟨trivial, trivial, trivial, trivial⟩, rfl, rfl, trivial⟩
  · rw [show (mget id M).isSome = true from h, show inb ((mget id M).getD 0) L.length = true from inb_iff.2 (hp h)]
    exact ⟨⟨⟨rfl, rfl, trivial⟩, trivial⟩, ⟨trivial, trivial, trivial, trivial⟩, rfl, rfl, trivial⟩
noncomputable def getHCon : Con T O := fun args cs => match args, cs with
  | [.ptr 0 0, .raw (.int .i64 id)], [.cells [.fn 10 [], .own 1, .own 2] 54, .vec 2 L 57, .map 0 M] => chk (decide (thereB id M = true → 0 ≤ whereI id M ∧ whereI id M < L.length)) (.ret ⟨some (.tup [.raw (.int .i64 (bif thereB id M then (at' tz L (whereI id M)).X else 0)), .raw (.bool (thereB id M))]), [(1, some (.vec 2 (L) 57)), (2, some (.map 0 (M)))]⟩)
  | _, _ => .fail
theorem getHOk : ConOk R Try.prog 16 getHCon := con_of_fn R (X4) (TabOk.con R X4Ok) mixed Try.call16 Try.func16 getHCon (by
  intro args cs K h
  unfold getHCon at h
  split at h
  · rename_i id L M
    rw [Tree.holds_chk] at h
    obtain ⟨hp, h⟩ := h
    refine ⟨noAnn, _, fun v S hv => ⟨_, h, hv⟩, ?_⟩
    rw [getHVc L M id]
    exact getHHolds L M id (of_decide_eq_true hp)
  · exact h.elim)
noncomputable def tab5 : Tab T O := (27, takeCon) :: (13, lenHCon) :: (9, newHCon) :: (16, getHCon) :: tab4
theorem tabOk5 : TabOk R Try.prog tab5 := TabOk.cons R takeOk <| TabOk.cons R lenHOk <| TabOk.cons R newHOk <| TabOk.cons R getHOk <| tabOk4
noncomputable def X5 : Ctx T O := { X0 with con := conOf tab5 }
theorem X5Ok : TabOk R X5.P tab5 := tabOk5
end Go.Proofs.Ytdnndahaeammcaa
