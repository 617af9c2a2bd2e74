/-
  Part of a proof over the seat Ythfggjfpokknlaa: printed by a small program or typed by hand.
-/
import Derived.Test.YthfggjfpokknlaaStaS10
import Derived.KernelRfl
namespace Go.Proofs.Ythfggjfpokknlaa
open Go.Sx Go.Proofs Classical

def sumL (c : Int → Int) (M : CM) (ks : List Int) : Int := ks.foldl (fun a k => IntKind.i64.wrap (a + getM M (c k))) 0
def topI (M : CM) : List Int := srtT (tlI M) (keysS M)
def topS (M : CM) : List Int := isortN codeS (ltS M) (keysS M) (keysS M).length
theorem sumL_snoc (c : Int → Int) (M : CM) (ks : List Int) (k : Int) : sumL c M (ks ++ [k]) = IntKind.i64.wrap (sumL c M ks + getM M (c k)) := by simp [sumL]
theorem take_snoc {α : Type} {l : List α} {k : Nat} (h : k < l.length) : l.take (k + 1) = l.take k ++ [l[k]] := (List.take_append_getElem h).symm
theorem keysS_length (M : CM) : (keysS M).length = M.length := by unfold keysS; rw [List.length_mergeSort, List.length_map]
theorem topI_length (M : CM) : (topI M).length = M.length := by unfold topI; rw [srtT_length, keysS_length]
theorem topS_length (M : CM) : (topS M).length = M.length := by unfold topS; rw [isortN_length, keysS_length]
theorem keysOk_len {M : CM} (h : keysOk M = true) : M.length ≤ 1000 := by
  unfold keysOk at h
  exact of_decide_eq_true (Bool.and_eq_true_iff.1 h).1
theorem slOk_cut {k n : Nat} (h : k ≤ n) : slOk none (some (k : Int)) none (n : Int) = true := by simp [slOk, optB]; omega

/-! ### (*regatta/stats.Counter[int]).Sum -/
def sumCIK0Text (M : CM) : Prop := (match (decide (keysOk M = true)) with | true => ((∃ x : Nat, ((x.le (keysS M).length) ∧ ((True ∧ ((sumL same M (List.take x (keysS M)) = (0 : Int)) ∧ (True ∧ (((↑(keysS M).length : Int) = (↑(keysS M).length : Int)) ∧ (((↑x : Int) = (0 : Int)) ∧ True))))) ∧ ((True ∧ True) ∧ ((M = M) ∧ ((keysS M = keysS M) ∧ True)))))) ∧ (∀ x : Nat, ((x.le (keysS M).length) → (match (decide ((↑x : Int) < (↑(keysS M).length : Int))) with | true => (match (inb (↑x : Int) (keysS M).length) with | true => (match (inb (↑x : Int) (keysS M).length) with | true => (∃ x' : Nat, ((x'.le (keysS M).length) ∧ (((keysS M).length - x' < (keysS M).length - x) ∧ ((True ∧ ((sumL same M (List.take x' (keysS M)) = IntKind.i64.wrap (sumL same M (List.take x (keysS M)) + getM M (at' (0 : Int) (keysS M) (↑x : Int)))) ∧ (True ∧ (((↑(keysS M).length : Int) = (↑(keysS M).length : Int)) ∧ (((↑x' : Int) = IntKind.i64.wrap ((↑x : Int) + (1 : Int))) ∧ True))))) ∧ ((True ∧ True) ∧ ((M = M) ∧ ((keysS M = keysS M) ∧ True))))))) | false => False) | false => False) | false => (((sumL same M (keysS M) = sumL same M (List.take x (keysS M))) ∧ True) ∧ ((True ∧ True) ∧ ((M = M) ∧ True))))))) | false => False)
theorem sumCIK0Vc (M : CM) : fnX X10 (oneLoop 3 { σ := Nat, st := fun S x => ((S.keep [0, 7, 8]).int 9 x).int 3 (sumL same M ((keysS M).take x)), inv := fun _ x => x ≤ (keysS M).length, m := fun x => (keysS M).length - x }) Try.f15 [.ptr 0 0] [.cells [.own 1] 51, .map 0 M] (ends [.cells [.own 1] 51, .map 0 M] ⟨some (.raw (.int .i64 (sumL same M (keysS M)))), [(1, some (.map 0 M))]⟩) = sumCIK0Text M := by kernel_rfl
theorem sumCIK0Holds (M : CM) (hp : keysOk M = true) : sumCIK0Text M := by
  unfold sumCIK0Text
  rw [decide_eq_true hp]
  have hl : (keysS M).length ≤ 1000 := by rw [keysS_length]; exact keysOk_len hp
  refine ⟨⟨0, Nat.zero_le _, by repeat' first | trivial | rfl | apply And.intro⟩, ?_⟩
  rintro x hx
  by_cases h : x < (keysS M).length
  · have hwx := wrap_succ h (show (keysS M).length ≤ 140737488355328 by omega)
    rw [dec_lt h, inb_nat h, at_nat h]
    have hs := sumL_snoc same M ((keysS M).take x) (keysS M)[x]
    rw [← take_snoc h] at hs
    refine ⟨x + 1, h, by omega, ?_⟩
    repeat' first | exact hwx.symm | exact hs | trivial | rfl | apply And.intro
  · obtain rfl : x = (keysS M).length := Nat.le_antisymm hx (by omega)
    rw [dec_ge (Nat.le_refl _), List.take_length]
    repeat' first | trivial | rfl | apply And.intro
def sumCIK1Text  : Prop := ((((0 : Int) = (0 : Int)) ∧ True) ∧ True)
theorem sumCIK1Vc  : fnX X10 (annOf [] [(3, 1)]) Try.f15 [.raw (.pointer none)] [] (ends [] ⟨some (.raw (.int .i64 0)), []⟩) = sumCIK1Text  := by kernel_rfl
theorem sumCIK1Holds  : sumCIK1Text  := by
  unfold sumCIK1Text
  repeat' first | trivial | rfl | apply And.intro
noncomputable def sumCICon : Con T O := fun args cs => match args, cs with
  | [.ptr 0 0], [.cells [.own 1] 51, .map 0 M] => chk (decide (keysOk M = true)) (.ret ⟨some (.raw (.int .i64 (sumL same M (keysS M)))), [(1, some (.map 0 M))]⟩)
  | [.raw (.pointer none)], [] => .ret ⟨some (.raw (.int .i64 0)), []⟩
  | _, _ => .fail
theorem sumCIOk : ConOk R Try.prog 15 sumCICon := con_of_fn R (X10) (TabOk.con R X10Ok) mixed Try.call15 Try.func15 sumCICon (by
  intro args cs K h
  unfold sumCICon at h
  split at h
  · rename_i M
    rw [Tree.holds_chk] at h
    obtain ⟨hp, h⟩ := h
    refine ⟨oneLoop 3 { σ := Nat, st := fun S x => ((S.keep [0, 7, 8]).int 9 x).int 3 (sumL same M ((keysS M).take x)), inv := fun _ x => x ≤ (keysS M).length, m := fun x => (keysS M).length - x }, _, fun v S hv => ⟨_, h, hv⟩, ?_⟩
    rw [sumCIK0Vc M]
    exact sumCIK0Holds M (of_decide_eq_true hp)
  ·
    refine ⟨annOf [] [(3, 1)], _, fun v S hv => ⟨_, h, hv⟩, ?_⟩
    rw [sumCIK1Vc ]
    exact sumCIK1Holds 
  · exact h.elim)
/-! ### slices.SortStableFunc[[]string,string] -/
def sortStableSText (L : List Int) (M : CM) : Prop := (match (decide ((↑L.length : Int) = (↑L.length : Int) ∧ L.length ≤ (20 : Nat))) with | true => ((True ∧ True) ∧ ((isortN codeS (ltS M) L L.length = isortN codeS (ltS M) L L.length) ∧ ((True ∧ True) ∧ ((True ∧ True) ∧ ((M = M) ∧ True))))) | false => False)
theorem sortStableSVc (L : List Int) (M : CM) : fnX X10 (noAnn) Try.f46 [.own 0, .fn 47 [.ptr 1 0]] [.vec 2 L 9, .cells [.ptr 2 0] 42, .cells [.own 3] 70, .map 3 M] (ends [.vec 2 L 9, .cells [.ptr 2 0] 42, .cells [.own 3] 70, .map 3 M] ⟨some (.tup []), [(0, some (.vec 2 (isortN codeS (ltS M) L L.length) 9)), (3, some (.map 3 M))]⟩) = sortStableSText L M := by kernel_rfl
theorem sortStableSHolds (L : List Int) (M : CM) (hp : L.length ≤ 20) : sortStableSText L M := by
  unfold sortStableSText
  rw [decide_eq_true (⟨rfl, hp⟩ : (L.length : Int) = (L.length : Int) ∧ L.length ≤ 20)]
  repeat' first | trivial | rfl | apply And.intro
noncomputable def sortStableSCon : Con T O := fun args cs => match args, cs with
  | [.own 0, .fn 47 [.ptr 1 0]], [.vec 2 L 9, .cells [.ptr 2 0] 42, .cells [.own 3] 70, .map 3 M] => chk (decide (L.length ≤ 20)) (.ret ⟨some (.tup []), [(0, some (.vec 2 (isortN codeS (ltS M) L L.length) 9)), (3, some (.map 3 M))]⟩)
  | _, _ => .fail
theorem sortStableSOk : ConOk R Try.prog 46 sortStableSCon := con_of_fn R (X10) (TabOk.con R X10Ok) mixed Try.call46 Try.func46 sortStableSCon (by
  intro args cs K h
  unfold sortStableSCon at h
  split at h
  · rename_i L M
    rw [Tree.holds_chk] at h
    obtain ⟨hp, h⟩ := h
    refine ⟨noAnn, _, fun v S hv => ⟨_, h, hv⟩, ?_⟩
    rw [sortStableSVc L M]
    exact sortStableSHolds L M (of_decide_eq_true hp)
  · exact h.elim)
/-! ### (*regatta/stats.Counter[string]).Sum -/
def sumCSText (M : CM) : Prop := (match (decide (List.length M ≤ (1000 : Nat))) with | true => ((∃ x : Nat, ((x.le (keysS M).length) ∧ ((True ∧ ((sumL codeS M (List.take x (keysS M)) = (0 : Int)) ∧ (True ∧ (((↑(keysS M).length : Int) = (↑(keysS M).length : Int)) ∧ (((↑x : Int) = (0 : Int)) ∧ True))))) ∧ ((True ∧ True) ∧ ((M = M) ∧ ((keysS M = keysS M) ∧ True)))))) ∧ (∀ x : Nat, ((x.le (keysS M).length) → (match (decide ((↑x : Int) < (↑(keysS M).length : Int))) with | true => (match (inb (↑x : Int) (keysS M).length) with | true => (match (inb (↑x : Int) (keysS M).length) with | true => (∃ x' : Nat, ((x'.le (keysS M).length) ∧ (((keysS M).length - x' < (keysS M).length - x) ∧ ((True ∧ ((sumL codeS M (List.take x' (keysS M)) = IntKind.i64.wrap (sumL codeS M (List.take x (keysS M)) + getM M (↑(UInt8.ofNat (Int.toNat (at' (0 : Int) (keysS M) (↑x : Int)))).toNat : Int))) ∧ (True ∧ (((↑(keysS M).length : Int) = (↑(keysS M).length : Int)) ∧ (((↑x' : Int) = IntKind.i64.wrap ((↑x : Int) + (1 : Int))) ∧ True))))) ∧ ((True ∧ True) ∧ ((M = M) ∧ ((keysS M = keysS M) ∧ True))))))) | false => False) | false => False) | false => (((sumL codeS M (keysS M) = sumL codeS M (List.take x (keysS M))) ∧ True) ∧ ((True ∧ True) ∧ ((M = M) ∧ True))))))) | false => False)
theorem sumCSVc (M : CM) : fnX X10 (oneLoop 3 { σ := Nat, st := fun S x => ((S.keep [0, 7, 8]).int 9 x).int 3 (sumL codeS M ((keysS M).take x)), inv := fun _ x => x ≤ (keysS M).length, m := fun x => (keysS M).length - x }) Try.f26 [.ptr 0 0] [.cells [.own 1] 70, .map 3 M] (ends [.cells [.own 1] 70, .map 3 M] ⟨some (.raw (.int .i64 (sumL codeS M (keysS M)))), [(1, some (.map 3 M))]⟩) = sumCSText M := by kernel_rfl
theorem sumCSHolds (M : CM) (hp : M.length ≤ 1000) : sumCSText M := by
  unfold sumCSText
  rw [decide_eq_true hp]
  have hl : (keysS M).length ≤ 1000 := by rw [keysS_length]; exact hp
  refine ⟨⟨0, Nat.zero_le _, by repeat' first | trivial | rfl | apply And.intro⟩, ?_⟩
  rintro x hx
  by_cases h : x < (keysS M).length
  · have hwx := wrap_succ h (show (keysS M).length ≤ 140737488355328 by omega)
    rw [dec_lt h, inb_nat h, at_nat h]
    have hs := sumL_snoc codeS M ((keysS M).take x) (keysS M)[x]
    rw [← take_snoc h] at hs
    refine ⟨x + 1, h, by omega, ?_⟩
    repeat' first | exact hwx.symm | exact hs | trivial | rfl | apply And.intro
  · obtain rfl : x = (keysS M).length := Nat.le_antisymm hx (by omega)
    rw [dec_ge (Nat.le_refl _), List.take_length]
    repeat' first | trivial | rfl | apply And.intro
noncomputable def sumCSCon : Con T O := fun args cs => match args, cs with
  | [.ptr 0 0], [.cells [.own 1] 70, .map 3 M] => chk (decide (M.length ≤ 1000)) (.ret ⟨some (.raw (.int .i64 (sumL codeS M (keysS M)))), [(1, some (.map 3 M))]⟩)
  | _, _ => .fail
theorem sumCSOk : ConOk R Try.prog 26 sumCSCon := con_of_fn R (X10) (TabOk.con R X10Ok) mixed Try.call26 Try.func26 sumCSCon (by
  intro args cs K h
  unfold sumCSCon at h
  split at h
  · rename_i M
    rw [Tree.holds_chk] at h
    obtain ⟨hp, h⟩ := h
    refine ⟨oneLoop 3 { σ := Nat, st := fun S x => ((S.keep [0, 7, 8]).int 9 x).int 3 (sumL codeS M ((keysS M).take x)), inv := fun _ x => x ≤ (keysS M).length, m := fun x => (keysS M).length - x }, _, fun v S hv => ⟨_, h, hv⟩, ?_⟩
    rw [sumCSVc M]
    exact sumCSHolds M (of_decide_eq_true hp)
  · exact h.elim)
noncomputable def tab11 : Tab T O := (15, sumCICon) :: (46, sortStableSCon) :: (26, sumCSCon) :: tab10
theorem tabOk11 : TabOk R Try.prog tab11 := TabOk.cons R sumCIOk <| TabOk.cons R sortStableSOk <| TabOk.cons R sumCSOk <| tabOk10
noncomputable def X11 : Ctx T O := { X0 with con := conOf tab11 }
theorem X11Ok : TabOk R X11.P tab11 := tabOk11
end Go.Proofs.Ythfggjfpokknlaa
