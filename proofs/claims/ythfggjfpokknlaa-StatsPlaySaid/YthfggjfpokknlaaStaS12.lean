/-
  Part of a proof over the seat Ythfggjfpokknlaa: printed by a small program or typed by hand.
-/
import Derived.Test.YthfggjfpokknlaaStaS11
import Derived.KernelRfl
namespace Go.Proofs.Ythfggjfpokknlaa
open Go.Sx Go.Proofs Classical
/-! ### (*regatta/stats.Counter[int]).Top -/
def topCIK0Text (M : CM) (n : Int) : Prop := (match (decide (keysOk M = true)) with | true => (match (decide ((keysS M).length ≤ (1000 : Nat) ∧ PreT (ltI M) (tlI M) (keysS M))) with | true => (match (slOk none (some (if (if (0 : Int) > n then (0 : Int) else n) < (↑(srtT (tlI M) (keysS M)).length : Int) then if (0 : Int) > n then (0 : Int) else n else (↑(srtT (tlI M) (keysS M)).length : Int))) none (↑(srtT (tlI M) (keysS M)).length : Int) && decide (optB none (0 : Int) = (0 : Int))) with | true => ((True ∧ True) ∧ ((True ∧ True) ∧ ((M = M) ∧ ((List.take n.toNat (topI M) = cutL none (some (if (if (0 : Int) > n then (0 : Int) else n) < (↑(srtT (tlI M) (keysS M)).length : Int) then if (0 : Int) > n then (0 : Int) else n else (↑(srtT (tlI M) (keysS M)).length : Int))) (srtT (tlI M) (keysS M))) ∧ True)))) | false => False) | false => False) | false => False)
theorem topCIK0Vc (M : CM) (n : Int) : fnX X11 (noAnn) Try.f20 [.ptr 0 0, .raw (.int .i64 n)] [.cells [.own 1] 51, .map 0 M] (ends [.cells [.own 1] 51, .map 0 M] ⟨some (.own 2), [(1, some (.map 0 M)), (2, some (.vec 0 ((topI M).take n.toNat) 3))]⟩) = topCIK0Text M n := by kernel_rfl
theorem topCIK0Holds (M : CM) (n : Int) (hp : keysOk M = true ∧ keysNd M) : topCIK0Text M n := by
  unfold topCIK0Text
  obtain ⟨h1, h2⟩ := hp
  have hl : (srtT (tlI M) (keysS M)).length = M.length := topI_length M
  obtain ⟨k, hk, hk2⟩ : ∃ k : Nat, (if 0 > n then 0 else n) = (k : Int) ∧ n.toNat = k := by
    by_cases c : 0 > n
    · exact ⟨0, by rw [if_pos c]; rfl, by omega⟩
    · obtain ⟨m, rfl⟩ := Int.eq_ofNat_of_zero_le (show 0 ≤ n by omega)
      exact ⟨m, by rw [if_neg c], by omega⟩
  rw [decide_eq_true h1, hl, decide_eq_true ((⟨by rw [keysS_length]; exact keysOk_len h1, keysS_pre h2⟩ : (keysS M).length ≤ 1000 ∧ PreT (ltI M) (tlI M) (keysS M))), hk, hk2]
  by_cases g : k < M.length
  · rw [if_pos (show (k : Int) < (M.length : Int) by omega), show (slOk none (some (k : Int)) none (M.length : Int) && decide (optB none 0 = 0)) = true by rw [slOk_cut (Nat.le_of_lt g)]; rfl]
    repeat' first | trivial | rfl | apply And.intro
  · rw [if_neg (show ¬ (k : Int) < (M.length : Int) by omega), show (slOk none (some (M.length : Int)) none (M.length : Int) && decide (optB none 0 = 0)) = true by rw [slOk_cut (Nat.le_refl _)]; rfl]
    have e : (topI M).take k = (topI M).take M.length := by rw [List.take_of_length_le (by rw [topI_length]; omega), List.take_of_length_le (by rw [topI_length]; omega)]
    repeat' first | exact e | trivial | rfl | apply And.intro
def topCIK1Text (n : Int) : Prop := (match (slOk none (some (if (if (0 : Int) > n then (0 : Int) else n) < (↑(0 : Nat) : Int) then if (0 : Int) > n then (0 : Int) else n else (↑(0 : Nat) : Int))) none (0 : Int)) with | true => (((Value.slice none (0 : Nat) (0 : Nat) = Value.slice none (0 : Nat) (0 : Nat)) ∧ True) ∧ True) | false => False)
theorem topCIK1Vc (n : Int) : fnX X11 (noAnn) Try.f20 [.raw (.pointer none), .raw (.int .i64 n)] [] (ends [] ⟨some (.raw (.slice none 0 0)), []⟩) = topCIK1Text n := by kernel_rfl
theorem topCIK1Holds (n : Int) : topCIK1Text n := by
  unfold topCIK1Text
  have e : (if (if 0 > n then 0 else n) < ((0 : Nat) : Int) then if 0 > n then 0 else n else ((0 : Nat) : Int)) = 0 := by
    by_cases c : 0 > n
    · rw [if_pos c, if_neg (by omega)]; rfl
    · rw [if_neg c, if_neg (by omega)]; rfl
  rw [e]
  exact ⟨⟨rfl, trivial⟩, trivial⟩
noncomputable def topCICon : Con T O := fun args cs => match args, cs with
  | [.ptr 0 0, .raw (.int .i64 n)], [.cells [.own 1] 51, .map 0 M] => chk (decide (keysOk M = true ∧ keysNd M)) (.ret ⟨some (.own 2), [(1, some (.map 0 M)), (2, some (.vec 0 ((topI M).take n.toNat) 3))]⟩)
  | [.raw (.pointer none), .raw (.int .i64 _)], [] => .ret ⟨some (.raw (.slice none 0 0)), []⟩
  | _, _ => .fail
theorem topCIOk : ConOk R Try.prog 20 topCICon := con_of_fn R (X11) (TabOk.con R X11Ok) mixed Try.call20 Try.func20 topCICon (by
  intro args cs K h
  unfold topCICon at h
  split at h
  · rename_i n M
    rw [Tree.holds_chk] at h
    obtain ⟨hp, h⟩ := h
    refine ⟨noAnn, _, fun v S hv => ⟨_, h, hv⟩, ?_⟩
    rw [topCIK0Vc M n]
    exact topCIK0Holds M n (of_decide_eq_true hp)
  · rename_i n
    refine ⟨noAnn, _, fun v S hv => ⟨_, h, hv⟩, ?_⟩
    rw [topCIK1Vc n]
    exact topCIK1Holds n
  · exact h.elim)
/-! ### (*regatta/stats.Counter[string]).Top -/
def topCSText (M : CM) (n : Int) : Prop := (match (decide (List.length M ≤ (1000 : Nat))) with | true => (match (decide ((keysS M).length ≤ (20 : Nat))) with | true => (match (slOk none (some (if (if (0 : Int) > n then (0 : Int) else n) < (↑(isortN codeS (ltS M) (keysS M) (keysS M).length).length : Int) then if (0 : Int) > n then (0 : Int) else n else (↑(isortN codeS (ltS M) (keysS M) (keysS M).length).length : Int))) none (↑(isortN codeS (ltS M) (keysS M) (keysS M).length).length : Int) && decide (optB none (0 : Int) = (0 : Int))) with | true => ((True ∧ True) ∧ ((True ∧ True) ∧ ((M = M) ∧ ((List.take n.toNat (topS M) = cutL none (some (if (if (0 : Int) > n then (0 : Int) else n) < (↑(isortN codeS (ltS M) (keysS M) (keysS M).length).length : Int) then if (0 : Int) > n then (0 : Int) else n else (↑(isortN codeS (ltS M) (keysS M) (keysS M).length).length : Int))) (isortN codeS (ltS M) (keysS M) (keysS M).length)) ∧ True)))) | false => False) | false => False) | false => False)
theorem topCSVc (M : CM) (n : Int) : fnX X11 (noAnn) Try.f34 [.ptr 0 0, .raw (.int .i64 n)] [.cells [.own 1] 70, .map 3 M] (ends [.cells [.own 1] 70, .map 3 M] ⟨some (.own 2), [(1, some (.map 3 M)), (2, some (.vec 2 ((topS M).take n.toNat) 9))]⟩) = topCSText M n := by kernel_rfl
theorem topCSHolds (M : CM) (n : Int) (hp : M.length ≤ 1000 ∧ M.length ≤ 20) : topCSText M n := by
  unfold topCSText
  obtain ⟨h1, h2⟩ := hp
  have hl : (isortN codeS (ltS M) (keysS M) (keysS M).length).length = M.length := topS_length M
  obtain ⟨k, hk, hk2⟩ : ∃ k : Nat, (if 0 > n then 0 else n) = (k : Int) ∧ n.toNat = k := by
    by_cases c : 0 > n
    · exact ⟨0, by rw [if_pos c]; rfl, by omega⟩
    · obtain ⟨m, rfl⟩ := Int.eq_ofNat_of_zero_le (show 0 ≤ n by omega)
      exact ⟨m, by rw [if_neg c], by omega⟩
  rw [decide_eq_true h1, hl, decide_eq_true ((show (keysS M).length ≤ 20 by rw [keysS_length]; exact h2)), hk, hk2]
  by_cases g : k < M.length
  · rw [if_pos (show (k : Int) < (M.length : Int) by omega), show (slOk none (some (k : Int)) none (M.length : Int) && decide (optB none 0 = 0)) = true by rw [slOk_cut (Nat.le_of_lt g)]; rfl]
    repeat' first | trivial | rfl | apply And.intro
  · rw [if_neg (show ¬ (k : Int) < (M.length : Int) by omega), show (slOk none (some (M.length : Int)) none (M.length : Int) && decide (optB none 0 = 0)) = true by rw [slOk_cut (Nat.le_refl _)]; rfl]
    have e : (topS M).take k = (topS M).take M.length := by rw [List.take_of_length_le (by rw [topS_length]; omega), List.take_of_length_le (by rw [topS_length]; omega)]
    repeat' first | exact e | trivial | rfl | apply And.intro
noncomputable def topCSCon : Con T O := fun args cs => match args, cs with
  | [.ptr 0 0, .raw (.int .i64 n)], [.cells [.own 1] 70, .map 3 M] => chk (decide (M.length ≤ 1000 ∧ M.length ≤ 20)) (.ret ⟨some (.own 2), [(1, some (.map 3 M)), (2, some (.vec 2 ((topS M).take n.toNat) 9))]⟩)
  | _, _ => .fail
theorem topCSOk : ConOk R Try.prog 34 topCSCon := con_of_fn R (X11) (TabOk.con R X11Ok) mixed Try.call34 Try.func34 topCSCon (by
  intro args cs K h
  unfold topCSCon at h
  split at h
  · rename_i n M
    rw [Tree.holds_chk] at h
    obtain ⟨hp, h⟩ := h
    refine ⟨noAnn, _, fun v S hv => ⟨_, h, hv⟩, ?_⟩
    rw [topCSVc M n]
    exact topCSHolds M n (of_decide_eq_true hp)
  · exact h.elim)
noncomputable def tab12 : Tab T O := (20, topCICon) :: (34, topCSCon) :: tab11
theorem tabOk12 : TabOk R Try.prog tab12 := TabOk.cons R topCIOk <| TabOk.cons R topCSOk <| tabOk11
noncomputable def X12 : Ctx T O := { X0 with con := conOf tab12 }
theorem X12Ok : TabOk R X12.P tab12 := tabOk12
end Go.Proofs.Ythfggjfpokknlaa
