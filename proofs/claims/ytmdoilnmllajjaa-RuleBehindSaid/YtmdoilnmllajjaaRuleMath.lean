/-
  Part of a proof over the seat Ytmdoilnmllajjaa: printed by a small program or typed by hand.
-/
import Derived.Test.YtmdoilnmllajjaaRuleS10
namespace Go.Proofs.Ytmdoilnmllajjaa
open Go.Sx Go.Proofs

theorem mask10 (n : Int) : bits .and .i64 n 1023 = n % 1024 := by simpa using mask_nat 10 (by omega) n
theorem mask20 (n : Int) : bits .and .i64 n 1048575 = n % 1048576 := by simpa using mask_nat 20 (by omega) n
theorem mask30 (n : Int) : bits .and .i64 n 1073741823 = n % 1073741824 := by simpa using mask_nat 30 (by omega) n
theorem mask39 (n : Int) : bits .and .i64 n 549755813887 = n % 549755813888 := by simpa using mask_nat 39 (by omega) n
theorem mask40 (n : Int) : bits .and .i64 n 1099511627775 = n % 1099511627776 := by simpa using mask_nat 40 (by omega) n

/-! ### a weight by numbers -/
theorem made_of (a b : Int) : law11MadePre a b = true ∧ Wt (law11MadeC0 a b) (law11MadeC1 a b) := by
  have w : IntKind.i64.wrap (1 + bits BinOp.and IntKind.i64 b 1048575) = 1 + b % 1048576 := by rw [mask20]; exact wrap_id (by omega) (by omega)
  have hn : (1 + b % 1048576 != 0) = true := by simp; omega
  unfold law11MadePre law11MadeC0 law11MadeC1
  simp only [w, hn]
  refine ⟨trivial, ?_⟩
  generalize hp : 1 + b % 1048576 = p
  have h1 := Int.tmod_lt_of_pos a (b := p) (by omega)
  have h2 := Int.lt_tmod_of_pos a (b := p) (by omega)
  rw [wrap_id (n := a.tmod p + p) (by omega) (by omega), tmod_pos (by omega)]
  have h3 := Int.emod_nonneg (a.tmod p + p) (b := p) (by omega)
  have h4 := Int.emod_lt_of_pos (a.tmod p + p) (b := p) (by omega)
  rw [wrap_id (by omega) (by omega)]
  refine ⟨by omega, by omega, by omega⟩

section
variable {e p i : Int} (h : Wt e p) (hi : Num i)
include h hi

theorem group_of : (p ≤ 2 * e ∧ ref04Deadline e p i ≤ ref04Group e p i ∧ ref04Group e p i ≤ ref04Release e p i + p) ∨ (2 * e < p ∧ ref04Group e p i = 0) := by
  obtain ⟨h1, h2, h3⟩ := id h
  unfold ref04Group
  by_cases hv : p ≤ 2 * e
  · rw [number_of h hi, heavy_of h, decide_eq_true hv, if_pos ⟨rfl, rfl⟩]
    refine .inl ⟨hv, ?_⟩
    by_cases hep : e = p
    · rw [if_pos hep]
      obtain ⟨q1, q2⟩ := deadline_of h hi
      obtain ⟨r1, r2⟩ := release_of h hi
      subst hep
      refine ⟨Int.le_refl _, ?_⟩
      have a1 : ref04Deadline e e i ≤ i := by
        refine Int.not_lt.1 fun hn => ?_
        have m1 := Int.mul_le_mul_of_nonneg_left (show i + 1 ≤ ref04Deadline e e i by omega) (show 0 ≤ e by omega)
        grind
      have a2 : i - 1 ≤ ref04Release e e i := by
        refine Int.not_lt.1 fun hn => ?_
        have m1 := Int.mul_le_mul_of_nonneg_left (show ref04Release e e i + 1 ≤ i - 1 by omega) (show 0 ≤ e by omega)
        grind
      omega
    · rw [if_neg hep]
      exact gend_of h hi hv (by omega) rfl rfl
  · rw [heavy_of h, decide_eq_false hv, if_neg (by simp)]
    exact .inr ⟨by omega, rfl⟩

theorem of_of : ref04OfPre e p i 0 = true ∧ ref04OfC0 e p i 0 = i ∧ ref04OfC1 e p i 0 = ref04Release e p i ∧ ref04OfC2 e p i 0 = ref04Deadline e p i ∧
    ref04OfC3 e p i 0 = ref04Bit e p i ∧ ref04OfC4 e p i 0 = ref04Group e p i ∧ ref04OfC5 e p i 0 = 0 := by
  obtain ⟨h1, h2, h3⟩ := id h
  obtain ⟨r1, r2⟩ := release_bound h hi
  obtain ⟨d1, d2⟩ := deadline_bound h hi
  have hg : 0 ≤ ref04Group e p i ∧ ref04Group e p i ≤ 1152921504607895552 := by
    rcases group_of h hi with ⟨_, a, b⟩ | ⟨_, a⟩
    · omega
    · omega
  unfold ref04OfPre ref04OfC0 ref04OfC1 ref04OfC2 ref04OfC3 ref04OfC4 ref04OfC5
  rw [number_of h hi, deadline_pre_of h hi, release_pre_of h hi, bit_pre_of h hi, wrap_id (n := 4611686018427387904 - 0) (by omega) (by omega), decide_eq_false (show ¬ ref04Deadline e p i > 4611686018427387904 - 0 by omega),
    decide_eq_false (show ¬ ref04Group e p i > 4611686018427387904 - 0 by omega), Int.add_zero, Int.add_zero, Int.add_zero, wrap_id (n := ref04Release e p i) (by omega) (by omega), wrap_id (n := ref04Deadline e p i) (by omega) (by omega), wrap_id (n := ref04Group e p i) (by omega) (by omega)]
  by_cases hp : ref04Group e p i > 0
  · rw [decide_eq_true hp]
    exact ⟨rfl, rfl, rfl, rfl, rfl, rfl, rfl⟩
  · rw [decide_eq_false hp]
    exact ⟨rfl, rfl, rfl, rfl, rfl, show 0 = ref04Group e p i by omega, rfl⟩

/-- from when on a share is free of a window -/
theorem ends_of : ∃ t, ruleEnds e p i (ref04Release e p i) (ref04Deadline e p i) (ref04Bit e p i) (ref04Group e p i) = t ∧ ref04Deadline e p i ≤ t ∧ t ≤ ref04Release e p i + p ∧ 1 ≤ t ∧ t ≤ 1152921504607895552 ∧
    (2 * e < p → t = ref04Deadline e p i + ref04Bit e p i) ∧ (p ≤ 2 * e → t = ref04Group e p i) := by
  obtain ⟨h1, h2, h3⟩ := id h
  obtain ⟨r1, r2⟩ := release_bound h hi
  obtain ⟨d1, d2⟩ := deadline_bound h hi
  obtain ⟨q1, q2⟩ := deadline_of h hi
  obtain ⟨s1, s2⟩ := release_of h hi
  unfold ruleEnds
  rw [wheavy_of h]
  rcases group_of h hi with ⟨hv, a, b⟩ | ⟨hv, a⟩
  · rw [decide_eq_true hv]
    refine ⟨ref04Group e p i, ?_, a, b, by omega, by omega, fun hl => by omega, fun _ => rfl⟩
    simp only
    split <;> omega
  · rw [decide_eq_false (by omega)]
    rcases bit_of h hi with ⟨b0, b1⟩ | ⟨b0, b1, b2⟩
    · rw [b0]
      refine ⟨ref04Deadline e p i, rfl, Int.le_refl _, Int.not_lt.1 fun hn => ?_, d1, d2, fun _ => by omega, fun _ => by omega⟩
      have m1 := Int.mul_le_mul_of_nonneg_left (show ref04Release e p i + p + 1 ≤ ref04Deadline e p i by omega) (show 0 ≤ e by omega)
      have m2 := Int.mul_le_mul_of_nonneg_right h1 (show 0 ≤ p by omega)
      grind
    · rw [b0]
      have hle : ref04Deadline e p i + 1 ≤ ref04Release e p i + p := by
        refine Int.not_lt.1 fun hn => ?_
        have m1 := Int.mul_le_mul_of_nonneg_left (show ref04Release e p i + p ≤ ref04Deadline e p i by omega) (show 0 ≤ e by omega)
        have m2 := Int.mul_nonneg (show 0 ≤ e - 1 by omega) (show 0 ≤ p - 3 by omega)
        grind
      refine ⟨ref04Deadline e p i + 1, ?_, by omega, hle, by omega, by omega, fun _ => by omega, fun _ => by omega⟩
      simp only
      rw [wrap_id (by omega) (by omega)]
      rfl
end

/-! ### the laws -/
theorem Num_of (n : Int) : ∃ i, IntKind.i64.wrap (1 + bits BinOp.and IntKind.i64 n 549755813887) = i ∧ Num i ∧ IntKind.i64.wrap (i + 1) = i + 1 ∧ Num (i + 1) := by
  refine ⟨1 + n % 549755813888, ?_, ⟨by omega, by omega⟩, ?_, ⟨by omega, by omega⟩⟩
  · rw [mask39]; exact wrap_id (by omega) (by omega)
  · exact wrap_id (by omega) (by omega)

theorem RuleNext_true (a b n : Int) : law11RuleNextPre a b n = true ∧ law11RuleNext a b n = true := by
  obtain ⟨m0, h⟩ := made_of a b
  obtain ⟨i, hi0, hi, hj0, hj⟩ := Num_of n
  unfold law11RuleNextPre law11RuleNext
  generalize law11MadeC0 a b = e at *
  generalize law11MadeC1 a b = p at *
  obtain ⟨o, o0, o1, o2, o3, o4, o5⟩ := of_of h hi
  obtain ⟨t, t0, t1, t2, t3, t4, t5, t6⟩ := ends_of h hi
  obtain ⟨r1, r2⟩ := release_of h hj
  obtain ⟨s1, s2⟩ := release_bound h hj
  obtain ⟨q1, q2⟩ := deadline_of h hi
  obtain ⟨d1, d2⟩ := deadline_bound h hi
  have he := h.1
  have hip : (i + 1) * p - p = i * p := by rw [Int.add_mul, Int.one_mul]; omega
  rw [hip] at r1 r2
  simp only [m0, hi0, o, o0, o1, o2, o3, o4, hj0, release_pre_of h hj, ruleTime, t0, Bool.not_true, heavy_of h]
  have hge : ref04Release e p (i + 1) ≤ ref04Deadline e p i := by
    refine Int.not_lt.1 fun hn => ?_
    have m1 := Int.mul_le_mul_of_nonneg_left (show ref04Deadline e p i + 1 ≤ ref04Release e p (i + 1) by omega) (show 0 ≤ e by omega)
    grind
  rw [if_pos (by omega), decide_eq_true (show t ≥ ref04Release e p (i + 1) by omega)]
  by_cases hv : p ≤ 2 * e
  · rw [decide_eq_true hv]; exact ⟨rfl, rfl⟩
  · rw [decide_eq_false hv]
    refine ⟨rfl, ?_⟩
    have ht := t5 (by omega)
    have hb : ref04Bit e p i = 0 ∧ ref04Release e p (i + 1) = ref04Deadline e p i ∨ ref04Bit e p i = 1 ∧ ref04Release e p (i + 1) + 1 = ref04Deadline e p i := by
      rcases bit_of h hi with ⟨b0, b1⟩ | ⟨b0, b1, b2⟩
      · refine .inl ⟨b0, Int.le_antisymm hge (Int.not_lt.1 fun hn => ?_)⟩
        have m1 := Int.mul_le_mul_of_nonneg_left (show ref04Release e p (i + 1) + 1 ≤ ref04Deadline e p i by omega) (show 0 ≤ e by omega)
        grind
      · refine .inr ⟨b0, Int.le_antisymm (Int.not_lt.1 fun hn => ?_) (Int.not_lt.1 fun hn => ?_)⟩
        · have m1 := Int.mul_le_mul_of_nonneg_left (show ref04Deadline e p i ≤ ref04Release e p (i + 1) by omega) (show 0 ≤ e by omega)
          omega
        · have m1 := Int.mul_le_mul_of_nonneg_left (show ref04Release e p (i + 1) + 2 ≤ ref04Deadline e p i by omega) (show 0 ≤ e by omega)
          grind
    rw [beq_iff_eq]
    rcases hb with ⟨b0, b1⟩ | ⟨b0, b1⟩ <;> rw [b0] at ht ⊢ <;> rw [wrap_id (n := 2 * _) (by omega) (by omega), wrap_id (by omega) (by omega)] <;> omega

theorem RuleBound_true (a b n l : Int) : law11RuleBoundPre a b n l = true ∧ law11RuleBound a b n l = true := by
  obtain ⟨m0, h⟩ := made_of a b
  obtain ⟨i, hi0, hi, hj0, hj⟩ := Num_of n
  unfold law11RuleBoundPre law11RuleBound
  generalize law11MadeC0 a b = e at *
  generalize law11MadeC1 a b = p at *
  obtain ⟨h1, h2, h3⟩ := id h
  obtain ⟨o, o0, o1, o2, o3, o4, o5⟩ := of_of h hi
  obtain ⟨t, t0, t1, t2, t3, t4, t5, t6⟩ := ends_of h hi
  obtain ⟨r1, r2⟩ := release_bound h hi
  have hat : IntKind.i64.wrap (ref04Release e p i + bits BinOp.and IntKind.i64 l 1048575) = ref04Release e p i + l % 1048576 := by rw [mask20]; exact wrap_id (by omega) (by omega)
  have hbd : ruleBound e p = p := by unfold ruleBound; rw [wcheck_of h]; rfl
  simp only [m0, hi0, o, o0, o1, o2, o3, o4, o5, hat, ruleFree, ruleWait, ruleTime, t0, Bool.not_true, hbd]
  generalize hat' : ref04Release e p i + l % 1048576 = at'
  by_cases hlt : t > at'
  · rw [if_pos hlt, wrap_id (n := t - at') (by omega) (by omega)]
    have e1 : (t == at') = false := by simp; omega
    rw [e1]
    rw [decide_eq_true (show t - at' ≥ 0 by omega), decide_eq_true (show t - at' ≤ p by omega)]
    exact ⟨rfl, rfl⟩
  · rw [if_neg hlt, Int.sub_self]
    rw [show (at' == at') = true by simp]
    rw [show IntKind.i64.wrap 0 = 0 from rfl, decide_eq_true (show (0 : Int) ≥ 0 by omega), decide_eq_true (show (0 : Int) ≤ p by omega)]
    exact ⟨rfl, rfl⟩

theorem RuleBehind_true (a b n l : Int) : law11RuleBehindPre a b n l = true ∧ law11RuleBehind a b n l = true := by
  obtain ⟨m0, h⟩ := made_of a b
  obtain ⟨i, hi0, hi, hj0, hj⟩ := Num_of n
  unfold law11RuleBehindPre law11RuleBehind
  generalize law11MadeC0 a b = e at *
  generalize law11MadeC1 a b = p at *
  obtain ⟨o, o0, o1, o2, o3, o4, o5⟩ := of_of h hi
  obtain ⟨t, t0, t1, t2, t3, t4, t5, t6⟩ := ends_of h hi
  simp only [m0, hi0, o, o0, o1, o2, o3, o4, o5, mask40, ruleFree, ruleWait, ruleTime, t0, Bool.not_true, Bool.not_false]
  generalize l % 1099511627776 = x
  by_cases hlt : t > x
  · rw [if_pos hlt, if_neg (show ¬ t > t by omega)]
    simp [show t ≥ x by omega, show t ≥ ref04Deadline e p i by omega, show IntKind.i64.wrap 0 = 0 from rfl]
  · rw [if_neg hlt, if_neg hlt]
    simp [show x ≥ ref04Deadline e p i by omega, show IntKind.i64.wrap 0 = 0 from rfl]
end Go.Proofs.Ytmdoilnmllajjaa
