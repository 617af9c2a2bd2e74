/-
  Part of a proof over the seat Ytkcnocigkblbiaa: printed by a small program or typed by hand.
-/
import Derived.Test.YtkcnocigkblbiaaWindS13
import Derived.KernelRfl
namespace Go.Proofs.Ytkcnocigkblbiaa
open Go.Sx Go.Proofs Classical
theorem mask10 (n : Int) : bits .and .i64 n 1023 = n % 1024 := by simpa using mask_nat 10 (by omega) n
theorem mask20 (n : Int) : bits .and .i64 n 1048575 = n % 1048576 := by simpa using mask_nat 20 (by omega) n
theorem mask30 (n : Int) : bits .and .i64 n 1073741823 = n % 1073741824 := by simpa using mask_nat 30 (by omega) n
theorem mask39 (n : Int) : bits .and .i64 n 549755813887 = n % 549755813888 := by simpa using mask_nat 39 (by omega) n
theorem mask40 (n : Int) : bits .and .i64 n 1099511627775 = n % 1099511627776 := by simpa using mask_nat 40 (by omega) n

section
variable {e p i : Int} (h : Wt e p) (hi : Num i)
include h hi

theorem group_of : (p ≤ 2 * e ∧ ref04Deadline e p i ≤ ref04Group e p i ∧ ref04Group e p i ≤ ref04Release e p i + p) ∨ (2 * e < p ∧ ref04Group e p i = 0) := by
  obtain ⟨h1, h2, h3⟩ := id h
  unfold ref04Group
  by_cases hv : p ≤ 2 * e
  · rw [number_of h hi, heavy_of h, decide_eq_true hv, if_pos ⟨rfl, rfl⟩]
    refine .inl ⟨hv, ?_⟩
    by_cases hep : e = p
    · rw [if_pos hep]
      obtain ⟨q1, q2⟩ := deadline_of h hi
      obtain ⟨r1, r2⟩ := release_of h hi
      subst hep
      refine ⟨Int.le_refl _, ?_⟩
      have a1 : ref04Deadline e e i ≤ i := by
        refine Int.not_lt.1 fun hn => ?_
        have m1 := Int.mul_le_mul_of_nonneg_left (show i + 1 ≤ ref04Deadline e e i by omega) (show 0 ≤ e by omega)
        grind
      have a2 : i - 1 ≤ ref04Release e e i := by
        refine Int.not_lt.1 fun hn => ?_
        have m1 := Int.mul_le_mul_of_nonneg_left (show ref04Release e e i + 1 ≤ i - 1 by omega) (show 0 ≤ e by omega)
        grind
      omega
    · rw [if_neg hep]
      exact gend_of h hi hv (by omega) rfl rfl
  · rw [heavy_of h, decide_eq_false hv, if_neg (by simp)]
    exact .inr ⟨by omega, rfl⟩

theorem of_of : ref04OfPre e p i 0 = true ∧ ref04OfC0 e p i 0 = i ∧ ref04OfC1 e p i 0 = ref04Release e p i ∧ ref04OfC2 e p i 0 = ref04Deadline e p i ∧
    ref04OfC3 e p i 0 = ref04Bit e p i ∧ ref04OfC4 e p i 0 = ref04Group e p i ∧ ref04OfC5 e p i 0 = 0 := by
  obtain ⟨h1, h2, h3⟩ := id h
  obtain ⟨r1, r2⟩ := release_bound h hi
  obtain ⟨d1, d2⟩ := deadline_bound h hi
  have hg : 0 ≤ ref04Group e p i ∧ ref04Group e p i ≤ 1152921504607895552 := by
    rcases group_of h hi with ⟨_, a, b⟩ | ⟨_, a⟩
    · omega
    · omega
  unfold ref04OfPre ref04OfC0 ref04OfC1 ref04OfC2 ref04OfC3 ref04OfC4 ref04OfC5
  rw [number_of h hi, deadline_pre_of h hi, release_pre_of h hi, bit_pre_of h hi, wrap_id (n := 4611686018427387904 - 0) (by omega) (by omega), decide_eq_false (show ¬ ref04Deadline e p i > 4611686018427387904 - 0 by omega),
    decide_eq_false (show ¬ ref04Group e p i > 4611686018427387904 - 0 by omega), Int.add_zero, Int.add_zero, Int.add_zero, wrap_id (n := ref04Release e p i) (by omega) (by omega), wrap_id (n := ref04Deadline e p i) (by omega) (by omega), wrap_id (n := ref04Group e p i) (by omega) (by omega)]
  by_cases hp : ref04Group e p i > 0
  · rw [decide_eq_true hp]
    exact ⟨rfl, rfl, rfl, rfl, rfl, rfl, rfl⟩
  · rw [decide_eq_false hp]
    exact ⟨rfl, rfl, rfl, rfl, rfl, show 0 = ref04Group e p i by omega, rfl⟩
end
theorem wOf_bad {e p i o : Int} (h : Wt e p) (hi : ¬ Num i) : windowShareHas e p i = false ∧ ref04Number e p i = false := by
  have hd : (match decide (i ≥ 1) with | true => decide (i ≤ 1099511627776) | false => false) = false := by
    by_cases h1 : 1 ≤ i
    · rw [show decide (i ≥ 1) = true from decide_eq_true h1]
      exact decide_eq_false fun h2 => hi ⟨h1, h2⟩
    · rw [show decide (i ≥ 1) = false from decide_eq_false h1]
  constructor
  · unfold windowShareHas
    rw [wcheck_of h]
    exact hd
  · unfold ref04Number
    rw [check_of h]
    exact hd
theorem wOf_of {e p : Int} (h : Wt e p) (i o : Int) : wOfPre e p i o = true ∧ ref04OfPre e p i o = true ∧ wOfC0 e p i o = ref04OfC0 e p i o ∧ wOfC1 e p i o = ref04OfC1 e p i o ∧ wOfC2 e p i o = ref04OfC2 e p i o ∧
    wOfC3 e p i o = ref04OfC3 e p i o ∧ wOfC4 e p i o = ref04OfC4 e p i o ∧ wOfC5 e p i o = ref04OfC5 e p i o ∧ (ref04OfC5 e p i o = 0 → 0 ≤ o ∧ 0 ≤ ref04OfC4 e p i o) := by
  unfold wOfPre wOfC0 wOfC1 wOfC2 wOfC3 wOfC4 wOfC5 ref04OfPre ref04OfC0 ref04OfC1 ref04OfC2 ref04OfC3 ref04OfC4 ref04OfC5
  by_cases hi : Num i
  · obtain ⟨a1, a2⟩ := wRelease_of h hi
    obtain ⟨b1, b2⟩ := wDeadline_of h hi
    obtain ⟨c1, c2⟩ := wBit_of h hi
    obtain ⟨d1, d2⟩ := wGroup_of h hi
    rw [wHas_of h hi, number_of h hi, a1, a2, b1, b2, c1, c2, d1, d2, deadline_pre_of h hi, release_pre_of h hi, bit_pre_of h hi]
    obtain ⟨r1, r2⟩ := release_bound h hi
    obtain ⟨e1, e2⟩ := deadline_bound h hi
    have hg : 0 ≤ ref04Group e p i ∧ ref04Group e p i ≤ 1152921504607895552 := by
      have := h.1
      have := h.2.1
      have := h.2.2
      rcases group_of h hi with ⟨_, a, b⟩ | ⟨_, a⟩
      · omega
      · omega
    generalize ref04Release e p i = r at *
    generalize ref04Deadline e p i = d at *
    generalize ref04Bit e p i = b at *
    generalize ref04Group e p i = g at *
    by_cases ho : o < 0
    · rw [decide_eq_true ho]
      refine ⟨rfl, rfl, rfl, rfl, rfl, rfl, rfl, rfl, fun h0 => ?_⟩
      cases h0
    · rw [decide_eq_false ho]
      have hm : IntKind.i64.wrap (4611686018427387904 - if g > d then g else d) = 4611686018427387904 - if g > d then g else d := by
        split <;> exact wrap_id (by omega) (by omega)
      rw [hm]
      by_cases h62 : o > 4611686018427387904
      · rw [decide_eq_true h62, decide_eq_true (show o > 4611686018427387904 - if g > d then g else d by split <;> omega)]
        refine ⟨rfl, rfl, rfl, rfl, rfl, rfl, rfl, rfl, fun h0 => ?_⟩
        cases h0
      · rw [decide_eq_false h62, wrap_id (n := 4611686018427387904 - o) (by omega) (by omega)]
        by_cases hd : d > 4611686018427387904 - o
        · rw [decide_eq_true hd, decide_eq_true (show o > 4611686018427387904 - if g > d then g else d by split <;> omega)]
          refine ⟨rfl, rfl, rfl, rfl, rfl, rfl, rfl, rfl, fun h0 => ?_⟩
          cases h0
        · rw [decide_eq_false hd]
          by_cases hgo : g > 4611686018427387904 - o
          · rw [decide_eq_true hgo, decide_eq_true (show o > 4611686018427387904 - if g > d then g else d by split <;> omega)]
            refine ⟨rfl, rfl, rfl, rfl, rfl, rfl, rfl, rfl, fun h0 => ?_⟩
            cases h0
          · rw [decide_eq_false hgo, decide_eq_false (show ¬ o > 4611686018427387904 - if g > d then g else d by split <;> omega)]
            by_cases hg0 : g > 0
            · rw [decide_eq_true hg0]
              refine ⟨rfl, rfl, rfl, rfl, rfl, rfl, rfl, rfl, fun _ => ⟨by omega, ?_⟩⟩
              show 0 ≤ IntKind.i64.wrap (g + o)
              rw [wrap_id (by omega) (by omega)]
              omega
            · rw [decide_eq_false hg0]
              refine ⟨rfl, rfl, rfl, rfl, rfl, rfl, show g = 0 by omega, rfl, fun _ => ⟨by omega, Int.le_refl _⟩⟩
  · obtain ⟨h1, h2⟩ := wOf_bad (o := o) h hi
    rw [h1, h2]
    refine ⟨rfl, rfl, rfl, rfl, rfl, rfl, rfl, rfl, fun h0 => ?_⟩
    cases h0

/-! ### regatta/audit.of -/
def auditOf (a0 : Note) (a1E : Int) (a1P : Int) : Bool := (match (wOfPre a1E a1P a0.SubIndex a0.Since) with | true => (match (wOfC5 a1E a1P a0.SubIndex a0.Since == (0 : Int)) with | true => (match (auditShapeC0 (wOfC0 a1E a1P a0.SubIndex a0.Since) (wOfC1 a1E a1P a0.SubIndex a0.Since) (wOfC2 a1E a1P a0.SubIndex a0.Since) (wOfC3 a1E a1P a0.SubIndex a0.Since) (wOfC4 a1E a1P a0.SubIndex a0.Since) == auditShapeC0 a0.SubIndex a0.SubRelease a0.SubDeadline a0.SubBit a0.SubGroup && (auditShapeC1 (wOfC0 a1E a1P a0.SubIndex a0.Since) (wOfC1 a1E a1P a0.SubIndex a0.Since) (wOfC2 a1E a1P a0.SubIndex a0.Since) (wOfC3 a1E a1P a0.SubIndex a0.Since) (wOfC4 a1E a1P a0.SubIndex a0.Since) == auditShapeC1 a0.SubIndex a0.SubRelease a0.SubDeadline a0.SubBit a0.SubGroup && (auditShapeC2 (wOfC0 a1E a1P a0.SubIndex a0.Since) (wOfC1 a1E a1P a0.SubIndex a0.Since) (wOfC2 a1E a1P a0.SubIndex a0.Since) (wOfC3 a1E a1P a0.SubIndex a0.Since) (wOfC4 a1E a1P a0.SubIndex a0.Since) == auditShapeC2 a0.SubIndex a0.SubRelease a0.SubDeadline a0.SubBit a0.SubGroup && (auditShapeC3 (wOfC0 a1E a1P a0.SubIndex a0.Since) (wOfC1 a1E a1P a0.SubIndex a0.Since) (wOfC2 a1E a1P a0.SubIndex a0.Since) (wOfC3 a1E a1P a0.SubIndex a0.Since) (wOfC4 a1E a1P a0.SubIndex a0.Since) == auditShapeC3 a0.SubIndex a0.SubRelease a0.SubDeadline a0.SubBit a0.SubGroup && true)))) with | true => (decide (a0.SubRelease ≥ wOfC1 a1E a1P a0.SubIndex a0.Since)) | false => (false)) | false => (false)) | false => false)
def auditOfPre (a0 : Note) (a1E : Int) (a1P : Int) : Bool := (match (wOfPre a1E a1P a0.SubIndex a0.Since) with | true => (match (wOfC5 a1E a1P a0.SubIndex a0.Since == (0 : Int)) with | true => (match (auditShapeC0 (wOfC0 a1E a1P a0.SubIndex a0.Since) (wOfC1 a1E a1P a0.SubIndex a0.Since) (wOfC2 a1E a1P a0.SubIndex a0.Since) (wOfC3 a1E a1P a0.SubIndex a0.Since) (wOfC4 a1E a1P a0.SubIndex a0.Since) == auditShapeC0 a0.SubIndex a0.SubRelease a0.SubDeadline a0.SubBit a0.SubGroup && (auditShapeC1 (wOfC0 a1E a1P a0.SubIndex a0.Since) (wOfC1 a1E a1P a0.SubIndex a0.Since) (wOfC2 a1E a1P a0.SubIndex a0.Since) (wOfC3 a1E a1P a0.SubIndex a0.Since) (wOfC4 a1E a1P a0.SubIndex a0.Since) == auditShapeC1 a0.SubIndex a0.SubRelease a0.SubDeadline a0.SubBit a0.SubGroup && (auditShapeC2 (wOfC0 a1E a1P a0.SubIndex a0.Since) (wOfC1 a1E a1P a0.SubIndex a0.Since) (wOfC2 a1E a1P a0.SubIndex a0.Since) (wOfC3 a1E a1P a0.SubIndex a0.Since) (wOfC4 a1E a1P a0.SubIndex a0.Since) == auditShapeC2 a0.SubIndex a0.SubRelease a0.SubDeadline a0.SubBit a0.SubGroup && (auditShapeC3 (wOfC0 a1E a1P a0.SubIndex a0.Since) (wOfC1 a1E a1P a0.SubIndex a0.Since) (wOfC2 a1E a1P a0.SubIndex a0.Since) (wOfC3 a1E a1P a0.SubIndex a0.Since) (wOfC4 a1E a1P a0.SubIndex a0.Since) == auditShapeC3 a0.SubIndex a0.SubRelease a0.SubDeadline a0.SubBit a0.SubGroup && true)))) with | true => true | false => true) | false => true) | false => false)
noncomputable def auditOfCon : Con T O := fun args cs => match args, cs with
  | [.agg [.raw (.int .i64 a0_0), .raw (.int .i64 a0_1), .raw (.int .i64 a0_2), .raw (.int .i64 a0_3), .raw (.int .i64 a0_4), .raw (.int .i64 a0_5), .raw (.int .i64 a0_6), .raw (.int .i64 a0_7), .raw (.int .i64 a0_8), .raw (.int .i64 a0_9)], .agg [.raw (.int .i64 a1E), .raw (.int .i64 a1P)]], [] => chk (auditOfPre (⟨a0_0, a0_1, a0_2, a0_3, a0_4, a0_5, a0_6, a0_7, a0_8, a0_9⟩ : Note) a1E a1P) (retv (.raw (.bool (auditOf (⟨a0_0, a0_1, a0_2, a0_3, a0_4, a0_5, a0_6, a0_7, a0_8, a0_9⟩ : Note) a1E a1P))))
  | _, _ => .fail
theorem auditOfVc (a0 : Note) (a1E : Int) (a1P : Int) : fnX X13 noAnn Try.f40 [.agg [.raw (.int .i64 a0.ID), .raw (.int .i64 a0.Since), .raw (.int .i64 a0.SubIndex), .raw (.int .i64 a0.SubRelease), .raw (.int .i64 a0.SubDeadline), .raw (.int .i64 a0.SubBit), .raw (.int .i64 a0.SubGroup), .raw (.int .i64 a0.Ready), .raw (.int .i64 a0.At), .raw (.int .i64 a0.Core)], .agg [.raw (.int .i64 a1E), .raw (.int .i64 a1P)]] [] (ends [] ⟨some (.raw (.bool (auditOf a0 a1E a1P))), []⟩) = ((match (wOfPre a1E a1P a0.SubIndex a0.Since) with | true => (match (wOfC5 a1E a1P a0.SubIndex a0.Since == (0 : Int)) with | true => (match (auditShapeC0 (wOfC0 a1E a1P a0.SubIndex a0.Since) (wOfC1 a1E a1P a0.SubIndex a0.Since) (wOfC2 a1E a1P a0.SubIndex a0.Since) (wOfC3 a1E a1P a0.SubIndex a0.Since) (wOfC4 a1E a1P a0.SubIndex a0.Since) == auditShapeC0 a0.SubIndex a0.SubRelease a0.SubDeadline a0.SubBit a0.SubGroup && (auditShapeC1 (wOfC0 a1E a1P a0.SubIndex a0.Since) (wOfC1 a1E a1P a0.SubIndex a0.Since) (wOfC2 a1E a1P a0.SubIndex a0.Since) (wOfC3 a1E a1P a0.SubIndex a0.Since) (wOfC4 a1E a1P a0.SubIndex a0.Since) == auditShapeC1 a0.SubIndex a0.SubRelease a0.SubDeadline a0.SubBit a0.SubGroup && (auditShapeC2 (wOfC0 a1E a1P a0.SubIndex a0.Since) (wOfC1 a1E a1P a0.SubIndex a0.Since) (wOfC2 a1E a1P a0.SubIndex a0.Since) (wOfC3 a1E a1P a0.SubIndex a0.Since) (wOfC4 a1E a1P a0.SubIndex a0.Since) == auditShapeC2 a0.SubIndex a0.SubRelease a0.SubDeadline a0.SubBit a0.SubGroup && (auditShapeC3 (wOfC0 a1E a1P a0.SubIndex a0.Since) (wOfC1 a1E a1P a0.SubIndex a0.Since) (wOfC2 a1E a1P a0.SubIndex a0.Since) (wOfC3 a1E a1P a0.SubIndex a0.Since) (wOfC4 a1E a1P a0.SubIndex a0.Since) == auditShapeC3 a0.SubIndex a0.SubRelease a0.SubDeadline a0.SubBit a0.SubGroup && true)))) with | true => ((auditOf a0 a1E a1P = (decide (a0.SubRelease ≥ wOfC1 a1E a1P a0.SubIndex a0.Since))) ∧ True) ∧ True | false => ((auditOf a0 a1E a1P = (false)) ∧ True) ∧ True) | false => ((auditOf a0 a1E a1P = (false)) ∧ True) ∧ True) | false => False)) := by kernel_rfl
theorem auditOfOk : ConOk R Try.prog 40 auditOfCon := con_of_fn R X13 (TabOk.con R X13Ok) mixed Try.call40 Try.func40 auditOfCon (by
  intro args cs K h
  unfold auditOfCon at h
  split at h
  · rename_i a0_0 a0_1 a0_2 a0_3 a0_4 a0_5 a0_6 a0_7 a0_8 a0_9 a1E a1P
    rw [Tree.holds_chk] at h
    obtain ⟨hp, h⟩ := h
    refine ⟨noAnn, _, fun v S hv => ⟨_, h, hv⟩, ?_⟩
    rw [auditOfVc (⟨a0_0, a0_1, a0_2, a0_3, a0_4, a0_5, a0_6, a0_7, a0_8, a0_9⟩ : Note) a1E a1P]
    revert hp
    unfold auditOf auditOfPre
    cases (wOfPre a1E a1P (⟨a0_0, a0_1, a0_2, a0_3, a0_4, a0_5, a0_6, a0_7, a0_8, a0_9⟩ : Note).SubIndex (⟨a0_0, a0_1, a0_2, a0_3, a0_4, a0_5, a0_6, a0_7, a0_8, a0_9⟩ : Note).Since)
    ·
      intro hp; cases hp
    ·
      cases (wOfC5 a1E a1P (⟨a0_0, a0_1, a0_2, a0_3, a0_4, a0_5, a0_6, a0_7, a0_8, a0_9⟩ : Note).SubIndex (⟨a0_0, a0_1, a0_2, a0_3, a0_4, a0_5, a0_6, a0_7, a0_8, a0_9⟩ : Note).Since == (0 : Int))
      ·
        intro _; exact ⟨⟨rfl, trivial⟩, trivial⟩
      ·
        cases (auditShapeC0 (wOfC0 a1E a1P (⟨a0_0, a0_1, a0_2, a0_3, a0_4, a0_5, a0_6, a0_7, a0_8, a0_9⟩ : Note).SubIndex (⟨a0_0, a0_1, a0_2, a0_3, a0_4, a0_5, a0_6, a0_7, a0_8, a0_9⟩ : Note).Since) (wOfC1 a1E a1P (⟨a0_0, a0_1, a0_2, a0_3, a0_4, a0_5, a0_6, a0_7, a0_8, a0_9⟩ : Note).SubIndex (⟨a0_0, a0_1, a0_2, a0_3, a0_4, a0_5, a0_6, a0_7, a0_8, a0_9⟩ : Note).Since) (wOfC2 a1E a1P (⟨a0_0, a0_1, a0_2, a0_3, a0_4, a0_5, a0_6, a0_7, a0_8, a0_9⟩ : Note).SubIndex (⟨a0_0, a0_1, a0_2, a0_3, a0_4, a0_5, a0_6, a0_7, a0_8, a0_9⟩ : Note).Since) (wOfC3 a1E a1P (⟨a0_0, a0_1, a0_2, a0_3, a0_4, a0_5, a0_6, a0_7, a0_8, a0_9⟩ : Note).SubIndex (⟨a0_0, a0_1, a0_2, a0_3, a0_4, a0_5, a0_6, a0_7, a0_8, a0_9⟩ : Note).Since) (wOfC4 a1E a1P (⟨a0_0, a0_1, a0_2, a0_3, a0_4, a0_5, a0_6, a0_7, a0_8, a0_9⟩ : Note).SubIndex (⟨a0_0, a0_1, a0_2, a0_3, a0_4, a0_5, a0_6, a0_7, a0_8, a0_9⟩ : Note).Since) == auditShapeC0 (⟨a0_0, a0_1, a0_2, a0_3, a0_4, a0_5, a0_6, a0_7, a0_8, a0_9⟩ : Note).SubIndex (⟨a0_0, a0_1, a0_2, a0_3, a0_4, a0_5, a0_6, a0_7, a0_8, a0_9⟩ : Note).SubRelease (⟨a0_0, a0_1, a0_2, a0_3, a0_4, a0_5, a0_6, a0_7, a0_8, a0_9⟩ : Note).SubDeadline (⟨a0_0, a0_1, a0_2, a0_3, a0_4, a0_5, a0_6, a0_7, a0_8, a0_9⟩ : Note).SubBit (⟨a0_0, a0_1, a0_2, a0_3, a0_4, a0_5, a0_6, a0_7, a0_8, a0_9⟩ : Note).SubGroup && (auditShapeC1 (wOfC0 a1E a1P (⟨a0_0, a0_1, a0_2, a0_3, a0_4, a0_5, a0_6, a0_7, a0_8, a0_9⟩ : Note).SubIndex (⟨a0_0, a0_1, a0_2, a0_3, a0_4, a0_5, a0_6, a0_7, a0_8, a0_9⟩ : Note).Since) (wOfC1 a1E a1P (⟨a0_0, a0_1, a0_2, a0_3, a0_4, a0_5, a0_6, a0_7, a0_8, a0_9⟩ : Note).SubIndex (⟨a0_0, a0_1, a0_2, a0_3, a0_4, a0_5, a0_6, a0_7, a0_8, a0_9⟩ : Note).Since) (wOfC2 a1E a1P (⟨a0_0, a0_1, a0_2, a0_3, a0_4, a0_5, a0_6, a0_7, a0_8, a0_9⟩ : Note).SubIndex (⟨a0_0, a0_1, a0_2, a0_3, a0_4, a0_5, a0_6, a0_7, a0_8, a0_9⟩ : Note).Since) (wOfC3 a1E a1P (⟨a0_0, a0_1, a0_2, a0_3, a0_4, a0_5, a0_6, a0_7, a0_8, a0_9⟩ : Note).SubIndex (⟨a0_0, a0_1, a0_2, a0_3, a0_4, a0_5, a0_6, a0_7, a0_8, a0_9⟩ : Note).Since) (wOfC4 a1E a1P (⟨a0_0, a0_1, a0_2, a0_3, a0_4, a0_5, a0_6, a0_7, a0_8, a0_9⟩ : Note).SubIndex (⟨a0_0, a0_1, a0_2, a0_3, a0_4, a0_5, a0_6, a0_7, a0_8, a0_9⟩ : Note).Since) == auditShapeC1 (⟨a0_0, a0_1, a0_2, a0_3, a0_4, a0_5, a0_6, a0_7, a0_8, a0_9⟩ : Note).SubIndex (⟨a0_0, a0_1, a0_2, a0_3, a0_4, a0_5, a0_6, a0_7, a0_8, a0_9⟩ : Note).SubRelease (⟨a0_0, a0_1, a0_2, a0_3, a0_4, a0_5, a0_6, a0_7, a0_8, a0_9⟩ : Note).SubDeadline (⟨a0_0, a0_1, a0_2, a0_3, a0_4, a0_5, a0_6, a0_7, a0_8, a0_9⟩ : Note).SubBit (⟨a0_0, a0_1, a0_2, a0_3, a0_4, a0_5, a0_6, a0_7, a0_8, a0_9⟩ : Note).SubGroup && (auditShapeC2 (wOfC0 a1E a1P (⟨a0_0, a0_1, a0_2, a0_3, a0_4, a0_5, a0_6, a0_7, a0_8, a0_9⟩ : Note).SubIndex (⟨a0_0, a0_1, a0_2, a0_3, a0_4, a0_5, a0_6, a0_7, a0_8, a0_9⟩ : Note).Since) (wOfC1 a1E a1P (⟨a0_0, a0_1, a0_2, a0_3, a0_4, a0_5, a0_6, a0_7, a0_8, a0_9⟩ : Note).SubIndex (⟨a0_0, a0_1, a0_2, a0_3, a0_4, a0_5, a0_6, a0_7, a0_8, a0_9⟩ : Note).Since) (wOfC2 a1E a1P (⟨a0_0, a0_1, a0_2, a0_3, a0_4, a0_5, a0_6, a0_7, a0_8, a0_9⟩ : Note).SubIndex (⟨a0_0, a0_1, a0_2, a0_3, a0_4, a0_5, a0_6, a0_7, a0_8, a0_9⟩ : Note).Since) (wOfC3 a1E a1P (⟨a0_0, a0_1, a0_2, a0_3, a0_4, a0_5, a0_6, a0_7, a0_8, a0_9⟩ : Note).SubIndex (⟨a0_0, a0_1, a0_2, a0_3, a0_4, a0_5, a0_6, a0_7, a0_8, a0_9⟩ : Note).Since) (wOfC4 a1E a1P (⟨a0_0, a0_1, a0_2, a0_3, a0_4, a0_5, a0_6, a0_7, a0_8, a0_9⟩ : Note).SubIndex (⟨a0_0, a0_1, a0_2, a0_3, a0_4, a0_5, a0_6, a0_7, a0_8, a0_9⟩ : Note).Since) == auditShapeC2 (⟨a0_0, a0_1, a0_2, a0_3, a0_4, a0_5, a0_6, a0_7, a0_8, a0_9⟩ : Note).SubIndex (⟨a0_0, a0_1, a0_2, a0_3, a0_4, a0_5, a0_6, a0_7, a0_8, a0_9⟩ : Note).SubRelease (⟨a0_0, a0_1, a0_2, a0_3, a0_4, a0_5, a0_6, a0_7, a0_8, a0_9⟩ : Note).SubDeadline (⟨a0_0, a0_1, a0_2, a0_3, a0_4, a0_5, a0_6, a0_7, a0_8, a0_9⟩ : Note).SubBit (⟨a0_0, a0_1, a0_2, a0_3, a0_4, a0_5, a0_6, a0_7, a0_8, a0_9⟩ : Note).SubGroup && (auditShapeC3 (wOfC0 a1E a1P (⟨a0_0, a0_1, a0_2, a0_3, a0_4, a0_5, a0_6, a0_7, a0_8, a0_9⟩ : Note).SubIndex (⟨a0_0, a0_1, a0_2, a0_3, a0_4, a0_5, a0_6, a0_7, a0_8, a0_9⟩ : Note).Since) (wOfC1 a1E a1P (⟨a0_0, a0_1, a0_2, a0_3, a0_4, a0_5, a0_6, a0_7, a0_8, a0_9⟩ : Note).SubIndex (⟨a0_0, a0_1, a0_2, a0_3, a0_4, a0_5, a0_6, a0_7, a0_8, a0_9⟩ : Note).Since) (wOfC2 a1E a1P (⟨a0_0, a0_1, a0_2, a0_3, a0_4, a0_5, a0_6, a0_7, a0_8, a0_9⟩ : Note).SubIndex (⟨a0_0, a0_1, a0_2, a0_3, a0_4, a0_5, a0_6, a0_7, a0_8, a0_9⟩ : Note).Since) (wOfC3 a1E a1P (⟨a0_0, a0_1, a0_2, a0_3, a0_4, a0_5, a0_6, a0_7, a0_8, a0_9⟩ : Note).SubIndex (⟨a0_0, a0_1, a0_2, a0_3, a0_4, a0_5, a0_6, a0_7, a0_8, a0_9⟩ : Note).Since) (wOfC4 a1E a1P (⟨a0_0, a0_1, a0_2, a0_3, a0_4, a0_5, a0_6, a0_7, a0_8, a0_9⟩ : Note).SubIndex (⟨a0_0, a0_1, a0_2, a0_3, a0_4, a0_5, a0_6, a0_7, a0_8, a0_9⟩ : Note).Since) == auditShapeC3 (⟨a0_0, a0_1, a0_2, a0_3, a0_4, a0_5, a0_6, a0_7, a0_8, a0_9⟩ : Note).SubIndex (⟨a0_0, a0_1, a0_2, a0_3, a0_4, a0_5, a0_6, a0_7, a0_8, a0_9⟩ : Note).SubRelease (⟨a0_0, a0_1, a0_2, a0_3, a0_4, a0_5, a0_6, a0_7, a0_8, a0_9⟩ : Note).SubDeadline (⟨a0_0, a0_1, a0_2, a0_3, a0_4, a0_5, a0_6, a0_7, a0_8, a0_9⟩ : Note).SubBit (⟨a0_0, a0_1, a0_2, a0_3, a0_4, a0_5, a0_6, a0_7, a0_8, a0_9⟩ : Note).SubGroup && true))))
        ·
          intro _; exact ⟨⟨rfl, trivial⟩, trivial⟩
        ·
          intro _; exact ⟨⟨rfl, trivial⟩, trivial⟩
  · exact h.elim)
/-! ### regatta/regattaref20.Of -/
def ref20Of (a0 : Note) (a1E : Int) (a1P : Int) : Bool := (match (ref04OfPre a1E a1P a0.SubIndex a0.Since) with | true => (match (ref04OfC5 a1E a1P a0.SubIndex a0.Since != (0 : Int)) with | true => (false) | false => (match (decide (a0.SubGroup > (0 : Int))) with | true => (match (decide (ref04OfC4 a1E a1P a0.SubIndex a0.Since > (0 : Int))) with | true => (match (IntKind.i64.wrap (a0.SubGroup - a0.SubDeadline) == IntKind.i64.wrap (ref04OfC4 a1E a1P a0.SubIndex a0.Since - ref04OfC2 a1E a1P a0.SubIndex a0.Since)) with | true => (match (IntKind.i64.wrap (a0.SubDeadline - a0.SubRelease) == IntKind.i64.wrap (ref04OfC2 a1E a1P a0.SubIndex a0.Since - ref04OfC1 a1E a1P a0.SubIndex a0.Since)) with | true => (match (a0.SubBit == ref04OfC3 a1E a1P a0.SubIndex a0.Since) with | true => (decide (a0.SubRelease ≥ ref04OfC1 a1E a1P a0.SubIndex a0.Since)) | false => (false)) | false => (false)) | false => (match (a0.SubGroup == (0 : Int)) with | true => (match (IntKind.i64.wrap (a0.SubDeadline - a0.SubRelease) == IntKind.i64.wrap (ref04OfC2 a1E a1P a0.SubIndex a0.Since - ref04OfC1 a1E a1P a0.SubIndex a0.Since)) with | true => (match (a0.SubBit == ref04OfC3 a1E a1P a0.SubIndex a0.Since) with | true => (match (ref04OfC4 a1E a1P a0.SubIndex a0.Since == (0 : Int)) with | true => (decide (a0.SubRelease ≥ ref04OfC1 a1E a1P a0.SubIndex a0.Since)) | false => (false)) | false => (false)) | false => (false)) | false => (match (IntKind.i64.wrap (a0.SubDeadline - a0.SubRelease) == IntKind.i64.wrap (ref04OfC2 a1E a1P a0.SubIndex a0.Since - ref04OfC1 a1E a1P a0.SubIndex a0.Since)) with | true => (match (a0.SubBit == ref04OfC3 a1E a1P a0.SubIndex a0.Since) with | true => (false) | false => (false)) | false => (false)))) | false => (match (a0.SubGroup == (0 : Int)) with | true => (match (IntKind.i64.wrap (a0.SubDeadline - a0.SubRelease) == IntKind.i64.wrap (ref04OfC2 a1E a1P a0.SubIndex a0.Since - ref04OfC1 a1E a1P a0.SubIndex a0.Since)) with | true => (match (a0.SubBit == ref04OfC3 a1E a1P a0.SubIndex a0.Since) with | true => (match (ref04OfC4 a1E a1P a0.SubIndex a0.Since == (0 : Int)) with | true => (decide (a0.SubRelease ≥ ref04OfC1 a1E a1P a0.SubIndex a0.Since)) | false => (false)) | false => (false)) | false => (false)) | false => (match (IntKind.i64.wrap (a0.SubDeadline - a0.SubRelease) == IntKind.i64.wrap (ref04OfC2 a1E a1P a0.SubIndex a0.Since - ref04OfC1 a1E a1P a0.SubIndex a0.Since)) with | true => (match (a0.SubBit == ref04OfC3 a1E a1P a0.SubIndex a0.Since) with | true => (false) | false => (false)) | false => (false)))) | false => (match (a0.SubGroup == (0 : Int)) with | true => (match (IntKind.i64.wrap (a0.SubDeadline - a0.SubRelease) == IntKind.i64.wrap (ref04OfC2 a1E a1P a0.SubIndex a0.Since - ref04OfC1 a1E a1P a0.SubIndex a0.Since)) with | true => (match (a0.SubBit == ref04OfC3 a1E a1P a0.SubIndex a0.Since) with | true => (match (ref04OfC4 a1E a1P a0.SubIndex a0.Since == (0 : Int)) with | true => (decide (a0.SubRelease ≥ ref04OfC1 a1E a1P a0.SubIndex a0.Since)) | false => (false)) | false => (false)) | false => (false)) | false => (match (IntKind.i64.wrap (a0.SubDeadline - a0.SubRelease) == IntKind.i64.wrap (ref04OfC2 a1E a1P a0.SubIndex a0.Since - ref04OfC1 a1E a1P a0.SubIndex a0.Since)) with | true => (match (a0.SubBit == ref04OfC3 a1E a1P a0.SubIndex a0.Since) with | true => (false) | false => (false)) | false => (false))))) | false => false)
def ref20OfPre (a0 : Note) (a1E : Int) (a1P : Int) : Bool := (match (ref04OfPre a1E a1P a0.SubIndex a0.Since) with | true => (match (ref04OfC5 a1E a1P a0.SubIndex a0.Since != (0 : Int)) with | true => true | false => (match (decide (a0.SubGroup > (0 : Int))) with | true => (match (decide (ref04OfC4 a1E a1P a0.SubIndex a0.Since > (0 : Int))) with | true => (match (IntKind.i64.wrap (a0.SubGroup - a0.SubDeadline) == IntKind.i64.wrap (ref04OfC4 a1E a1P a0.SubIndex a0.Since - ref04OfC2 a1E a1P a0.SubIndex a0.Since)) with | true => (match (IntKind.i64.wrap (a0.SubDeadline - a0.SubRelease) == IntKind.i64.wrap (ref04OfC2 a1E a1P a0.SubIndex a0.Since - ref04OfC1 a1E a1P a0.SubIndex a0.Since)) with | true => (match (a0.SubBit == ref04OfC3 a1E a1P a0.SubIndex a0.Since) with | true => true | false => true) | false => true) | false => (match (a0.SubGroup == (0 : Int)) with | true => (match (IntKind.i64.wrap (a0.SubDeadline - a0.SubRelease) == IntKind.i64.wrap (ref04OfC2 a1E a1P a0.SubIndex a0.Since - ref04OfC1 a1E a1P a0.SubIndex a0.Since)) with | true => (match (a0.SubBit == ref04OfC3 a1E a1P a0.SubIndex a0.Since) with | true => (match (ref04OfC4 a1E a1P a0.SubIndex a0.Since == (0 : Int)) with | true => true | false => true) | false => true) | false => true) | false => (match (IntKind.i64.wrap (a0.SubDeadline - a0.SubRelease) == IntKind.i64.wrap (ref04OfC2 a1E a1P a0.SubIndex a0.Since - ref04OfC1 a1E a1P a0.SubIndex a0.Since)) with | true => (match (a0.SubBit == ref04OfC3 a1E a1P a0.SubIndex a0.Since) with | true => true | false => true) | false => true))) | false => (match (a0.SubGroup == (0 : Int)) with | true => (match (IntKind.i64.wrap (a0.SubDeadline - a0.SubRelease) == IntKind.i64.wrap (ref04OfC2 a1E a1P a0.SubIndex a0.Since - ref04OfC1 a1E a1P a0.SubIndex a0.Since)) with | true => (match (a0.SubBit == ref04OfC3 a1E a1P a0.SubIndex a0.Since) with | true => (match (ref04OfC4 a1E a1P a0.SubIndex a0.Since == (0 : Int)) with | true => true | false => true) | false => true) | false => true) | false => (match (IntKind.i64.wrap (a0.SubDeadline - a0.SubRelease) == IntKind.i64.wrap (ref04OfC2 a1E a1P a0.SubIndex a0.Since - ref04OfC1 a1E a1P a0.SubIndex a0.Since)) with | true => (match (a0.SubBit == ref04OfC3 a1E a1P a0.SubIndex a0.Since) with | true => true | false => true) | false => true))) | false => (match (a0.SubGroup == (0 : Int)) with | true => (match (IntKind.i64.wrap (a0.SubDeadline - a0.SubRelease) == IntKind.i64.wrap (ref04OfC2 a1E a1P a0.SubIndex a0.Since - ref04OfC1 a1E a1P a0.SubIndex a0.Since)) with | true => (match (a0.SubBit == ref04OfC3 a1E a1P a0.SubIndex a0.Since) with | true => (match (ref04OfC4 a1E a1P a0.SubIndex a0.Since == (0 : Int)) with | true => true | false => true) | false => true) | false => true) | false => (match (IntKind.i64.wrap (a0.SubDeadline - a0.SubRelease) == IntKind.i64.wrap (ref04OfC2 a1E a1P a0.SubIndex a0.Since - ref04OfC1 a1E a1P a0.SubIndex a0.Since)) with | true => (match (a0.SubBit == ref04OfC3 a1E a1P a0.SubIndex a0.Since) with | true => true | false => true) | false => true)))) | false => false)
noncomputable def ref20OfCon : Con T O := fun args cs => match args, cs with
  | [.agg [.raw (.int .i64 a0_0), .raw (.int .i64 a0_1), .raw (.int .i64 a0_2), .raw (.int .i64 a0_3), .raw (.int .i64 a0_4), .raw (.int .i64 a0_5), .raw (.int .i64 a0_6), .raw (.int .i64 a0_7), .raw (.int .i64 a0_8), .raw (.int .i64 a0_9)], .agg [.raw (.int .i64 a1E), .raw (.int .i64 a1P)]], [] => chk (ref20OfPre (⟨a0_0, a0_1, a0_2, a0_3, a0_4, a0_5, a0_6, a0_7, a0_8, a0_9⟩ : Note) a1E a1P) (retv (.raw (.bool (ref20Of (⟨a0_0, a0_1, a0_2, a0_3, a0_4, a0_5, a0_6, a0_7, a0_8, a0_9⟩ : Note) a1E a1P))))
  | _, _ => .fail
theorem ref20OfVc (a0 : Note) (a1E : Int) (a1P : Int) : fnX X13 noAnn Try.f38 [.agg [.raw (.int .i64 a0.ID), .raw (.int .i64 a0.Since), .raw (.int .i64 a0.SubIndex), .raw (.int .i64 a0.SubRelease), .raw (.int .i64 a0.SubDeadline), .raw (.int .i64 a0.SubBit), .raw (.int .i64 a0.SubGroup), .raw (.int .i64 a0.Ready), .raw (.int .i64 a0.At), .raw (.int .i64 a0.Core)], .agg [.raw (.int .i64 a1E), .raw (.int .i64 a1P)]] [] (ends [] ⟨some (.raw (.bool (ref20Of a0 a1E a1P))), []⟩) = ((match (ref04OfPre a1E a1P a0.SubIndex a0.Since) with | true => (match (ref04OfC5 a1E a1P a0.SubIndex a0.Since != (0 : Int)) with | true => ((ref20Of a0 a1E a1P = (false)) ∧ True) ∧ True | false => (match (decide (a0.SubGroup > (0 : Int))) with | true => (match (decide (ref04OfC4 a1E a1P a0.SubIndex a0.Since > (0 : Int))) with | true => (match (IntKind.i64.wrap (a0.SubGroup - a0.SubDeadline) == IntKind.i64.wrap (ref04OfC4 a1E a1P a0.SubIndex a0.Since - ref04OfC2 a1E a1P a0.SubIndex a0.Since)) with | true => (match (IntKind.i64.wrap (a0.SubDeadline - a0.SubRelease) == IntKind.i64.wrap (ref04OfC2 a1E a1P a0.SubIndex a0.Since - ref04OfC1 a1E a1P a0.SubIndex a0.Since)) with | true => (match (a0.SubBit == ref04OfC3 a1E a1P a0.SubIndex a0.Since) with | true => ((ref20Of a0 a1E a1P = (decide (a0.SubRelease ≥ ref04OfC1 a1E a1P a0.SubIndex a0.Since))) ∧ True) ∧ True | false => ((ref20Of a0 a1E a1P = (false)) ∧ True) ∧ True) | false => ((ref20Of a0 a1E a1P = (false)) ∧ True) ∧ True) | false => (match (a0.SubGroup == (0 : Int)) with | true => (match (IntKind.i64.wrap (a0.SubDeadline - a0.SubRelease) == IntKind.i64.wrap (ref04OfC2 a1E a1P a0.SubIndex a0.Since - ref04OfC1 a1E a1P a0.SubIndex a0.Since)) with | true => (match (a0.SubBit == ref04OfC3 a1E a1P a0.SubIndex a0.Since) with | true => (match (ref04OfC4 a1E a1P a0.SubIndex a0.Since == (0 : Int)) with | true => ((ref20Of a0 a1E a1P = (decide (a0.SubRelease ≥ ref04OfC1 a1E a1P a0.SubIndex a0.Since))) ∧ True) ∧ True | false => ((ref20Of a0 a1E a1P = (false)) ∧ True) ∧ True) | false => ((ref20Of a0 a1E a1P = (false)) ∧ True) ∧ True) | false => ((ref20Of a0 a1E a1P = (false)) ∧ True) ∧ True) | false => (match (IntKind.i64.wrap (a0.SubDeadline - a0.SubRelease) == IntKind.i64.wrap (ref04OfC2 a1E a1P a0.SubIndex a0.Since - ref04OfC1 a1E a1P a0.SubIndex a0.Since)) with | true => (match (a0.SubBit == ref04OfC3 a1E a1P a0.SubIndex a0.Since) with | true => ((ref20Of a0 a1E a1P = (false)) ∧ True) ∧ True | false => ((ref20Of a0 a1E a1P = (false)) ∧ True) ∧ True) | false => ((ref20Of a0 a1E a1P = (false)) ∧ True) ∧ True))) | false => (match (a0.SubGroup == (0 : Int)) with | true => (match (IntKind.i64.wrap (a0.SubDeadline - a0.SubRelease) == IntKind.i64.wrap (ref04OfC2 a1E a1P a0.SubIndex a0.Since - ref04OfC1 a1E a1P a0.SubIndex a0.Since)) with | true => (match (a0.SubBit == ref04OfC3 a1E a1P a0.SubIndex a0.Since) with | true => (match (ref04OfC4 a1E a1P a0.SubIndex a0.Since == (0 : Int)) with | true => ((ref20Of a0 a1E a1P = (decide (a0.SubRelease ≥ ref04OfC1 a1E a1P a0.SubIndex a0.Since))) ∧ True) ∧ True | false => ((ref20Of a0 a1E a1P = (false)) ∧ True) ∧ True) | false => ((ref20Of a0 a1E a1P = (false)) ∧ True) ∧ True) | false => ((ref20Of a0 a1E a1P = (false)) ∧ True) ∧ True) | false => (match (IntKind.i64.wrap (a0.SubDeadline - a0.SubRelease) == IntKind.i64.wrap (ref04OfC2 a1E a1P a0.SubIndex a0.Since - ref04OfC1 a1E a1P a0.SubIndex a0.Since)) with | true => (match (a0.SubBit == ref04OfC3 a1E a1P a0.SubIndex a0.Since) with | true => ((ref20Of a0 a1E a1P = (false)) ∧ True) ∧ True | false => ((ref20Of a0 a1E a1P = (false)) ∧ True) ∧ True) | false => ((ref20Of a0 a1E a1P = (false)) ∧ True) ∧ True))) | false => (match (a0.SubGroup == (0 : Int)) with | true => (match (IntKind.i64.wrap (a0.SubDeadline - a0.SubRelease) == IntKind.i64.wrap (ref04OfC2 a1E a1P a0.SubIndex a0.Since - ref04OfC1 a1E a1P a0.SubIndex a0.Since)) with | true => (match (a0.SubBit == ref04OfC3 a1E a1P a0.SubIndex a0.Since) with | true => (match (ref04OfC4 a1E a1P a0.SubIndex a0.Since == (0 : Int)) with | true => ((ref20Of a0 a1E a1P = (decide (a0.SubRelease ≥ ref04OfC1 a1E a1P a0.SubIndex a0.Since))) ∧ True) ∧ True | false => ((ref20Of a0 a1E a1P = (false)) ∧ True) ∧ True) | false => ((ref20Of a0 a1E a1P = (false)) ∧ True) ∧ True) | false => ((ref20Of a0 a1E a1P = (false)) ∧ True) ∧ True) | false => (match (IntKind.i64.wrap (a0.SubDeadline - a0.SubRelease) == IntKind.i64.wrap (ref04OfC2 a1E a1P a0.SubIndex a0.Since - ref04OfC1 a1E a1P a0.SubIndex a0.Since)) with | true => (match (a0.SubBit == ref04OfC3 a1E a1P a0.SubIndex a0.Since) with | true => ((ref20Of a0 a1E a1P = (false)) ∧ True) ∧ True | false => ((ref20Of a0 a1E a1P = (false)) ∧ True) ∧ True) | false => ((ref20Of a0 a1E a1P = (false)) ∧ True) ∧ True)))) | false => False)) := by kernel_rfl
theorem ref20OfOk : ConOk R Try.prog 38 ref20OfCon := con_of_fn R X13 (TabOk.con R X13Ok) mixed Try.call38 Try.func38 ref20OfCon (by
  intro args cs K h
  unfold ref20OfCon at h
  split at h
  · rename_i a0_0 a0_1 a0_2 a0_3 a0_4 a0_5 a0_6 a0_7 a0_8 a0_9 a1E a1P
    rw [Tree.holds_chk] at h
    obtain ⟨hp, h⟩ := h
    refine ⟨noAnn, _, fun v S hv => ⟨_, h, hv⟩, ?_⟩
    rw [ref20OfVc (⟨a0_0, a0_1, a0_2, a0_3, a0_4, a0_5, a0_6, a0_7, a0_8, a0_9⟩ : Note) a1E a1P]
    revert hp
    unfold ref20Of ref20OfPre
    cases (ref04OfPre a1E a1P (⟨a0_0, a0_1, a0_2, a0_3, a0_4, a0_5, a0_6, a0_7, a0_8, a0_9⟩ : Note).SubIndex (⟨a0_0, a0_1, a0_2, a0_3, a0_4, a0_5, a0_6, a0_7, a0_8, a0_9⟩ : Note).Since)
    ·
      intro hp; cases hp
    ·
      cases (ref04OfC5 a1E a1P (⟨a0_0, a0_1, a0_2, a0_3, a0_4, a0_5, a0_6, a0_7, a0_8, a0_9⟩ : Note).SubIndex (⟨a0_0, a0_1, a0_2, a0_3, a0_4, a0_5, a0_6, a0_7, a0_8, a0_9⟩ : Note).Since != (0 : Int))
      ·
        cases (decide ((⟨a0_0, a0_1, a0_2, a0_3, a0_4, a0_5, a0_6, a0_7, a0_8, a0_9⟩ : Note).SubGroup > (0 : Int)))
        ·
          cases ((⟨a0_0, a0_1, a0_2, a0_3, a0_4, a0_5, a0_6, a0_7, a0_8, a0_9⟩ : Note).SubGroup == (0 : Int))
          ·
            cases (IntKind.i64.wrap ((⟨a0_0, a0_1, a0_2, a0_3, a0_4, a0_5, a0_6, a0_7, a0_8, a0_9⟩ : Note).SubDeadline - (⟨a0_0, a0_1, a0_2, a0_3, a0_4, a0_5, a0_6, a0_7, a0_8, a0_9⟩ : Note).SubRelease) == IntKind.i64.wrap (ref04OfC2 a1E a1P (⟨a0_0, a0_1, a0_2, a0_3, a0_4, a0_5, a0_6, a0_7, a0_8, a0_9⟩ : Note).SubIndex (⟨a0_0, a0_1, a0_2, a0_3, a0_4, a0_5, a0_6, a0_7, a0_8, a0_9⟩ : Note).Since - ref04OfC1 a1E a1P (⟨a0_0, a0_1, a0_2, a0_3, a0_4, a0_5, a0_6, a0_7, a0_8, a0_9⟩ : Note).SubIndex (⟨a0_0, a0_1, a0_2, a0_3, a0_4, a0_5, a0_6, a0_7, a0_8, a0_9⟩ : Note).Since))
            ·
              intro _; exact ⟨⟨rfl, trivial⟩, trivial⟩
            ·
              cases ((⟨a0_0, a0_1, a0_2, a0_3, a0_4, a0_5, a0_6, a0_7, a0_8, a0_9⟩ : Note).SubBit == ref04OfC3 a1E a1P (⟨a0_0, a0_1, a0_2, a0_3, a0_4, a0_5, a0_6, a0_7, a0_8, a0_9⟩ : Note).SubIndex (⟨a0_0, a0_1, a0_2, a0_3, a0_4, a0_5, a0_6, a0_7, a0_8, a0_9⟩ : Note).Since)
              ·
                intro _; exact ⟨⟨rfl, trivial⟩, trivial⟩
              ·
                intro _; exact ⟨⟨rfl, trivial⟩, trivial⟩
          ·
            cases (IntKind.i64.wrap ((⟨a0_0, a0_1, a0_2, a0_3, a0_4, a0_5, a0_6, a0_7, a0_8, a0_9⟩ : Note).SubDeadline - (⟨a0_0, a0_1, a0_2, a0_3, a0_4, a0_5, a0_6, a0_7, a0_8, a0_9⟩ : Note).SubRelease) == IntKind.i64.wrap (ref04OfC2 a1E a1P (⟨a0_0, a0_1, a0_2, a0_3, a0_4, a0_5, a0_6, a0_7, a0_8, a0_9⟩ : Note).SubIndex (⟨a0_0, a0_1, a0_2, a0_3, a0_4, a0_5, a0_6, a0_7, a0_8, a0_9⟩ : Note).Since - ref04OfC1 a1E a1P (⟨a0_0, a0_1, a0_2, a0_3, a0_4, a0_5, a0_6, a0_7, a0_8, a0_9⟩ : Note).SubIndex (⟨a0_0, a0_1, a0_2, a0_3, a0_4, a0_5, a0_6, a0_7, a0_8, a0_9⟩ : Note).Since))
            ·
              intro _; exact ⟨⟨rfl, trivial⟩, trivial⟩
            ·
              cases ((⟨a0_0, a0_1, a0_2, a0_3, a0_4, a0_5, a0_6, a0_7, a0_8, a0_9⟩ : Note).SubBit == ref04OfC3 a1E a1P (⟨a0_0, a0_1, a0_2, a0_3, a0_4, a0_5, a0_6, a0_7, a0_8, a0_9⟩ : Note).SubIndex (⟨a0_0, a0_1, a0_2, a0_3, a0_4, a0_5, a0_6, a0_7, a0_8, a0_9⟩ : Note).Since)
              ·
                intro _; exact ⟨⟨rfl, trivial⟩, trivial⟩
              ·
                cases (ref04OfC4 a1E a1P (⟨a0_0, a0_1, a0_2, a0_3, a0_4, a0_5, a0_6, a0_7, a0_8, a0_9⟩ : Note).SubIndex (⟨a0_0, a0_1, a0_2, a0_3, a0_4, a0_5, a0_6, a0_7, a0_8, a0_9⟩ : Note).Since == (0 : Int))
                ·
                  intro _; exact ⟨⟨rfl, trivial⟩, trivial⟩
                ·
                  intro _; exact ⟨⟨rfl, trivial⟩, trivial⟩
        ·
          cases (decide (ref04OfC4 a1E a1P (⟨a0_0, a0_1, a0_2, a0_3, a0_4, a0_5, a0_6, a0_7, a0_8, a0_9⟩ : Note).SubIndex (⟨a0_0, a0_1, a0_2, a0_3, a0_4, a0_5, a0_6, a0_7, a0_8, a0_9⟩ : Note).Since > (0 : Int)))
          ·
            cases ((⟨a0_0, a0_1, a0_2, a0_3, a0_4, a0_5, a0_6, a0_7, a0_8, a0_9⟩ : Note).SubGroup == (0 : Int))
            ·
              cases (IntKind.i64.wrap ((⟨a0_0, a0_1, a0_2, a0_3, a0_4, a0_5, a0_6, a0_7, a0_8, a0_9⟩ : Note).SubDeadline - (⟨a0_0, a0_1, a0_2, a0_3, a0_4, a0_5, a0_6, a0_7, a0_8, a0_9⟩ : Note).SubRelease) == IntKind.i64.wrap (ref04OfC2 a1E a1P (⟨a0_0, a0_1, a0_2, a0_3, a0_4, a0_5, a0_6, a0_7, a0_8, a0_9⟩ : Note).SubIndex (⟨a0_0, a0_1, a0_2, a0_3, a0_4, a0_5, a0_6, a0_7, a0_8, a0_9⟩ : Note).Since - ref04OfC1 a1E a1P (⟨a0_0, a0_1, a0_2, a0_3, a0_4, a0_5, a0_6, a0_7, a0_8, a0_9⟩ : Note).SubIndex (⟨a0_0, a0_1, a0_2, a0_3, a0_4, a0_5, a0_6, a0_7, a0_8, a0_9⟩ : Note).Since))
              ·
                intro _; exact ⟨⟨rfl, trivial⟩, trivial⟩
              ·
                cases ((⟨a0_0, a0_1, a0_2, a0_3, a0_4, a0_5, a0_6, a0_7, a0_8, a0_9⟩ : Note).SubBit == ref04OfC3 a1E a1P (⟨a0_0, a0_1, a0_2, a0_3, a0_4, a0_5, a0_6, a0_7, a0_8, a0_9⟩ : Note).SubIndex (⟨a0_0, a0_1, a0_2, a0_3, a0_4, a0_5, a0_6, a0_7, a0_8, a0_9⟩ : Note).Since)
                ·
                  intro _; exact ⟨⟨rfl, trivial⟩, trivial⟩
                ·
                  intro _; exact ⟨⟨rfl, trivial⟩, trivial⟩
            ·
              cases (IntKind.i64.wrap ((⟨a0_0, a0_1, a0_2, a0_3, a0_4, a0_5, a0_6, a0_7, a0_8, a0_9⟩ : Note).SubDeadline - (⟨a0_0, a0_1, a0_2, a0_3, a0_4, a0_5, a0_6, a0_7, a0_8, a0_9⟩ : Note).SubRelease) == IntKind.i64.wrap (ref04OfC2 a1E a1P (⟨a0_0, a0_1, a0_2, a0_3, a0_4, a0_5, a0_6, a0_7, a0_8, a0_9⟩ : Note).SubIndex (⟨a0_0, a0_1, a0_2, a0_3, a0_4, a0_5, a0_6, a0_7, a0_8, a0_9⟩ : Note).Since - ref04OfC1 a1E a1P (⟨a0_0, a0_1, a0_2, a0_3, a0_4, a0_5, a0_6, a0_7, a0_8, a0_9⟩ : Note).SubIndex (⟨a0_0, a0_1, a0_2, a0_3, a0_4, a0_5, a0_6, a0_7, a0_8, a0_9⟩ : Note).Since))
              ·
                intro _; exact ⟨⟨rfl, trivial⟩, trivial⟩
              ·
                cases ((⟨a0_0, a0_1, a0_2, a0_3, a0_4, a0_5, a0_6, a0_7, a0_8, a0_9⟩ : Note).SubBit == ref04OfC3 a1E a1P (⟨a0_0, a0_1, a0_2, a0_3, a0_4, a0_5, a0_6, a0_7, a0_8, a0_9⟩ : Note).SubIndex (⟨a0_0, a0_1, a0_2, a0_3, a0_4, a0_5, a0_6, a0_7, a0_8, a0_9⟩ : Note).Since)
                ·
                  intro _; exact ⟨⟨rfl, trivial⟩, trivial⟩
                ·
                  cases (ref04OfC4 a1E a1P (⟨a0_0, a0_1, a0_2, a0_3, a0_4, a0_5, a0_6, a0_7, a0_8, a0_9⟩ : Note).SubIndex (⟨a0_0, a0_1, a0_2, a0_3, a0_4, a0_5, a0_6, a0_7, a0_8, a0_9⟩ : Note).Since == (0 : Int))
                  ·
                    intro _; exact ⟨⟨rfl, trivial⟩, trivial⟩
                  ·
                    intro _; exact ⟨⟨rfl, trivial⟩, trivial⟩
          ·
            cases (IntKind.i64.wrap ((⟨a0_0, a0_1, a0_2, a0_3, a0_4, a0_5, a0_6, a0_7, a0_8, a0_9⟩ : Note).SubGroup - (⟨a0_0, a0_1, a0_2, a0_3, a0_4, a0_5, a0_6, a0_7, a0_8, a0_9⟩ : Note).SubDeadline) == IntKind.i64.wrap (ref04OfC4 a1E a1P (⟨a0_0, a0_1, a0_2, a0_3, a0_4, a0_5, a0_6, a0_7, a0_8, a0_9⟩ : Note).SubIndex (⟨a0_0, a0_1, a0_2, a0_3, a0_4, a0_5, a0_6, a0_7, a0_8, a0_9⟩ : Note).Since - ref04OfC2 a1E a1P (⟨a0_0, a0_1, a0_2, a0_3, a0_4, a0_5, a0_6, a0_7, a0_8, a0_9⟩ : Note).SubIndex (⟨a0_0, a0_1, a0_2, a0_3, a0_4, a0_5, a0_6, a0_7, a0_8, a0_9⟩ : Note).Since))
            ·
              cases ((⟨a0_0, a0_1, a0_2, a0_3, a0_4, a0_5, a0_6, a0_7, a0_8, a0_9⟩ : Note).SubGroup == (0 : Int))
              ·
                cases (IntKind.i64.wrap ((⟨a0_0, a0_1, a0_2, a0_3, a0_4, a0_5, a0_6, a0_7, a0_8, a0_9⟩ : Note).SubDeadline - (⟨a0_0, a0_1, a0_2, a0_3, a0_4, a0_5, a0_6, a0_7, a0_8, a0_9⟩ : Note).SubRelease) == IntKind.i64.wrap (ref04OfC2 a1E a1P (⟨a0_0, a0_1, a0_2, a0_3, a0_4, a0_5, a0_6, a0_7, a0_8, a0_9⟩ : Note).SubIndex (⟨a0_0, a0_1, a0_2, a0_3, a0_4, a0_5, a0_6, a0_7, a0_8, a0_9⟩ : Note).Since - ref04OfC1 a1E a1P (⟨a0_0, a0_1, a0_2, a0_3, a0_4, a0_5, a0_6, a0_7, a0_8, a0_9⟩ : Note).SubIndex (⟨a0_0, a0_1, a0_2, a0_3, a0_4, a0_5, a0_6, a0_7, a0_8, a0_9⟩ : Note).Since))
                ·
                  intro _; exact ⟨⟨rfl, trivial⟩, trivial⟩
                ·
                  cases ((⟨a0_0, a0_1, a0_2, a0_3, a0_4, a0_5, a0_6, a0_7, a0_8, a0_9⟩ : Note).SubBit == ref04OfC3 a1E a1P (⟨a0_0, a0_1, a0_2, a0_3, a0_4, a0_5, a0_6, a0_7, a0_8, a0_9⟩ : Note).SubIndex (⟨a0_0, a0_1, a0_2, a0_3, a0_4, a0_5, a0_6, a0_7, a0_8, a0_9⟩ : Note).Since)
                  ·
                    intro _; exact ⟨⟨rfl, trivial⟩, trivial⟩
                  ·
                    intro _; exact ⟨⟨rfl, trivial⟩, trivial⟩
              ·
                cases (IntKind.i64.wrap ((⟨a0_0, a0_1, a0_2, a0_3, a0_4, a0_5, a0_6, a0_7, a0_8, a0_9⟩ : Note).SubDeadline - (⟨a0_0, a0_1, a0_2, a0_3, a0_4, a0_5, a0_6, a0_7, a0_8, a0_9⟩ : Note).SubRelease) == IntKind.i64.wrap (ref04OfC2 a1E a1P (⟨a0_0, a0_1, a0_2, a0_3, a0_4, a0_5, a0_6, a0_7, a0_8, a0_9⟩ : Note).SubIndex (⟨a0_0, a0_1, a0_2, a0_3, a0_4, a0_5, a0_6, a0_7, a0_8, a0_9⟩ : Note).Since - ref04OfC1 a1E a1P (⟨a0_0, a0_1, a0_2, a0_3, a0_4, a0_5, a0_6, a0_7, a0_8, a0_9⟩ : Note).SubIndex (⟨a0_0, a0_1, a0_2, a0_3, a0_4, a0_5, a0_6, a0_7, a0_8, a0_9⟩ : Note).Since))
                ·
                  intro _; exact ⟨⟨rfl, trivial⟩, trivial⟩
                ·
                  cases ((⟨a0_0, a0_1, a0_2, a0_3, a0_4, a0_5, a0_6, a0_7, a0_8, a0_9⟩ : Note).SubBit == ref04OfC3 a1E a1P (⟨a0_0, a0_1, a0_2, a0_3, a0_4, a0_5, a0_6, a0_7, a0_8, a0_9⟩ : Note).SubIndex (⟨a0_0, a0_1, a0_2, a0_3, a0_4, a0_5, a0_6, a0_7, a0_8, a0_9⟩ : Note).Since)
                  ·
                    intro _; exact ⟨⟨rfl, trivial⟩, trivial⟩
                  ·
                    cases (ref04OfC4 a1E a1P (⟨a0_0, a0_1, a0_2, a0_3, a0_4, a0_5, a0_6, a0_7, a0_8, a0_9⟩ : Note).SubIndex (⟨a0_0, a0_1, a0_2, a0_3, a0_4, a0_5, a0_6, a0_7, a0_8, a0_9⟩ : Note).Since == (0 : Int))
                    ·
                      intro _; exact ⟨⟨rfl, trivial⟩, trivial⟩
                    ·
                      intro _; exact ⟨⟨rfl, trivial⟩, trivial⟩
            ·
              cases (IntKind.i64.wrap ((⟨a0_0, a0_1, a0_2, a0_3, a0_4, a0_5, a0_6, a0_7, a0_8, a0_9⟩ : Note).SubDeadline - (⟨a0_0, a0_1, a0_2, a0_3, a0_4, a0_5, a0_6, a0_7, a0_8, a0_9⟩ : Note).SubRelease) == IntKind.i64.wrap (ref04OfC2 a1E a1P (⟨a0_0, a0_1, a0_2, a0_3, a0_4, a0_5, a0_6, a0_7, a0_8, a0_9⟩ : Note).SubIndex (⟨a0_0, a0_1, a0_2, a0_3, a0_4, a0_5, a0_6, a0_7, a0_8, a0_9⟩ : Note).Since - ref04OfC1 a1E a1P (⟨a0_0, a0_1, a0_2, a0_3, a0_4, a0_5, a0_6, a0_7, a0_8, a0_9⟩ : Note).SubIndex (⟨a0_0, a0_1, a0_2, a0_3, a0_4, a0_5, a0_6, a0_7, a0_8, a0_9⟩ : Note).Since))
              ·
                intro _; exact ⟨⟨rfl, trivial⟩, trivial⟩
              ·
                cases ((⟨a0_0, a0_1, a0_2, a0_3, a0_4, a0_5, a0_6, a0_7, a0_8, a0_9⟩ : Note).SubBit == ref04OfC3 a1E a1P (⟨a0_0, a0_1, a0_2, a0_3, a0_4, a0_5, a0_6, a0_7, a0_8, a0_9⟩ : Note).SubIndex (⟨a0_0, a0_1, a0_2, a0_3, a0_4, a0_5, a0_6, a0_7, a0_8, a0_9⟩ : Note).Since)
                ·
                  intro _; exact ⟨⟨rfl, trivial⟩, trivial⟩
                ·
                  intro _; exact ⟨⟨rfl, trivial⟩, trivial⟩
      ·
        intro _; exact ⟨⟨rfl, trivial⟩, trivial⟩
  · exact h.elim)
/-! ### regatta/regattalaw20.AuditFair$1 -/
def auditFairWText (id since e p : Int) : Prop := ((((e = e) ∧ ((p = p) ∧ True)) ∧ True) ∧ (((e = e) ∧ ((p = p) ∧ True)) ∧ True))
theorem auditFairWVc (id since e p : Int) : fnX X13 (noAnn) Try.f22 [.raw (.int .i64 id), .raw (.int .i64 since), .ptr 0 0] [.cells [.raw (.int .i64 e), .raw (.int .i64 p)] 41] (ends [.cells [.raw (.int .i64 e), .raw (.int .i64 p)] 41] ⟨some (.agg [.raw (.int .i64 e), .raw (.int .i64 p)]), []⟩) = auditFairWText id since e p := by kernel_rfl
theorem auditFairWHolds (id since e p : Int) : auditFairWText id since e p := by
  unfold auditFairWText
  repeat' first | trivial | rfl | apply And.intro
noncomputable def auditFairWCon : Con T O := fun args cs => match args, cs with
  | [.raw (.int .i64 _), .raw (.int .i64 _), .ptr 0 0], [.cells [.raw (.int .i64 e), .raw (.int .i64 p)] 41] => .ret ⟨some (.agg [.raw (.int .i64 e), .raw (.int .i64 p)]), []⟩
  | _, _ => .fail
theorem auditFairWOk : ConOk R Try.prog 22 auditFairWCon := con_of_fn R (X13) (TabOk.con R X13Ok) mixed Try.call22 Try.func22 auditFairWCon (by
  intro args cs K h
  unfold auditFairWCon at h
  split at h
  · rename_i id since e p
    refine ⟨noAnn, _, fun v S hv => ⟨_, h, hv⟩, ?_⟩
    rw [auditFairWVc id since e p]
    exact auditFairWHolds id since e p
  · exact h.elim)
/-! ### regatta/regattalaw20.AuditWindows$1 -/
def auditWindowsWText (id since e p : Int) : Prop := ((((e = e) ∧ ((p = p) ∧ True)) ∧ True) ∧ (((e = e) ∧ ((p = p) ∧ True)) ∧ True))
theorem auditWindowsWVc (id since e p : Int) : fnX X13 (noAnn) Try.f18 [.raw (.int .i64 id), .raw (.int .i64 since), .ptr 0 0] [.cells [.raw (.int .i64 e), .raw (.int .i64 p)] 41] (ends [.cells [.raw (.int .i64 e), .raw (.int .i64 p)] 41] ⟨some (.agg [.raw (.int .i64 e), .raw (.int .i64 p)]), []⟩) = auditWindowsWText id since e p := by kernel_rfl
theorem auditWindowsWHolds (id since e p : Int) : auditWindowsWText id since e p := by
  unfold auditWindowsWText
  repeat' first | trivial | rfl | apply And.intro
noncomputable def auditWindowsWCon : Con T O := fun args cs => match args, cs with
  | [.raw (.int .i64 _), .raw (.int .i64 _), .ptr 0 0], [.cells [.raw (.int .i64 e), .raw (.int .i64 p)] 41] => .ret ⟨some (.agg [.raw (.int .i64 e), .raw (.int .i64 p)]), []⟩
  | _, _ => .fail
theorem auditWindowsWOk : ConOk R Try.prog 18 auditWindowsWCon := con_of_fn R (X13) (TabOk.con R X13Ok) mixed Try.call18 Try.func18 auditWindowsWCon (by
  intro args cs K h
  unfold auditWindowsWCon at h
  split at h
  · rename_i id since e p
    refine ⟨noAnn, _, fun v S hv => ⟨_, h, hv⟩, ?_⟩
    rw [auditWindowsWVc id since e p]
    exact auditWindowsWHolds id since e p
  · exact h.elim)
noncomputable def tab14 : Tab T O := (40, auditOfCon) :: (38, ref20OfCon) :: (22, auditFairWCon) :: (18, auditWindowsWCon) :: tab13
theorem tabOk14 : TabOk R Try.prog tab14 := TabOk.cons R auditOfOk <| TabOk.cons R ref20OfOk <| TabOk.cons R auditFairWOk <| TabOk.cons R auditWindowsWOk <| tabOk13
noncomputable def X14 : Ctx T O := { X0 with con := conOf tab14 }
theorem X14Ok : TabOk R X14.P tab14 := tabOk14
end Go.Proofs.Ytkcnocigkblbiaa
