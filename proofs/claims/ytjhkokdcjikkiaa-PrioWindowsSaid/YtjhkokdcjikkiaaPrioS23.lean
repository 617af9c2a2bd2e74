/-
  Part of a proof over the seat Ytjhkokdcjikkiaa: printed by a small program or typed by hand.
-/
import Derived.Test.YtjhkokdcjikkiaaPrioS22
import Derived.KernelRfl
namespace Go.Proofs.Ytjhkokdcjikkiaa
open Go.Sx Go.Proofs Classical
theorem mask10 (n : Int) : bits .and .i64 n 1023 = n % 1024 := by simpa using mask_nat 10 (by omega) n
theorem mask20 (n : Int) : bits .and .i64 n 1048575 = n % 1048576 := by simpa using mask_nat 20 (by omega) n
theorem mask30 (n : Int) : bits .and .i64 n 1073741823 = n % 1073741824 := by simpa using mask_nat 30 (by omega) n
theorem mask39 (n : Int) : bits .and .i64 n 549755813887 = n % 549755813888 := by simpa using mask_nat 39 (by omega) n
theorem mask40 (n : Int) : bits .and .i64 n 1099511627775 = n % 1099511627776 := by simpa using mask_nat 40 (by omega) n

section
variable {e p i : Int} (h : Wt e p) (hi : Num i)
include h hi

theorem group_of : (p ≤ 2 * e ∧ ref04Deadline e p i ≤ ref04Group e p i ∧ ref04Group e p i ≤ ref04Release e p i + p) ∨ (2 * e < p ∧ ref04Group e p i = 0) := by
  obtain ⟨h1, h2, h3⟩ := id h
  unfold ref04Group
  by_cases hv : p ≤ 2 * e
  · rw [number_of h hi, heavy_of h, decide_eq_true hv, if_pos ⟨rfl, rfl⟩]
    refine .inl ⟨hv, ?_⟩
    by_cases hep : e = p
    · rw [if_pos hep]
      obtain ⟨q1, q2⟩ := deadline_of h hi
      obtain ⟨r1, r2⟩ := release_of h hi
      subst hep
      refine ⟨Int.le_refl _, ?_⟩
      have a1 : ref04Deadline e e i ≤ i := by
        refine Int.not_lt.1 fun hn => ?_
        have m1 := Int.mul_le_mul_of_nonneg_left (show i + 1 ≤ ref04Deadline e e i by omega) (show 0 ≤ e by omega)
        grind
      have a2 : i - 1 ≤ ref04Release e e i := by
        refine Int.not_lt.1 fun hn => ?_
        have m1 := Int.mul_le_mul_of_nonneg_left (show ref04Release e e i + 1 ≤ i - 1 by omega) (show 0 ≤ e by omega)
        grind
      omega
    · rw [if_neg hep]
      exact gend_of h hi hv (by omega) rfl rfl
  · rw [heavy_of h, decide_eq_false hv, if_neg (by simp)]
    exact .inr ⟨by omega, rfl⟩

theorem of_of : ref04OfPre e p i 0 = true ∧ ref04OfC0 e p i 0 = i ∧ ref04OfC1 e p i 0 = ref04Release e p i ∧ ref04OfC2 e p i 0 = ref04Deadline e p i ∧
    ref04OfC3 e p i 0 = ref04Bit e p i ∧ ref04OfC4 e p i 0 = ref04Group e p i ∧ ref04OfC5 e p i 0 = 0 := by
  obtain ⟨h1, h2, h3⟩ := id h
  obtain ⟨r1, r2⟩ := release_bound h hi
  obtain ⟨d1, d2⟩ := deadline_bound h hi
  have hg : 0 ≤ ref04Group e p i ∧ ref04Group e p i ≤ 1152921504607895552 := by
    rcases group_of h hi with ⟨_, a, b⟩ | ⟨_, a⟩
    · omega
    · omega
  unfold ref04OfPre ref04OfC0 ref04OfC1 ref04OfC2 ref04OfC3 ref04OfC4 ref04OfC5
  rw [number_of h hi, deadline_pre_of h hi, release_pre_of h hi, bit_pre_of h hi, wrap_id (n := 4611686018427387904 - 0) (by omega) (by omega), decide_eq_false (show ¬ ref04Deadline e p i > 4611686018427387904 - 0 by omega),
    decide_eq_false (show ¬ ref04Group e p i > 4611686018427387904 - 0 by omega), Int.add_zero, Int.add_zero, Int.add_zero, wrap_id (n := ref04Release e p i) (by omega) (by omega), wrap_id (n := ref04Deadline e p i) (by omega) (by omega), wrap_id (n := ref04Group e p i) (by omega) (by omega)]
  by_cases hp : ref04Group e p i > 0
  · rw [decide_eq_true hp]
    exact ⟨rfl, rfl, rfl, rfl, rfl, rfl, rfl⟩
  · rw [decide_eq_false hp]
    exact ⟨rfl, rfl, rfl, rfl, rfl, show 0 = ref04Group e p i by omega, rfl⟩
end

/-! ### regatta/regattalaw06.PrioWindows -/
def prioWindowsText (q0 q1 n0 n1 : Int) : Prop := (match (IntKind.i64.wrap ((1 : Int) + bits BinOp.and IntKind.i64 q1 (1048575 : Int)) != (0 : Int)) with | true => (match (IntKind.i64.wrap ((1 : Int) + bits BinOp.and IntKind.i64 q1 (1048575 : Int)) != (0 : Int)) with | true => (match (ref04OfPre (IntKind.i64.wrap ((1 : Int) + (IntKind.i64.wrap (q0.tmod (IntKind.i64.wrap ((1 : Int) + bits BinOp.and IntKind.i64 q1 (1048575 : Int))) + IntKind.i64.wrap ((1 : Int) + bits BinOp.and IntKind.i64 q1 (1048575 : Int)))).tmod (IntKind.i64.wrap ((1 : Int) + bits BinOp.and IntKind.i64 q1 (1048575 : Int))))) (IntKind.i64.wrap ((1 : Int) + bits BinOp.and IntKind.i64 q1 (1048575 : Int))) (IntKind.i64.wrap ((1 : Int) + bits BinOp.and IntKind.i64 n0 (549755813887 : Int))) (0 : Int)) with | true => (match (ref04OfPre (IntKind.i64.wrap ((1 : Int) + (IntKind.i64.wrap (q0.tmod (IntKind.i64.wrap ((1 : Int) + bits BinOp.and IntKind.i64 q1 (1048575 : Int))) + IntKind.i64.wrap ((1 : Int) + bits BinOp.and IntKind.i64 q1 (1048575 : Int)))).tmod (IntKind.i64.wrap ((1 : Int) + bits BinOp.and IntKind.i64 q1 (1048575 : Int))))) (IntKind.i64.wrap ((1 : Int) + bits BinOp.and IntKind.i64 q1 (1048575 : Int))) (IntKind.i64.wrap ((1 : Int) + bits BinOp.and IntKind.i64 n1 (549755813887 : Int))) (0 : Int)) with | true => (((true = (prioLess (Ent.mk (1 : Int) (ref04OfC0 (IntKind.i64.wrap ((1 : Int) + (IntKind.i64.wrap (q0.tmod (IntKind.i64.wrap ((1 : Int) + bits BinOp.and IntKind.i64 q1 (1048575 : Int))) + IntKind.i64.wrap ((1 : Int) + bits BinOp.and IntKind.i64 q1 (1048575 : Int)))).tmod (IntKind.i64.wrap ((1 : Int) + bits BinOp.and IntKind.i64 q1 (1048575 : Int))))) (IntKind.i64.wrap ((1 : Int) + bits BinOp.and IntKind.i64 q1 (1048575 : Int))) (IntKind.i64.wrap ((1 : Int) + bits BinOp.and IntKind.i64 n0 (549755813887 : Int))) (0 : Int)) (ref04OfC1 (IntKind.i64.wrap ((1 : Int) + (IntKind.i64.wrap (q0.tmod (IntKind.i64.wrap ((1 : Int) + bits BinOp.and IntKind.i64 q1 (1048575 : Int))) + IntKind.i64.wrap ((1 : Int) + bits BinOp.and IntKind.i64 q1 (1048575 : Int)))).tmod (IntKind.i64.wrap ((1 : Int) + bits BinOp.and IntKind.i64 q1 (1048575 : Int))))) (IntKind.i64.wrap ((1 : Int) + bits BinOp.and IntKind.i64 q1 (1048575 : Int))) (IntKind.i64.wrap ((1 : Int) + bits BinOp.and IntKind.i64 n0 (549755813887 : Int))) (0 : Int)) (ref04OfC2 (IntKind.i64.wrap ((1 : Int) + (IntKind.i64.wrap (q0.tmod (IntKind.i64.wrap ((1 : Int) + bits BinOp.and IntKind.i64 q1 (1048575 : Int))) + IntKind.i64.wrap ((1 : Int) + bits BinOp.and IntKind.i64 q1 (1048575 : Int)))).tmod (IntKind.i64.wrap ((1 : Int) + bits BinOp.and IntKind.i64 q1 (1048575 : Int))))) (IntKind.i64.wrap ((1 : Int) + bits BinOp.and IntKind.i64 q1 (1048575 : Int))) (IntKind.i64.wrap ((1 : Int) + bits BinOp.and IntKind.i64 n0 (549755813887 : Int))) (0 : Int)) (ref04OfC3 (IntKind.i64.wrap ((1 : Int) + (IntKind.i64.wrap (q0.tmod (IntKind.i64.wrap ((1 : Int) + bits BinOp.and IntKind.i64 q1 (1048575 : Int))) + IntKind.i64.wrap ((1 : Int) + bits BinOp.and IntKind.i64 q1 (1048575 : Int)))).tmod (IntKind.i64.wrap ((1 : Int) + bits BinOp.and IntKind.i64 q1 (1048575 : Int))))) (IntKind.i64.wrap ((1 : Int) + bits BinOp.and IntKind.i64 q1 (1048575 : Int))) (IntKind.i64.wrap ((1 : Int) + bits BinOp.and IntKind.i64 n0 (549755813887 : Int))) (0 : Int)) (ref04OfC4 (IntKind.i64.wrap ((1 : Int) + (IntKind.i64.wrap (q0.tmod (IntKind.i64.wrap ((1 : Int) + bits BinOp.and IntKind.i64 q1 (1048575 : Int))) + IntKind.i64.wrap ((1 : Int) + bits BinOp.and IntKind.i64 q1 (1048575 : Int)))).tmod (IntKind.i64.wrap ((1 : Int) + bits BinOp.and IntKind.i64 q1 (1048575 : Int))))) (IntKind.i64.wrap ((1 : Int) + bits BinOp.and IntKind.i64 q1 (1048575 : Int))) (IntKind.i64.wrap ((1 : Int) + bits BinOp.and IntKind.i64 n0 (549755813887 : Int))) (0 : Int))) (Ent.mk (1 : Int) (ref04OfC0 (IntKind.i64.wrap ((1 : Int) + (IntKind.i64.wrap (q0.tmod (IntKind.i64.wrap ((1 : Int) + bits BinOp.and IntKind.i64 q1 (1048575 : Int))) + IntKind.i64.wrap ((1 : Int) + bits BinOp.and IntKind.i64 q1 (1048575 : Int)))).tmod (IntKind.i64.wrap ((1 : Int) + bits BinOp.and IntKind.i64 q1 (1048575 : Int))))) (IntKind.i64.wrap ((1 : Int) + bits BinOp.and IntKind.i64 q1 (1048575 : Int))) (IntKind.i64.wrap ((1 : Int) + bits BinOp.and IntKind.i64 n1 (549755813887 : Int))) (0 : Int)) (ref04OfC1 (IntKind.i64.wrap ((1 : Int) + (IntKind.i64.wrap (q0.tmod (IntKind.i64.wrap ((1 : Int) + bits BinOp.and IntKind.i64 q1 (1048575 : Int))) + IntKind.i64.wrap ((1 : Int) + bits BinOp.and IntKind.i64 q1 (1048575 : Int)))).tmod (IntKind.i64.wrap ((1 : Int) + bits BinOp.and IntKind.i64 q1 (1048575 : Int))))) (IntKind.i64.wrap ((1 : Int) + bits BinOp.and IntKind.i64 q1 (1048575 : Int))) (IntKind.i64.wrap ((1 : Int) + bits BinOp.and IntKind.i64 n1 (549755813887 : Int))) (0 : Int)) (ref04OfC2 (IntKind.i64.wrap ((1 : Int) + (IntKind.i64.wrap (q0.tmod (IntKind.i64.wrap ((1 : Int) + bits BinOp.and IntKind.i64 q1 (1048575 : Int))) + IntKind.i64.wrap ((1 : Int) + bits BinOp.and IntKind.i64 q1 (1048575 : Int)))).tmod (IntKind.i64.wrap ((1 : Int) + bits BinOp.and IntKind.i64 q1 (1048575 : Int))))) (IntKind.i64.wrap ((1 : Int) + bits BinOp.and IntKind.i64 q1 (1048575 : Int))) (IntKind.i64.wrap ((1 : Int) + bits BinOp.and IntKind.i64 n1 (549755813887 : Int))) (0 : Int)) (ref04OfC3 (IntKind.i64.wrap ((1 : Int) + (IntKind.i64.wrap (q0.tmod (IntKind.i64.wrap ((1 : Int) + bits BinOp.and IntKind.i64 q1 (1048575 : Int))) + IntKind.i64.wrap ((1 : Int) + bits BinOp.and IntKind.i64 q1 (1048575 : Int)))).tmod (IntKind.i64.wrap ((1 : Int) + bits BinOp.and IntKind.i64 q1 (1048575 : Int))))) (IntKind.i64.wrap ((1 : Int) + bits BinOp.and IntKind.i64 q1 (1048575 : Int))) (IntKind.i64.wrap ((1 : Int) + bits BinOp.and IntKind.i64 n1 (549755813887 : Int))) (0 : Int)) (ref04OfC4 (IntKind.i64.wrap ((1 : Int) + (IntKind.i64.wrap (q0.tmod (IntKind.i64.wrap ((1 : Int) + bits BinOp.and IntKind.i64 q1 (1048575 : Int))) + IntKind.i64.wrap ((1 : Int) + bits BinOp.and IntKind.i64 q1 (1048575 : Int)))).tmod (IntKind.i64.wrap ((1 : Int) + bits BinOp.and IntKind.i64 q1 (1048575 : Int))))) (IntKind.i64.wrap ((1 : Int) + bits BinOp.and IntKind.i64 q1 (1048575 : Int))) (IntKind.i64.wrap ((1 : Int) + bits BinOp.and IntKind.i64 n1 (549755813887 : Int))) (0 : Int))) == decide (IntKind.i64.wrap ((1 : Int) + bits BinOp.and IntKind.i64 n0 (549755813887 : Int)) < IntKind.i64.wrap ((1 : Int) + bits BinOp.and IntKind.i64 n1 (549755813887 : Int))))) ∧ True) ∧ True) | false => False) | false => False) | false => False) | false => False)
theorem prioWindowsVc (q0 q1 n0 n1 : Int) : fnX X22 (noAnn) Try.f4 [.agg [.raw (.int .i64 q0), .raw (.int .i64 q1)], .agg [.raw (.int .i64 n0), .raw (.int .i64 n1)]] [] (ends [] ⟨some (.raw (.bool true)), []⟩) = prioWindowsText q0 q1 n0 n1 := by kernel_rfl
theorem prioWindowsHolds (q0 q1 n0 n1 : Int) : prioWindowsText q0 q1 n0 n1 := by
  unfold prioWindowsText
  obtain ⟨p, hp⟩ : ∃ p, IntKind.i64.wrap (1 + bits BinOp.and IntKind.i64 q1 1048575) = p := ⟨_, rfl⟩
  have hp1 : 1 ≤ p ∧ p ≤ 1048576 := by rw [← hp, mask20, wrap_id (by omega) (by omega)]; omega
  rw [hp]
  obtain ⟨e, he⟩ : ∃ e, IntKind.i64.wrap (1 + (IntKind.i64.wrap (q0.tmod p + p)).tmod p) = e := ⟨_, rfl⟩
  have hw : Wt e p := by
    have h1 := Int.tmod_lt_of_pos q0 (b := p) (by omega)
    have h2 := Int.lt_tmod_of_pos q0 (b := p) (by omega)
    rw [wrap_id (n := q0.tmod p + p) (by omega) (by omega), tmod_pos (by omega)] at he
    have h3 := Int.emod_nonneg (q0.tmod p + p) (b := p) (by omega)
    have h4 := Int.emod_lt_of_pos (q0.tmod p + p) (b := p) (by omega)
    rw [wrap_id (by omega) (by omega)] at he
    refine ⟨by omega, by omega, by omega⟩
  rw [he]
  have num : ∀ n : Int, Num (IntKind.i64.wrap (1 + bits BinOp.and IntKind.i64 n 549755813887)) := by
    intro n
    rw [mask39, wrap_id (by omega) (by omega)]
    exact ⟨by omega, by omega⟩
  have hi := num n0
  have hk := num n1
  generalize IntKind.i64.wrap (1 + bits BinOp.and IntKind.i64 n0 549755813887) = i at hi ⊢
  generalize IntKind.i64.wrap (1 + bits BinOp.and IntKind.i64 n1 549755813887) = k at hk ⊢
  obtain ⟨a0, a1, a2, a3, a4, a5, _⟩ := of_of hw hi
  obtain ⟨b0, b1, b2, b3, b4, b5, _⟩ := of_of hw hk
  rw [show (p != 0) = true by rw [bne_iff_ne]; omega, a0, b0, a1, a2, a3, a4, a5, b1, b2, b3, b4, b5]
  have mono : ∀ a b, Num a → Num b → a < b → ref04Deadline e p a < ref04Deadline e p b := by
    intro a b ha hb hab
    obtain ⟨q1, _⟩ := deadline_of hw ha
    obtain ⟨_, q2⟩ := deadline_of hw hb
    obtain ⟨h1, h2, _⟩ := hw
    have m := Int.mul_le_mul_of_nonneg_right (show a + 1 ≤ b by omega) (show 0 ≤ p by omega)
    rw [Int.add_mul, Int.one_mul] at m
    exact Int.lt_of_mul_lt_mul_left (a := e) (by omega) (by omega)
  refine ⟨⟨Eq.symm (beq_iff_eq.2 ?_), trivial⟩, trivial⟩
  rcases Int.lt_trichotomy i k with h | h | h
  · rw [decide_eq_true h]
    exact (less_iff _ _).2 (.inl (mono i k hi hk h))
  · subst h
    rw [decide_eq_false (by omega)]
    exact less_false (lt6_irrefl _)
  · rw [decide_eq_false (by omega)]
    exact less_false (lt6_asymm (.inl (mono k i hk hi h)))
noncomputable def prioWindowsCon : Con T O := fun args cs => match args, cs with
  | [.agg [.raw (.int .i64 _), .raw (.int .i64 _)], .agg [.raw (.int .i64 _), .raw (.int .i64 _)]], [] => .ret ⟨some (.raw (.bool true)), []⟩
  | _, _ => .fail
theorem prioWindowsOk : ConOk R Try.prog 4 prioWindowsCon := con_of_fn R (X22) (TabOk.con R X22Ok) mixed Try.call4 Try.func4 prioWindowsCon (by
  intro args cs K h
  unfold prioWindowsCon at h
  split at h
  · rename_i q0 q1 n0 n1
    refine ⟨noAnn, _, fun v S hv => ⟨_, h, hv⟩, ?_⟩
    rw [prioWindowsVc q0 q1 n0 n1]
    exact prioWindowsHolds q0 q1 n0 n1
  · exact h.elim)
noncomputable def tab23 : Tab T O := (4, prioWindowsCon) :: tab22
theorem tabOk23 : TabOk R Try.prog tab23 := TabOk.cons R prioWindowsOk <| tabOk22
noncomputable def X23 : Ctx T O := { X0 with con := conOf tab23 }
theorem X23Ok : TabOk R X23.P tab23 := tabOk23
end Go.Proofs.Ytjhkokdcjikkiaa
