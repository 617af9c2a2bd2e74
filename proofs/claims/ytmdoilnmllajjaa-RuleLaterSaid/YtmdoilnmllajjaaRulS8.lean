/-
  Part of a proof over the seat Ytmdoilnmllajjaa: printed by a small program or typed by hand.
-/
import Derived.Test.YtmdoilnmllajjaaRulS7
import Derived.KernelRfl
namespace Go.Proofs.Ytmdoilnmllajjaa
open Go.Sx Go.Proofs Classical

theorem slOk_cut {k n : Nat} (h : k ≤ n) : slOk none (some (k : Int)) none (n : Int) = true := by simp [slOk, optB]; omega
theorem cmp_eq (a b : Int) : cmpL a b = if a < b then -1 else if b < a then 1 else 0 := by
  simp only [cmpL, nanL, bne_self_eq_false]
  by_cases h : a < b
  · rw [decide_eq_true h, if_pos h]
  · rw [decide_eq_false h, if_neg h]
    by_cases h2 : b < a
    · rw [show decide (a > b) = true from decide_eq_true h2, if_pos h2]
    · rw [show decide (a > b) = false from decide_eq_false h2, if_neg h2]
theorem lat_lt {b m : Ev} (h : ruleLatest1 b m < 0) : m.At ≤ b.At := by
  unfold ruleLatest1 at h
  rw [cmp_eq] at h
  refine Int.not_lt.1 fun hn => ?_
  rw [if_neg (by omega), if_pos hn] at h
  simp [orL] at h
theorem lat_ge {b m : Ev} (h : ¬ ruleLatest1 b m < 0) : b.At ≤ m.At := by
  refine Int.not_lt.1 fun hn => h ?_
  unfold ruleLatest1
  rw [cmp_eq, if_pos hn]
  simp [orL]
theorem latGo_spec : ∀ (l : List Ev) (m : Ev), (latGo m l = m ∨ latGo m l ∈ l) ∧ m.At ≤ (latGo m l).At ∧ ∀ a ∈ l, a.At ≤ (latGo m l).At
  | [], m => ⟨.inl rfl, Int.le_refl _, fun a h => (by cases h)⟩
  | b :: l, m => by
    simp only [latGo]
    by_cases h : ruleLatest1 b m < 0
    · rw [decide_eq_true h, cond_true]
      obtain ⟨h1, h2, h3⟩ := latGo_spec l b
      have := lat_lt h
      refine ⟨.inr ?_, by omega, fun a ha => ?_⟩
      · rcases h1 with h1 | h1
        · rw [h1]; simp
        · exact List.mem_cons_of_mem _ h1
      · rcases List.mem_cons.1 ha with rfl | ha
        · exact h2
        · exact h3 a ha
    · rw [decide_eq_false h, cond_false]
      obtain ⟨h1, h2, h3⟩ := latGo_spec l m
      have := lat_ge h
      refine ⟨?_, h2, fun a ha => ?_⟩
      · rcases h1 with h1 | h1
        · exact .inl h1
        · exact .inr (List.mem_cons_of_mem _ h1)
      · rcases List.mem_cons.1 ha with rfl | ha
        · omega
        · exact h3 a ha
theorem latE_spec {l : List Ev} (h : 0 < l.length) : latE l ∈ l ∧ ∀ a ∈ l, a.At ≤ (latE l).At := by
  cases l with
  | nil => simp at h
  | cons b l =>
    obtain ⟨h1, h2, h3⟩ := latGo_spec l b
    simp only [latE]
    refine ⟨?_, fun a ha => ?_⟩
    · rcases h1 with h1 | h1
      · rw [h1]; simp
      · exact List.mem_cons_of_mem _ h1
    · rcases List.mem_cons.1 ha with rfl | ha
      · exact h2
      · exact h3 a ha
def evEq (a b : Ev) : Bool := a.At == b.At && (a.ID == b.ID && (a.Kind == b.Kind && true))
theorem evEq_iff (a b : Ev) : evEq a b = true ↔ a = b := by
  cases a; cases b
  simp [evEq]
theorem evEq_refl (a : Ev) : evEq a a = true := (evEq_iff a a).2 rfl
def anyN (P : List Ev) (e : Ev) (n : Nat) : Bool := (P.take n).any (fun a => evEq a e)
theorem anyN_succ {P : List Ev} {e : Ev} {n : Nat} (h : n < P.length) : anyN P e (n + 1) = (anyN P e n || evEq (at' ez P (n : Int)) e) := by
  unfold anyN
  rw [at_nat h, List.take_add_one, List.any_append, List.getElem?_eq_getElem h]
  simp
theorem anyN_all {P : List Ev} {e : Ev} (h : e ∈ P) : anyN P e P.length = true := by
  unfold anyN
  rw [List.take_length]
  exact List.any_eq_true.2 ⟨e, h, evEq_refl e⟩
def foundB (P : List Ev) (n : Nat) : Bool := !(decide (0 < P.length)) || anyN P (latE P) n

theorem mask10 (n : Int) : bits .and .i64 n 1023 = n % 1024 := by simpa using mask_nat 10 (by omega) n
theorem mask20 (n : Int) : bits .and .i64 n 1048575 = n % 1048576 := by simpa using mask_nat 20 (by omega) n
theorem mask30 (n : Int) : bits .and .i64 n 1073741823 = n % 1073741824 := by simpa using mask_nat 30 (by omega) n
theorem mask39 (n : Int) : bits .and .i64 n 549755813887 = n % 549755813888 := by simpa using mask_nat 39 (by omega) n
theorem mask40 (n : Int) : bits .and .i64 n 1099511627775 = n % 1099511627776 := by simpa using mask_nat 40 (by omega) n

/-! ### a weight by numbers -/
theorem made_of (a b : Int) : law11MadePre a b = true ∧ Wt (law11MadeC0 a b) (law11MadeC1 a b) := by
  have w : IntKind.i64.wrap (1 + bits BinOp.and IntKind.i64 b 1048575) = 1 + b % 1048576 := by rw [mask20]; exact wrap_id (by omega) (by omega)
  have hn : (1 + b % 1048576 != 0) = true := by simp; omega
  unfold law11MadePre law11MadeC0 law11MadeC1
  simp only [w, hn]
  refine ⟨trivial, ?_⟩
  generalize hp : 1 + b % 1048576 = p
  have h1 := Int.tmod_lt_of_pos a (b := p) (by omega)
  have h2 := Int.lt_tmod_of_pos a (b := p) (by omega)
  rw [wrap_id (n := a.tmod p + p) (by omega) (by omega), tmod_pos (by omega)]
  have h3 := Int.emod_nonneg (a.tmod p + p) (b := p) (by omega)
  have h4 := Int.emod_lt_of_pos (a.tmod p + p) (b := p) (by omega)
  rw [wrap_id (by omega) (by omega)]
  refine ⟨by omega, by omega, by omega⟩

section
variable {e p i : Int} (h : Wt e p) (hi : Num i)
include h hi

theorem group_of : (p ≤ 2 * e ∧ ref04Deadline e p i ≤ ref04Group e p i ∧ ref04Group e p i ≤ ref04Release e p i + p) ∨ (2 * e < p ∧ ref04Group e p i = 0) := by
  obtain ⟨h1, h2, h3⟩ := id h
  unfold ref04Group
  by_cases hv : p ≤ 2 * e
  · rw [number_of h hi, heavy_of h, decide_eq_true hv, if_pos ⟨rfl, rfl⟩]
    refine .inl ⟨hv, ?_⟩
    by_cases hep : e = p
    · rw [if_pos hep]
      obtain ⟨q1, q2⟩ := deadline_of h hi
      obtain ⟨r1, r2⟩ := release_of h hi
      subst hep
      refine ⟨Int.le_refl _, ?_⟩
      have a1 : ref04Deadline e e i ≤ i := by
        refine Int.not_lt.1 fun hn => ?_
        have m1 := Int.mul_le_mul_of_nonneg_left (show i + 1 ≤ ref04Deadline e e i by omega) (show 0 ≤ e by omega)
        grind
      have a2 : i - 1 ≤ ref04Release e e i := by
        refine Int.not_lt.1 fun hn => ?_
        have m1 := Int.mul_le_mul_of_nonneg_left (show ref04Release e e i + 1 ≤ i - 1 by omega) (show 0 ≤ e by omega)
        grind
      omega
    · rw [if_neg hep]
      exact gend_of h hi hv (by omega) rfl rfl
  · rw [heavy_of h, decide_eq_false hv, if_neg (by simp)]
    exact .inr ⟨by omega, rfl⟩

theorem of_of : ref04OfPre e p i 0 = true ∧ ref04OfC0 e p i 0 = i ∧ ref04OfC1 e p i 0 = ref04Release e p i ∧ ref04OfC2 e p i 0 = ref04Deadline e p i ∧
    ref04OfC3 e p i 0 = ref04Bit e p i ∧ ref04OfC4 e p i 0 = ref04Group e p i ∧ ref04OfC5 e p i 0 = 0 := by
  obtain ⟨h1, h2, h3⟩ := id h
  obtain ⟨r1, r2⟩ := release_bound h hi
  obtain ⟨d1, d2⟩ := deadline_bound h hi
  have hg : 0 ≤ ref04Group e p i ∧ ref04Group e p i ≤ 1152921504607895552 := by
    rcases group_of h hi with ⟨_, a, b⟩ | ⟨_, a⟩
    · omega
    · omega
  unfold ref04OfPre ref04OfC0 ref04OfC1 ref04OfC2 ref04OfC3 ref04OfC4 ref04OfC5
  rw [number_of h hi, deadline_pre_of h hi, release_pre_of h hi, bit_pre_of h hi, wrap_id (n := 4611686018427387904 - 0) (by omega) (by omega), decide_eq_false (show ¬ ref04Deadline e p i > 4611686018427387904 - 0 by omega),
    decide_eq_false (show ¬ ref04Group e p i > 4611686018427387904 - 0 by omega), Int.add_zero, Int.add_zero, Int.add_zero, wrap_id (n := ref04Release e p i) (by omega) (by omega), wrap_id (n := ref04Deadline e p i) (by omega) (by omega), wrap_id (n := ref04Group e p i) (by omega) (by omega)]
  by_cases hp : ref04Group e p i > 0
  · rw [decide_eq_true hp]
    exact ⟨rfl, rfl, rfl, rfl, rfl, rfl, rfl⟩
  · rw [decide_eq_false hp]
    exact ⟨rfl, rfl, rfl, rfl, rfl, show 0 = ref04Group e p i by omega, rfl⟩

/-- from when on a share is free of a window -/
theorem ends_of : ∃ t, ruleEnds e p i (ref04Release e p i) (ref04Deadline e p i) (ref04Bit e p i) (ref04Group e p i) = t ∧ ref04Deadline e p i ≤ t ∧ t ≤ ref04Release e p i + p ∧ 1 ≤ t ∧ t ≤ 1152921504607895552 ∧
    (2 * e < p → t = ref04Deadline e p i + ref04Bit e p i) ∧ (p ≤ 2 * e → t = ref04Group e p i) := by
  obtain ⟨h1, h2, h3⟩ := id h
  obtain ⟨r1, r2⟩ := release_bound h hi
  obtain ⟨d1, d2⟩ := deadline_bound h hi
  obtain ⟨q1, q2⟩ := deadline_of h hi
  obtain ⟨s1, s2⟩ := release_of h hi
  unfold ruleEnds
  rw [wheavy_of h]
  rcases group_of h hi with ⟨hv, a, b⟩ | ⟨hv, a⟩
  · rw [decide_eq_true hv]
    refine ⟨ref04Group e p i, ?_, a, b, by omega, by omega, fun hl => by omega, fun _ => rfl⟩
    simp only
    split <;> omega
  · rw [decide_eq_false (by omega)]
    rcases bit_of h hi with ⟨b0, b1⟩ | ⟨b0, b1, b2⟩
    · rw [b0]
      refine ⟨ref04Deadline e p i, rfl, Int.le_refl _, Int.not_lt.1 fun hn => ?_, d1, d2, fun _ => by omega, fun _ => by omega⟩
      have m1 := Int.mul_le_mul_of_nonneg_left (show ref04Release e p i + p + 1 ≤ ref04Deadline e p i by omega) (show 0 ≤ e by omega)
      have m2 := Int.mul_le_mul_of_nonneg_right h1 (show 0 ≤ p by omega)
      grind
    · rw [b0]
      have hle : ref04Deadline e p i + 1 ≤ ref04Release e p i + p := by
        refine Int.not_lt.1 fun hn => ?_
        have m1 := Int.mul_le_mul_of_nonneg_left (show ref04Release e p i + p ≤ ref04Deadline e p i by omega) (show 0 ≤ e by omega)
        have m2 := Int.mul_nonneg (show 0 ≤ e - 1 by omega) (show 0 ≤ p - 3 by omega)
        grind
      refine ⟨ref04Deadline e p i + 1, ?_, by omega, hle, by omega, by omega, fun _ => by omega, fun _ => by omega⟩
      simp only
      rw [wrap_id (by omega) (by omega)]
      rfl
end

/-! ### the laws -/
theorem Num_of (n : Int) : ∃ i, IntKind.i64.wrap (1 + bits BinOp.and IntKind.i64 n 549755813887) = i ∧ Num i ∧ IntKind.i64.wrap (i + 1) = i + 1 ∧ Num (i + 1) := by
  refine ⟨1 + n % 549755813888, ?_, ⟨by omega, by omega⟩, ?_, ⟨by omega, by omega⟩⟩
  · rw [mask39]; exact wrap_id (by omega) (by omega)
  · exact wrap_id (by omega) (by omega)

/-! ### regatta/regattalaw11.RuleLater -/
def law11RuleLaterText (a b n0 n1 n2 : Int) (l : List Ev) : Prop := (match (law11MadePre a b) with | true => ((match (decide ((↑l.length : Int) > (12 : Int))) with | true => (match (slOk none (some (12 : Int)) none (↑l.length : Int)) with | true => (∃ x : List Ev, ((x.length.le (12 : Nat)) ∧ ((True ∧ (True ∧ (True ∧ ((law11Awake = law11Awake) ∧ (True ∧ True))))) ∧ ((l = l) ∧ (((a = a) ∧ ((b = b) ∧ True)) ∧ (((n0 = n0) ∧ ((n1 = n1) ∧ ((n2 = n2) ∧ True))) ∧ (((law11MadeC0 a b = law11MadeC0 a b) ∧ ((law11MadeC1 a b = law11MadeC1 a b) ∧ True)) ∧ ((x = cutL none (some (12 : Int)) l) ∧ True)))))))) | false => False) | false => (∃ x : List Ev, ((x.length.le (12 : Nat)) ∧ ((True ∧ (True ∧ (True ∧ ((law11Awake = law11Awake) ∧ (True ∧ True))))) ∧ ((l = l) ∧ (((a = a) ∧ ((b = b) ∧ True)) ∧ (((n0 = n0) ∧ ((n1 = n1) ∧ ((n2 = n2) ∧ True))) ∧ (((law11MadeC0 a b = law11MadeC0 a b) ∧ ((law11MadeC1 a b = law11MadeC1 a b) ∧ True)) ∧ ((x = l) ∧ True))))))))) ∧ (∀ x : List Ev, ((x.length.le (12 : Nat)) → (match (ref04OfPre (law11MadeC0 a b) (law11MadeC1 a b) (IntKind.i64.wrap ((1 : Int) + bits BinOp.and IntKind.i64 n0 (549755813887 : Int))) (0 : Int)) with | true => (match (decide (x.length ≤ (140737488355328 : Nat))) with | true => ((∃ x1 : Nat, ((x1.le x.length) ∧ ((True ∧ (True ∧ (True ∧ ((law11Awake = law11Awake) ∧ (True ∧ (True ∧ ((bits BinOp.and IntKind.i64 n1 (1099511627775 : Int) = bits BinOp.and IntKind.i64 n1 (1099511627775 : Int)) ∧ ((bits BinOp.and IntKind.i64 n2 (1099511627775 : Int) = bits BinOp.and IntKind.i64 n2 (1099511627775 : Int)) ∧ ((ruleTime (law11MadeC0 a b) (law11MadeC1 a b) (ref04OfC0 (law11MadeC0 a b) (law11MadeC1 a b) (IntKind.i64.wrap ((1 : Int) + bits BinOp.and IntKind.i64 n0 (549755813887 : Int))) (0 : Int)) (ref04OfC1 (law11MadeC0 a b) (law11MadeC1 a b) (IntKind.i64.wrap ((1 : Int) + bits BinOp.and IntKind.i64 n0 (549755813887 : Int))) (0 : Int)) (ref04OfC2 (law11MadeC0 a b) (law11MadeC1 a b) (IntKind.i64.wrap ((1 : Int) + bits BinOp.and IntKind.i64 n0 (549755813887 : Int))) (0 : Int)) (ref04OfC3 (law11MadeC0 a b) (law11MadeC1 a b) (IntKind.i64.wrap ((1 : Int) + bits BinOp.and IntKind.i64 n0 (549755813887 : Int))) (0 : Int)) (ref04OfC4 (law11MadeC0 a b) (law11MadeC1 a b) (IntKind.i64.wrap ((1 : Int) + bits BinOp.and IntKind.i64 n0 (549755813887 : Int))) (0 : Int)) true (bits BinOp.and IntKind.i64 n1 (1099511627775 : Int)) = ruleTime (law11MadeC0 a b) (law11MadeC1 a b) (ref04OfC0 (law11MadeC0 a b) (law11MadeC1 a b) (IntKind.i64.wrap ((1 : Int) + bits BinOp.and IntKind.i64 n0 (549755813887 : Int))) (0 : Int)) (ref04OfC1 (law11MadeC0 a b) (law11MadeC1 a b) (IntKind.i64.wrap ((1 : Int) + bits BinOp.and IntKind.i64 n0 (549755813887 : Int))) (0 : Int)) (ref04OfC2 (law11MadeC0 a b) (law11MadeC1 a b) (IntKind.i64.wrap ((1 : Int) + bits BinOp.and IntKind.i64 n0 (549755813887 : Int))) (0 : Int)) (ref04OfC3 (law11MadeC0 a b) (law11MadeC1 a b) (IntKind.i64.wrap ((1 : Int) + bits BinOp.and IntKind.i64 n0 (549755813887 : Int))) (0 : Int)) (ref04OfC4 (law11MadeC0 a b) (law11MadeC1 a b) (IntKind.i64.wrap ((1 : Int) + bits BinOp.and IntKind.i64 n0 (549755813887 : Int))) (0 : Int)) true (bits BinOp.and IntKind.i64 n1 (1099511627775 : Int))) ∧ ((ruleTime (law11MadeC0 a b) (law11MadeC1 a b) (ref04OfC0 (law11MadeC0 a b) (law11MadeC1 a b) (IntKind.i64.wrap ((1 : Int) + bits BinOp.and IntKind.i64 n0 (549755813887 : Int))) (0 : Int)) (ref04OfC1 (law11MadeC0 a b) (law11MadeC1 a b) (IntKind.i64.wrap ((1 : Int) + bits BinOp.and IntKind.i64 n0 (549755813887 : Int))) (0 : Int)) (ref04OfC2 (law11MadeC0 a b) (law11MadeC1 a b) (IntKind.i64.wrap ((1 : Int) + bits BinOp.and IntKind.i64 n0 (549755813887 : Int))) (0 : Int)) (ref04OfC3 (law11MadeC0 a b) (law11MadeC1 a b) (IntKind.i64.wrap ((1 : Int) + bits BinOp.and IntKind.i64 n0 (549755813887 : Int))) (0 : Int)) (ref04OfC4 (law11MadeC0 a b) (law11MadeC1 a b) (IntKind.i64.wrap ((1 : Int) + bits BinOp.and IntKind.i64 n0 (549755813887 : Int))) (0 : Int)) true (bits BinOp.and IntKind.i64 n2 (1099511627775 : Int)) = ruleTime (law11MadeC0 a b) (law11MadeC1 a b) (ref04OfC0 (law11MadeC0 a b) (law11MadeC1 a b) (IntKind.i64.wrap ((1 : Int) + bits BinOp.and IntKind.i64 n0 (549755813887 : Int))) (0 : Int)) (ref04OfC1 (law11MadeC0 a b) (law11MadeC1 a b) (IntKind.i64.wrap ((1 : Int) + bits BinOp.and IntKind.i64 n0 (549755813887 : Int))) (0 : Int)) (ref04OfC2 (law11MadeC0 a b) (law11MadeC1 a b) (IntKind.i64.wrap ((1 : Int) + bits BinOp.and IntKind.i64 n0 (549755813887 : Int))) (0 : Int)) (ref04OfC3 (law11MadeC0 a b) (law11MadeC1 a b) (IntKind.i64.wrap ((1 : Int) + bits BinOp.and IntKind.i64 n0 (549755813887 : Int))) (0 : Int)) (ref04OfC4 (law11MadeC0 a b) (law11MadeC1 a b) (IntKind.i64.wrap ((1 : Int) + bits BinOp.and IntKind.i64 n0 (549755813887 : Int))) (0 : Int)) true (bits BinOp.and IntKind.i64 n2 (1099511627775 : Int))) ∧ (True ∧ ((decide ((0 : Nat) < x.length) = decide ((0 : Nat) < x.length)) ∧ ((foundB x x1 = !decide ((0 : Nat) < x.length)) ∧ (((↑x1 : Int) = (0 : Int)) ∧ True)))))))))))))) ∧ ((l = l) ∧ (((a = a) ∧ ((b = b) ∧ True)) ∧ (((n0 = n0) ∧ ((n1 = n1) ∧ ((n2 = n2) ∧ True))) ∧ (((law11MadeC0 a b = law11MadeC0 a b) ∧ ((law11MadeC1 a b = law11MadeC1 a b) ∧ True)) ∧ ((x = x) ∧ (((ref04OfC0 (law11MadeC0 a b) (law11MadeC1 a b) (IntKind.i64.wrap ((1 : Int) + bits BinOp.and IntKind.i64 n0 (549755813887 : Int))) (0 : Int) = ref04OfC0 (law11MadeC0 a b) (law11MadeC1 a b) (IntKind.i64.wrap ((1 : Int) + bits BinOp.and IntKind.i64 n0 (549755813887 : Int))) (0 : Int)) ∧ ((ref04OfC1 (law11MadeC0 a b) (law11MadeC1 a b) (IntKind.i64.wrap ((1 : Int) + bits BinOp.and IntKind.i64 n0 (549755813887 : Int))) (0 : Int) = ref04OfC1 (law11MadeC0 a b) (law11MadeC1 a b) (IntKind.i64.wrap ((1 : Int) + bits BinOp.and IntKind.i64 n0 (549755813887 : Int))) (0 : Int)) ∧ ((ref04OfC2 (law11MadeC0 a b) (law11MadeC1 a b) (IntKind.i64.wrap ((1 : Int) + bits BinOp.and IntKind.i64 n0 (549755813887 : Int))) (0 : Int) = ref04OfC2 (law11MadeC0 a b) (law11MadeC1 a b) (IntKind.i64.wrap ((1 : Int) + bits BinOp.and IntKind.i64 n0 (549755813887 : Int))) (0 : Int)) ∧ ((ref04OfC3 (law11MadeC0 a b) (law11MadeC1 a b) (IntKind.i64.wrap ((1 : Int) + bits BinOp.and IntKind.i64 n0 (549755813887 : Int))) (0 : Int) = ref04OfC3 (law11MadeC0 a b) (law11MadeC1 a b) (IntKind.i64.wrap ((1 : Int) + bits BinOp.and IntKind.i64 n0 (549755813887 : Int))) (0 : Int)) ∧ ((ref04OfC4 (law11MadeC0 a b) (law11MadeC1 a b) (IntKind.i64.wrap ((1 : Int) + bits BinOp.and IntKind.i64 n0 (549755813887 : Int))) (0 : Int) = ref04OfC4 (law11MadeC0 a b) (law11MadeC1 a b) (IntKind.i64.wrap ((1 : Int) + bits BinOp.and IntKind.i64 n0 (549755813887 : Int))) (0 : Int)) ∧ True))))) ∧ ((((latE x).At = (latE x).At) ∧ (((latE x).ID = (latE x).ID) ∧ (((latE x).Kind = (latE x).Kind) ∧ True))) ∧ True)))))))))) ∧ (∀ x1 : Nat, ((x1.le x.length) → (match (decide ((↑x1 : Int) < (↑x.length : Int))) with | true => (match (inb (↑x1 : Int) x.length) with | true => (match (inb (↑x1 : Int) x.length) with | true => (match (decide ((at' evE.zero x (↑x1 : Int)).At > (latE x).At)) with | true => (((true = false) ∧ True) ∧ ((l = l) ∧ True)) | false => (match (foundB x x1) with | true => (∃ x' : Nat, ((x'.le x.length) ∧ (((20 : Nat) - x' < (20 : Nat) - x1) ∧ ((True ∧ (True ∧ (True ∧ ((law11Awake = law11Awake) ∧ (True ∧ (True ∧ ((bits BinOp.and IntKind.i64 n1 (1099511627775 : Int) = bits BinOp.and IntKind.i64 n1 (1099511627775 : Int)) ∧ ((bits BinOp.and IntKind.i64 n2 (1099511627775 : Int) = bits BinOp.and IntKind.i64 n2 (1099511627775 : Int)) ∧ ((ruleTime (law11MadeC0 a b) (law11MadeC1 a b) (ref04OfC0 (law11MadeC0 a b) (law11MadeC1 a b) (IntKind.i64.wrap ((1 : Int) + bits BinOp.and IntKind.i64 n0 (549755813887 : Int))) (0 : Int)) (ref04OfC1 (law11MadeC0 a b) (law11MadeC1 a b) (IntKind.i64.wrap ((1 : Int) + bits BinOp.and IntKind.i64 n0 (549755813887 : Int))) (0 : Int)) (ref04OfC2 (law11MadeC0 a b) (law11MadeC1 a b) (IntKind.i64.wrap ((1 : Int) + bits BinOp.and IntKind.i64 n0 (549755813887 : Int))) (0 : Int)) (ref04OfC3 (law11MadeC0 a b) (law11MadeC1 a b) (IntKind.i64.wrap ((1 : Int) + bits BinOp.and IntKind.i64 n0 (549755813887 : Int))) (0 : Int)) (ref04OfC4 (law11MadeC0 a b) (law11MadeC1 a b) (IntKind.i64.wrap ((1 : Int) + bits BinOp.and IntKind.i64 n0 (549755813887 : Int))) (0 : Int)) true (bits BinOp.and IntKind.i64 n1 (1099511627775 : Int)) = ruleTime (law11MadeC0 a b) (law11MadeC1 a b) (ref04OfC0 (law11MadeC0 a b) (law11MadeC1 a b) (IntKind.i64.wrap ((1 : Int) + bits BinOp.and IntKind.i64 n0 (549755813887 : Int))) (0 : Int)) (ref04OfC1 (law11MadeC0 a b) (law11MadeC1 a b) (IntKind.i64.wrap ((1 : Int) + bits BinOp.and IntKind.i64 n0 (549755813887 : Int))) (0 : Int)) (ref04OfC2 (law11MadeC0 a b) (law11MadeC1 a b) (IntKind.i64.wrap ((1 : Int) + bits BinOp.and IntKind.i64 n0 (549755813887 : Int))) (0 : Int)) (ref04OfC3 (law11MadeC0 a b) (law11MadeC1 a b) (IntKind.i64.wrap ((1 : Int) + bits BinOp.and IntKind.i64 n0 (549755813887 : Int))) (0 : Int)) (ref04OfC4 (law11MadeC0 a b) (law11MadeC1 a b) (IntKind.i64.wrap ((1 : Int) + bits BinOp.and IntKind.i64 n0 (549755813887 : Int))) (0 : Int)) true (bits BinOp.and IntKind.i64 n1 (1099511627775 : Int))) ∧ ((ruleTime (law11MadeC0 a b) (law11MadeC1 a b) (ref04OfC0 (law11MadeC0 a b) (law11MadeC1 a b) (IntKind.i64.wrap ((1 : Int) + bits BinOp.and IntKind.i64 n0 (549755813887 : Int))) (0 : Int)) (ref04OfC1 (law11MadeC0 a b) (law11MadeC1 a b) (IntKind.i64.wrap ((1 : Int) + bits BinOp.and IntKind.i64 n0 (549755813887 : Int))) (0 : Int)) (ref04OfC2 (law11MadeC0 a b) (law11MadeC1 a b) (IntKind.i64.wrap ((1 : Int) + bits BinOp.and IntKind.i64 n0 (549755813887 : Int))) (0 : Int)) (ref04OfC3 (law11MadeC0 a b) (law11MadeC1 a b) (IntKind.i64.wrap ((1 : Int) + bits BinOp.and IntKind.i64 n0 (549755813887 : Int))) (0 : Int)) (ref04OfC4 (law11MadeC0 a b) (law11MadeC1 a b) (IntKind.i64.wrap ((1 : Int) + bits BinOp.and IntKind.i64 n0 (549755813887 : Int))) (0 : Int)) true (bits BinOp.and IntKind.i64 n2 (1099511627775 : Int)) = ruleTime (law11MadeC0 a b) (law11MadeC1 a b) (ref04OfC0 (law11MadeC0 a b) (law11MadeC1 a b) (IntKind.i64.wrap ((1 : Int) + bits BinOp.and IntKind.i64 n0 (549755813887 : Int))) (0 : Int)) (ref04OfC1 (law11MadeC0 a b) (law11MadeC1 a b) (IntKind.i64.wrap ((1 : Int) + bits BinOp.and IntKind.i64 n0 (549755813887 : Int))) (0 : Int)) (ref04OfC2 (law11MadeC0 a b) (law11MadeC1 a b) (IntKind.i64.wrap ((1 : Int) + bits BinOp.and IntKind.i64 n0 (549755813887 : Int))) (0 : Int)) (ref04OfC3 (law11MadeC0 a b) (law11MadeC1 a b) (IntKind.i64.wrap ((1 : Int) + bits BinOp.and IntKind.i64 n0 (549755813887 : Int))) (0 : Int)) (ref04OfC4 (law11MadeC0 a b) (law11MadeC1 a b) (IntKind.i64.wrap ((1 : Int) + bits BinOp.and IntKind.i64 n0 (549755813887 : Int))) (0 : Int)) true (bits BinOp.and IntKind.i64 n2 (1099511627775 : Int))) ∧ (True ∧ ((decide ((0 : Nat) < x.length) = decide ((0 : Nat) < x.length)) ∧ ((foundB x x' = true) ∧ (((↑x' : Int) = IntKind.i64.wrap ((↑x1 : Int) + (1 : Int))) ∧ True)))))))))))))) ∧ ((l = l) ∧ (((a = a) ∧ ((b = b) ∧ True)) ∧ (((n0 = n0) ∧ ((n1 = n1) ∧ ((n2 = n2) ∧ True))) ∧ (((law11MadeC0 a b = law11MadeC0 a b) ∧ ((law11MadeC1 a b = law11MadeC1 a b) ∧ True)) ∧ ((x = x) ∧ (((ref04OfC0 (law11MadeC0 a b) (law11MadeC1 a b) (IntKind.i64.wrap ((1 : Int) + bits BinOp.and IntKind.i64 n0 (549755813887 : Int))) (0 : Int) = ref04OfC0 (law11MadeC0 a b) (law11MadeC1 a b) (IntKind.i64.wrap ((1 : Int) + bits BinOp.and IntKind.i64 n0 (549755813887 : Int))) (0 : Int)) ∧ ((ref04OfC1 (law11MadeC0 a b) (law11MadeC1 a b) (IntKind.i64.wrap ((1 : Int) + bits BinOp.and IntKind.i64 n0 (549755813887 : Int))) (0 : Int) = ref04OfC1 (law11MadeC0 a b) (law11MadeC1 a b) (IntKind.i64.wrap ((1 : Int) + bits BinOp.and IntKind.i64 n0 (549755813887 : Int))) (0 : Int)) ∧ ((ref04OfC2 (law11MadeC0 a b) (law11MadeC1 a b) (IntKind.i64.wrap ((1 : Int) + bits BinOp.and IntKind.i64 n0 (549755813887 : Int))) (0 : Int) = ref04OfC2 (law11MadeC0 a b) (law11MadeC1 a b) (IntKind.i64.wrap ((1 : Int) + bits BinOp.and IntKind.i64 n0 (549755813887 : Int))) (0 : Int)) ∧ ((ref04OfC3 (law11MadeC0 a b) (law11MadeC1 a b) (IntKind.i64.wrap ((1 : Int) + bits BinOp.and IntKind.i64 n0 (549755813887 : Int))) (0 : Int) = ref04OfC3 (law11MadeC0 a b) (law11MadeC1 a b) (IntKind.i64.wrap ((1 : Int) + bits BinOp.and IntKind.i64 n0 (549755813887 : Int))) (0 : Int)) ∧ ((ref04OfC4 (law11MadeC0 a b) (law11MadeC1 a b) (IntKind.i64.wrap ((1 : Int) + bits BinOp.and IntKind.i64 n0 (549755813887 : Int))) (0 : Int) = ref04OfC4 (law11MadeC0 a b) (law11MadeC1 a b) (IntKind.i64.wrap ((1 : Int) + bits BinOp.and IntKind.i64 n0 (549755813887 : Int))) (0 : Int)) ∧ True))))) ∧ ((((latE x).At = (latE x).At) ∧ (((latE x).ID = (latE x).ID) ∧ (((latE x).Kind = (latE x).Kind) ∧ True))) ∧ True))))))))))) | false => (match (inb (↑x1 : Int) x.length) with | true => (match (inb (↑x1 : Int) x.length) with | true => (∃ x' : Nat, ((x'.le x.length) ∧ (((20 : Nat) - x' < (20 : Nat) - x1) ∧ ((True ∧ (True ∧ (True ∧ ((law11Awake = law11Awake) ∧ (True ∧ (True ∧ ((bits BinOp.and IntKind.i64 n1 (1099511627775 : Int) = bits BinOp.and IntKind.i64 n1 (1099511627775 : Int)) ∧ ((bits BinOp.and IntKind.i64 n2 (1099511627775 : Int) = bits BinOp.and IntKind.i64 n2 (1099511627775 : Int)) ∧ ((ruleTime (law11MadeC0 a b) (law11MadeC1 a b) (ref04OfC0 (law11MadeC0 a b) (law11MadeC1 a b) (IntKind.i64.wrap ((1 : Int) + bits BinOp.and IntKind.i64 n0 (549755813887 : Int))) (0 : Int)) (ref04OfC1 (law11MadeC0 a b) (law11MadeC1 a b) (IntKind.i64.wrap ((1 : Int) + bits BinOp.and IntKind.i64 n0 (549755813887 : Int))) (0 : Int)) (ref04OfC2 (law11MadeC0 a b) (law11MadeC1 a b) (IntKind.i64.wrap ((1 : Int) + bits BinOp.and IntKind.i64 n0 (549755813887 : Int))) (0 : Int)) (ref04OfC3 (law11MadeC0 a b) (law11MadeC1 a b) (IntKind.i64.wrap ((1 : Int) + bits BinOp.and IntKind.i64 n0 (549755813887 : Int))) (0 : Int)) (ref04OfC4 (law11MadeC0 a b) (law11MadeC1 a b) (IntKind.i64.wrap ((1 : Int) + bits BinOp.and IntKind.i64 n0 (549755813887 : Int))) (0 : Int)) true (bits BinOp.and IntKind.i64 n1 (1099511627775 : Int)) = ruleTime (law11MadeC0 a b) (law11MadeC1 a b) (ref04OfC0 (law11MadeC0 a b) (law11MadeC1 a b) (IntKind.i64.wrap ((1 : Int) + bits BinOp.and IntKind.i64 n0 (549755813887 : Int))) (0 : Int)) (ref04OfC1 (law11MadeC0 a b) (law11MadeC1 a b) (IntKind.i64.wrap ((1 : Int) + bits BinOp.and IntKind.i64 n0 (549755813887 : Int))) (0 : Int)) (ref04OfC2 (law11MadeC0 a b) (law11MadeC1 a b) (IntKind.i64.wrap ((1 : Int) + bits BinOp.and IntKind.i64 n0 (549755813887 : Int))) (0 : Int)) (ref04OfC3 (law11MadeC0 a b) (law11MadeC1 a b) (IntKind.i64.wrap ((1 : Int) + bits BinOp.and IntKind.i64 n0 (549755813887 : Int))) (0 : Int)) (ref04OfC4 (law11MadeC0 a b) (law11MadeC1 a b) (IntKind.i64.wrap ((1 : Int) + bits BinOp.and IntKind.i64 n0 (549755813887 : Int))) (0 : Int)) true (bits BinOp.and IntKind.i64 n1 (1099511627775 : Int))) ∧ ((ruleTime (law11MadeC0 a b) (law11MadeC1 a b) (ref04OfC0 (law11MadeC0 a b) (law11MadeC1 a b) (IntKind.i64.wrap ((1 : Int) + bits BinOp.and IntKind.i64 n0 (549755813887 : Int))) (0 : Int)) (ref04OfC1 (law11MadeC0 a b) (law11MadeC1 a b) (IntKind.i64.wrap ((1 : Int) + bits BinOp.and IntKind.i64 n0 (549755813887 : Int))) (0 : Int)) (ref04OfC2 (law11MadeC0 a b) (law11MadeC1 a b) (IntKind.i64.wrap ((1 : Int) + bits BinOp.and IntKind.i64 n0 (549755813887 : Int))) (0 : Int)) (ref04OfC3 (law11MadeC0 a b) (law11MadeC1 a b) (IntKind.i64.wrap ((1 : Int) + bits BinOp.and IntKind.i64 n0 (549755813887 : Int))) (0 : Int)) (ref04OfC4 (law11MadeC0 a b) (law11MadeC1 a b) (IntKind.i64.wrap ((1 : Int) + bits BinOp.and IntKind.i64 n0 (549755813887 : Int))) (0 : Int)) true (bits BinOp.and IntKind.i64 n2 (1099511627775 : Int)) = ruleTime (law11MadeC0 a b) (law11MadeC1 a b) (ref04OfC0 (law11MadeC0 a b) (law11MadeC1 a b) (IntKind.i64.wrap ((1 : Int) + bits BinOp.and IntKind.i64 n0 (549755813887 : Int))) (0 : Int)) (ref04OfC1 (law11MadeC0 a b) (law11MadeC1 a b) (IntKind.i64.wrap ((1 : Int) + bits BinOp.and IntKind.i64 n0 (549755813887 : Int))) (0 : Int)) (ref04OfC2 (law11MadeC0 a b) (law11MadeC1 a b) (IntKind.i64.wrap ((1 : Int) + bits BinOp.and IntKind.i64 n0 (549755813887 : Int))) (0 : Int)) (ref04OfC3 (law11MadeC0 a b) (law11MadeC1 a b) (IntKind.i64.wrap ((1 : Int) + bits BinOp.and IntKind.i64 n0 (549755813887 : Int))) (0 : Int)) (ref04OfC4 (law11MadeC0 a b) (law11MadeC1 a b) (IntKind.i64.wrap ((1 : Int) + bits BinOp.and IntKind.i64 n0 (549755813887 : Int))) (0 : Int)) true (bits BinOp.and IntKind.i64 n2 (1099511627775 : Int))) ∧ (True ∧ ((decide ((0 : Nat) < x.length) = decide ((0 : Nat) < x.length)) ∧ ((foundB x x' = ((at' evE.zero x (↑x1 : Int)).At == (latE x).At && ((at' evE.zero x (↑x1 : Int)).ID == (latE x).ID && ((at' evE.zero x (↑x1 : Int)).Kind == (latE x).Kind && true)))) ∧ (((↑x' : Int) = IntKind.i64.wrap ((↑x1 : Int) + (1 : Int))) ∧ True)))))))))))))) ∧ ((l = l) ∧ (((a = a) ∧ ((b = b) ∧ True)) ∧ (((n0 = n0) ∧ ((n1 = n1) ∧ ((n2 = n2) ∧ True))) ∧ (((law11MadeC0 a b = law11MadeC0 a b) ∧ ((law11MadeC1 a b = law11MadeC1 a b) ∧ True)) ∧ ((x = x) ∧ (((ref04OfC0 (law11MadeC0 a b) (law11MadeC1 a b) (IntKind.i64.wrap ((1 : Int) + bits BinOp.and IntKind.i64 n0 (549755813887 : Int))) (0 : Int) = ref04OfC0 (law11MadeC0 a b) (law11MadeC1 a b) (IntKind.i64.wrap ((1 : Int) + bits BinOp.and IntKind.i64 n0 (549755813887 : Int))) (0 : Int)) ∧ ((ref04OfC1 (law11MadeC0 a b) (law11MadeC1 a b) (IntKind.i64.wrap ((1 : Int) + bits BinOp.and IntKind.i64 n0 (549755813887 : Int))) (0 : Int) = ref04OfC1 (law11MadeC0 a b) (law11MadeC1 a b) (IntKind.i64.wrap ((1 : Int) + bits BinOp.and IntKind.i64 n0 (549755813887 : Int))) (0 : Int)) ∧ ((ref04OfC2 (law11MadeC0 a b) (law11MadeC1 a b) (IntKind.i64.wrap ((1 : Int) + bits BinOp.and IntKind.i64 n0 (549755813887 : Int))) (0 : Int) = ref04OfC2 (law11MadeC0 a b) (law11MadeC1 a b) (IntKind.i64.wrap ((1 : Int) + bits BinOp.and IntKind.i64 n0 (549755813887 : Int))) (0 : Int)) ∧ ((ref04OfC3 (law11MadeC0 a b) (law11MadeC1 a b) (IntKind.i64.wrap ((1 : Int) + bits BinOp.and IntKind.i64 n0 (549755813887 : Int))) (0 : Int) = ref04OfC3 (law11MadeC0 a b) (law11MadeC1 a b) (IntKind.i64.wrap ((1 : Int) + bits BinOp.and IntKind.i64 n0 (549755813887 : Int))) (0 : Int)) ∧ ((ref04OfC4 (law11MadeC0 a b) (law11MadeC1 a b) (IntKind.i64.wrap ((1 : Int) + bits BinOp.and IntKind.i64 n0 (549755813887 : Int))) (0 : Int) = ref04OfC4 (law11MadeC0 a b) (law11MadeC1 a b) (IntKind.i64.wrap ((1 : Int) + bits BinOp.and IntKind.i64 n0 (549755813887 : Int))) (0 : Int)) ∧ True))))) ∧ ((((latE x).At = (latE x).At) ∧ (((latE x).ID = (latE x).ID) ∧ (((latE x).Kind = (latE x).Kind) ∧ True))) ∧ True))))))))))) | false => False) | false => False))) | false => False) | false => False) | false => (match (decide (bits BinOp.and IntKind.i64 n1 (1099511627775 : Int) > bits BinOp.and IntKind.i64 n2 (1099511627775 : Int))) with | true => (match (decide ((0 : Nat) < x.length) == decide ((↑x.length : Int) > (0 : Int))) with | true => (match (foundB x x1) with | true => (((true = (ruleTime (law11MadeC0 a b) (law11MadeC1 a b) (ref04OfC0 (law11MadeC0 a b) (law11MadeC1 a b) (IntKind.i64.wrap ((1 : Int) + bits BinOp.and IntKind.i64 n0 (549755813887 : Int))) (0 : Int)) (ref04OfC1 (law11MadeC0 a b) (law11MadeC1 a b) (IntKind.i64.wrap ((1 : Int) + bits BinOp.and IntKind.i64 n0 (549755813887 : Int))) (0 : Int)) (ref04OfC2 (law11MadeC0 a b) (law11MadeC1 a b) (IntKind.i64.wrap ((1 : Int) + bits BinOp.and IntKind.i64 n0 (549755813887 : Int))) (0 : Int)) (ref04OfC3 (law11MadeC0 a b) (law11MadeC1 a b) (IntKind.i64.wrap ((1 : Int) + bits BinOp.and IntKind.i64 n0 (549755813887 : Int))) (0 : Int)) (ref04OfC4 (law11MadeC0 a b) (law11MadeC1 a b) (IntKind.i64.wrap ((1 : Int) + bits BinOp.and IntKind.i64 n0 (549755813887 : Int))) (0 : Int)) true (ruleTime (law11MadeC0 a b) (law11MadeC1 a b) (ref04OfC0 (law11MadeC0 a b) (law11MadeC1 a b) (IntKind.i64.wrap ((1 : Int) + bits BinOp.and IntKind.i64 n0 (549755813887 : Int))) (0 : Int)) (ref04OfC1 (law11MadeC0 a b) (law11MadeC1 a b) (IntKind.i64.wrap ((1 : Int) + bits BinOp.and IntKind.i64 n0 (549755813887 : Int))) (0 : Int)) (ref04OfC2 (law11MadeC0 a b) (law11MadeC1 a b) (IntKind.i64.wrap ((1 : Int) + bits BinOp.and IntKind.i64 n0 (549755813887 : Int))) (0 : Int)) (ref04OfC3 (law11MadeC0 a b) (law11MadeC1 a b) (IntKind.i64.wrap ((1 : Int) + bits BinOp.and IntKind.i64 n0 (549755813887 : Int))) (0 : Int)) (ref04OfC4 (law11MadeC0 a b) (law11MadeC1 a b) (IntKind.i64.wrap ((1 : Int) + bits BinOp.and IntKind.i64 n0 (549755813887 : Int))) (0 : Int)) true (bits BinOp.and IntKind.i64 n1 (1099511627775 : Int))) == ruleTime (law11MadeC0 a b) (law11MadeC1 a b) (ref04OfC0 (law11MadeC0 a b) (law11MadeC1 a b) (IntKind.i64.wrap ((1 : Int) + bits BinOp.and IntKind.i64 n0 (549755813887 : Int))) (0 : Int)) (ref04OfC1 (law11MadeC0 a b) (law11MadeC1 a b) (IntKind.i64.wrap ((1 : Int) + bits BinOp.and IntKind.i64 n0 (549755813887 : Int))) (0 : Int)) (ref04OfC2 (law11MadeC0 a b) (law11MadeC1 a b) (IntKind.i64.wrap ((1 : Int) + bits BinOp.and IntKind.i64 n0 (549755813887 : Int))) (0 : Int)) (ref04OfC3 (law11MadeC0 a b) (law11MadeC1 a b) (IntKind.i64.wrap ((1 : Int) + bits BinOp.and IntKind.i64 n0 (549755813887 : Int))) (0 : Int)) (ref04OfC4 (law11MadeC0 a b) (law11MadeC1 a b) (IntKind.i64.wrap ((1 : Int) + bits BinOp.and IntKind.i64 n0 (549755813887 : Int))) (0 : Int)) true (bits BinOp.and IntKind.i64 n1 (1099511627775 : Int)))) ∧ True) ∧ ((l = l) ∧ True)) | false => (((true = false) ∧ True) ∧ ((l = l) ∧ True))) | false => (((true = false) ∧ True) ∧ ((l = l) ∧ True))) | false => (match (decide (ruleTime (law11MadeC0 a b) (law11MadeC1 a b) (ref04OfC0 (law11MadeC0 a b) (law11MadeC1 a b) (IntKind.i64.wrap ((1 : Int) + bits BinOp.and IntKind.i64 n0 (549755813887 : Int))) (0 : Int)) (ref04OfC1 (law11MadeC0 a b) (law11MadeC1 a b) (IntKind.i64.wrap ((1 : Int) + bits BinOp.and IntKind.i64 n0 (549755813887 : Int))) (0 : Int)) (ref04OfC2 (law11MadeC0 a b) (law11MadeC1 a b) (IntKind.i64.wrap ((1 : Int) + bits BinOp.and IntKind.i64 n0 (549755813887 : Int))) (0 : Int)) (ref04OfC3 (law11MadeC0 a b) (law11MadeC1 a b) (IntKind.i64.wrap ((1 : Int) + bits BinOp.and IntKind.i64 n0 (549755813887 : Int))) (0 : Int)) (ref04OfC4 (law11MadeC0 a b) (law11MadeC1 a b) (IntKind.i64.wrap ((1 : Int) + bits BinOp.and IntKind.i64 n0 (549755813887 : Int))) (0 : Int)) true (bits BinOp.and IntKind.i64 n1 (1099511627775 : Int)) ≤ ruleTime (law11MadeC0 a b) (law11MadeC1 a b) (ref04OfC0 (law11MadeC0 a b) (law11MadeC1 a b) (IntKind.i64.wrap ((1 : Int) + bits BinOp.and IntKind.i64 n0 (549755813887 : Int))) (0 : Int)) (ref04OfC1 (law11MadeC0 a b) (law11MadeC1 a b) (IntKind.i64.wrap ((1 : Int) + bits BinOp.and IntKind.i64 n0 (549755813887 : Int))) (0 : Int)) (ref04OfC2 (law11MadeC0 a b) (law11MadeC1 a b) (IntKind.i64.wrap ((1 : Int) + bits BinOp.and IntKind.i64 n0 (549755813887 : Int))) (0 : Int)) (ref04OfC3 (law11MadeC0 a b) (law11MadeC1 a b) (IntKind.i64.wrap ((1 : Int) + bits BinOp.and IntKind.i64 n0 (549755813887 : Int))) (0 : Int)) (ref04OfC4 (law11MadeC0 a b) (law11MadeC1 a b) (IntKind.i64.wrap ((1 : Int) + bits BinOp.and IntKind.i64 n0 (549755813887 : Int))) (0 : Int)) true (bits BinOp.and IntKind.i64 n2 (1099511627775 : Int)))) with | true => (match (decide ((0 : Nat) < x.length) == decide ((↑x.length : Int) > (0 : Int))) with | true => (match (foundB x x1) with | true => (((true = (ruleTime (law11MadeC0 a b) (law11MadeC1 a b) (ref04OfC0 (law11MadeC0 a b) (law11MadeC1 a b) (IntKind.i64.wrap ((1 : Int) + bits BinOp.and IntKind.i64 n0 (549755813887 : Int))) (0 : Int)) (ref04OfC1 (law11MadeC0 a b) (law11MadeC1 a b) (IntKind.i64.wrap ((1 : Int) + bits BinOp.and IntKind.i64 n0 (549755813887 : Int))) (0 : Int)) (ref04OfC2 (law11MadeC0 a b) (law11MadeC1 a b) (IntKind.i64.wrap ((1 : Int) + bits BinOp.and IntKind.i64 n0 (549755813887 : Int))) (0 : Int)) (ref04OfC3 (law11MadeC0 a b) (law11MadeC1 a b) (IntKind.i64.wrap ((1 : Int) + bits BinOp.and IntKind.i64 n0 (549755813887 : Int))) (0 : Int)) (ref04OfC4 (law11MadeC0 a b) (law11MadeC1 a b) (IntKind.i64.wrap ((1 : Int) + bits BinOp.and IntKind.i64 n0 (549755813887 : Int))) (0 : Int)) true (ruleTime (law11MadeC0 a b) (law11MadeC1 a b) (ref04OfC0 (law11MadeC0 a b) (law11MadeC1 a b) (IntKind.i64.wrap ((1 : Int) + bits BinOp.and IntKind.i64 n0 (549755813887 : Int))) (0 : Int)) (ref04OfC1 (law11MadeC0 a b) (law11MadeC1 a b) (IntKind.i64.wrap ((1 : Int) + bits BinOp.and IntKind.i64 n0 (549755813887 : Int))) (0 : Int)) (ref04OfC2 (law11MadeC0 a b) (law11MadeC1 a b) (IntKind.i64.wrap ((1 : Int) + bits BinOp.and IntKind.i64 n0 (549755813887 : Int))) (0 : Int)) (ref04OfC3 (law11MadeC0 a b) (law11MadeC1 a b) (IntKind.i64.wrap ((1 : Int) + bits BinOp.and IntKind.i64 n0 (549755813887 : Int))) (0 : Int)) (ref04OfC4 (law11MadeC0 a b) (law11MadeC1 a b) (IntKind.i64.wrap ((1 : Int) + bits BinOp.and IntKind.i64 n0 (549755813887 : Int))) (0 : Int)) true (bits BinOp.and IntKind.i64 n1 (1099511627775 : Int))) == ruleTime (law11MadeC0 a b) (law11MadeC1 a b) (ref04OfC0 (law11MadeC0 a b) (law11MadeC1 a b) (IntKind.i64.wrap ((1 : Int) + bits BinOp.and IntKind.i64 n0 (549755813887 : Int))) (0 : Int)) (ref04OfC1 (law11MadeC0 a b) (law11MadeC1 a b) (IntKind.i64.wrap ((1 : Int) + bits BinOp.and IntKind.i64 n0 (549755813887 : Int))) (0 : Int)) (ref04OfC2 (law11MadeC0 a b) (law11MadeC1 a b) (IntKind.i64.wrap ((1 : Int) + bits BinOp.and IntKind.i64 n0 (549755813887 : Int))) (0 : Int)) (ref04OfC3 (law11MadeC0 a b) (law11MadeC1 a b) (IntKind.i64.wrap ((1 : Int) + bits BinOp.and IntKind.i64 n0 (549755813887 : Int))) (0 : Int)) (ref04OfC4 (law11MadeC0 a b) (law11MadeC1 a b) (IntKind.i64.wrap ((1 : Int) + bits BinOp.and IntKind.i64 n0 (549755813887 : Int))) (0 : Int)) true (bits BinOp.and IntKind.i64 n1 (1099511627775 : Int)))) ∧ True) ∧ ((l = l) ∧ True)) | false => (((true = false) ∧ True) ∧ ((l = l) ∧ True))) | false => (((true = false) ∧ True) ∧ ((l = l) ∧ True))) | false => (((true = false) ∧ True) ∧ ((l = l) ∧ True)))))))) | false => False) | false => False)))) | false => False)
theorem law11RuleLaterVc (a b n0 n1 n2 : Int) (l : List Ev) : fnX X7 ({ (annOf (T := T) (O := O) [(13, { σ := Nat, st := fun S x => ((S.keep [2, 3, 4, 7, 8, 9, 11, 12, 13, 14, 15, 16]).int 18 x).bool 17 (foundB (S.gv 2 2) x), inv := fun S x => x ≤ (S.gv 2 2).length, m := fun x => 20 - x })] [] : Ann T O) with
  join := fun i => match decide (i = 5) with
    | true => some { σ := List Ev, st := fun S x => (S.keep [3, 4, 7, 8]).new 2 (.ro 2 x), inv := fun x => x.length ≤ 12 }
    | false => none }) Try.f7 [.agg [.raw (.int .i64 a), .raw (.int .i64 b)], .agg [.raw (.int .i64 n0), .raw (.int .i64 n1), .raw (.int .i64 n2)], .own 0] [.ro 2 l] (ends [.ro 2 l] ⟨some (.raw (.bool true)), []⟩) = law11RuleLaterText a b n0 n1 n2 l := by kernel_rfl
theorem law11RuleLaterHolds (a b n0 n1 n2 : Int) (l : List Ev) (hp : l.length ≤ 140737488355328) : law11RuleLaterText a b n0 n1 n2 l := by
  unfold law11RuleLaterText
  obtain ⟨m1, m2⟩ := made_of a b
  obtain ⟨i, hi1, hi2, _, _⟩ := Num_of n0
  rw [m1, hi1]
  have hpre := (of_of m2 hi2).1
  generalize law11MadeC0 a b = e at m2 hpre ⊢
  generalize law11MadeC1 a b = p at m2 hpre ⊢
  rw [hpre]
  generalize ref04OfC0 e p i 0 = c0
  generalize ref04OfC1 e p i 0 = c1
  generalize ref04OfC2 e p i 0 = c2
  generalize ref04OfC3 e p i 0 = c3
  generalize ref04OfC4 e p i 0 = c4
  generalize bits BinOp.and IntKind.i64 n1 1099511627775 = N1
  generalize bits BinOp.and IntKind.i64 n2 1099511627775 = N2
  have ht : ∀ t, ruleTime e p c0 c1 c2 c3 c4 true t = if ruleEnds e p c0 c1 c2 c3 c4 > t then ruleEnds e p c0 c1 c2 c3 c4 else t := fun _ => rfl
  generalize ruleEnds e p c0 c1 c2 c3 c4 = E at ht
  have hmono : N1 ≤ N2 → ruleTime e p c0 c1 c2 c3 c4 true N1 ≤ ruleTime e p c0 c1 c2 c3 c4 true N2 := by
    intro h
    rw [ht, ht]
    split <;> split <;> omega
  have hsame : ruleTime e p c0 c1 c2 c3 c4 true (ruleTime e p c0 c1 c2 c3 c4 true N1) = ruleTime e p c0 c1 c2 c3 c4 true N1 := by
    rw [ht, ht]
    by_cases h : E > N1
    · rw [if_pos h, if_neg (by omega)]
    · rw [if_neg h, if_neg h]
  refine ⟨?_, ?_⟩
  · by_cases h : (l.length : Int) > 12
    · rw [decide_eq_true h, show slOk none (some 12) none (l.length : Int) = true from slOk_cut (k := 12) (by omega)]
      have hc : cutL none (some 12) l = l.take 12 := by simp [cutL, optB]
      refine ⟨cutL none (some 12) l, by show (cutL none (some 12) l).length ≤ 12; rw [hc, List.length_take]; omega, ?_⟩
      repeat' first | trivial | rfl | apply And.intro
    · rw [decide_eq_false h]
      refine ⟨l, by show l.length ≤ 12; omega, ?_⟩
      repeat' first | trivial | rfl | apply And.intro
  intro x (hx : x.length ≤ 12)
  rw [show decide (x.length ≤ 140737488355328) = true from decide_eq_true (by omega)]
  have f0 : foundB x 0 = !decide (0 < x.length) := by
    unfold foundB anyN
    simp
  refine ⟨⟨0, Nat.zero_le _, by repeat' first | exact f0 | trivial | rfl | apply And.intro⟩, ?_⟩
  intro y (hy : y ≤ x.length)
  by_cases c : y < x.length
  · have hw : ((y + 1 : Nat) : Int) = IntKind.i64.wrap ((y : Int) + (1 : Int)) := by rw [wrap_id (by omega) (by omega)]; rfl
    have hpos : 0 < x.length := by omega
    obtain ⟨l1, l2⟩ := latE_spec hpos
    have hs : foundB x (y + 1) = (foundB x y || evEq (at' ez x (y : Int)) (latE x)) := by
      unfold foundB
      rw [anyN_succ c, Bool.or_assoc]
    have hat : at' ez x (y : Int) = x[y] := at_nat c
    rw [hat] at hs
    rw [dec_lt c, inb_nat c, hat, show decide (x[y].At > (latE x).At) = false from decide_eq_false (by have := l2 x[y] (List.getElem_mem c); omega)]
    cases hf : foundB x y
    · rw [hf, Bool.false_or] at hs
      refine ⟨y + 1, c, by omega, ?_⟩
      repeat' first | exact hw | exact hs | trivial | rfl | apply And.intro
    · rw [hf, Bool.true_or] at hs
      refine ⟨y + 1, c, by omega, ?_⟩
      repeat' first | exact hw | exact hs | trivial | rfl | apply And.intro
  · have ey : y = x.length := by omega
    subst ey
    have hf : foundB x x.length = true := by
      unfold foundB
      by_cases hpos : 0 < x.length
      · rw [anyN_all (latE_spec hpos).1, Bool.or_true]
      · rw [decide_eq_false hpos]
        rfl
    have hd : (decide (0 < x.length) == decide ((x.length : Int) > 0)) = true := by
      by_cases hpos : 0 < x.length
      · rw [decide_eq_true hpos, decide_eq_true (show (x.length : Int) > 0 by omega)]
        rfl
      · rw [decide_eq_false hpos, decide_eq_false (show ¬ (x.length : Int) > 0 by omega)]
        rfl
    rw [dec_ge (Nat.le_refl _), hf, hd, hsame, beq_self_eq_true]
    by_cases hn : N1 > N2
    · rw [decide_eq_true hn]
      repeat' first | trivial | rfl | apply And.intro
    · rw [decide_eq_false hn, decide_eq_true (hmono (by omega))]
      repeat' first | trivial | rfl | apply And.intro
noncomputable def law11RuleLaterCon : Con T O := fun args cs => match args, cs with
  | [.agg [.raw (.int .i64 _), .raw (.int .i64 _)], .agg [.raw (.int .i64 _), .raw (.int .i64 _), .raw (.int .i64 _)], .own 0], [.ro 2 l] => chk (decide (l.length ≤ 140737488355328)) (.ret ⟨some (.raw (.bool true)), []⟩)
  | _, _ => .fail
theorem law11RuleLaterOk : ConOk R Try.prog 7 law11RuleLaterCon := con_of_fn R (X7) (TabOk.con R X7Ok) mixed Try.call7 Try.func7 law11RuleLaterCon (by
  intro args cs K h
  unfold law11RuleLaterCon at h
  split at h
  · rename_i a b n0 n1 n2 l
    rw [Tree.holds_chk] at h
    obtain ⟨hp, h⟩ := h
    refine ⟨{ (annOf (T := T) (O := O) [(13, { σ := Nat, st := fun S x => ((S.keep [2, 3, 4, 7, 8, 9, 11, 12, 13, 14, 15, 16]).int 18 x).bool 17 (foundB (S.gv 2 2) x), inv := fun S x => x ≤ (S.gv 2 2).length, m := fun x => 20 - x })] [] : Ann T O) with
  join := fun i => match decide (i = 5) with
    | true => some { σ := List Ev, st := fun S x => (S.keep [3, 4, 7, 8]).new 2 (.ro 2 x), inv := fun x => x.length ≤ 12 }
    | false => none }, _, fun v S hv => ⟨_, h, hv⟩, ?_⟩
    rw [law11RuleLaterVc a b n0 n1 n2 l]
    exact law11RuleLaterHolds a b n0 n1 n2 l (of_decide_eq_true hp)
  · exact h.elim)
noncomputable def tab8 : Tab T O := (7, law11RuleLaterCon) :: tab7
theorem tabOk8 : TabOk R Try.prog tab8 := TabOk.cons R law11RuleLaterOk <| tabOk7
noncomputable def X8 : Ctx T O := { X0 with con := conOf tab8 }
theorem X8Ok : TabOk R X8.P tab8 := tabOk8
end Go.Proofs.Ytmdoilnmllajjaa
