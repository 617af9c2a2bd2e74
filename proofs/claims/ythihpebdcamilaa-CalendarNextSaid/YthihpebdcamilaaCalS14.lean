/-
  Part of a proof over the seat Ythihpebdcamilaa: printed by a small program or typed by hand.
-/
import Derived.Test.YthihpebdcamilaaCalS13
import Derived.KernelRfl
namespace Go.Proofs.Ythihpebdcamilaa
open Go.Sx Go.Proofs Classical
theorem HOk.perm' {s : HS} {C D : List Thing} (h : HOk s C) (p : C.Perm D) : HOk s D := ⟨h.heap, h.map, h.perm.trans p⟩
theorem dueA_nil {s : HS} {t : Int} (h : s.1.length = 0) : dueA s t = ([], s) := by unfold dueA; rw [h]; rfl
theorem dueA_stop {s : HS} {t : Int} (ha : (at' tz s.1 0).XAt > t) : dueA s t = ([], s) := by
  unfold dueA
  cases hn : s.1.length with
  | zero => rfl
  | succ n =>
    simp only [dueN]
    rw [hn, decide_eq_true ha, Bool.or_true]
    rfl
theorem dueA_go {s : HS} {t : Int} {n : Nat} (hn : s.1.length = n + 1) (ha : ¬ (at' tz s.1 0).XAt > t) : dueA s t = ((at' tz s.1 0).X :: (dueA (takeH s 0) t).1, (dueA (takeH s 0) t).2) := by
  have hl : (takeH s 0).1.length = n := by rw [takeH_length]; omega
  unfold dueA
  rw [hn, hl]
  simp only [dueN]
  rw [hn, decide_eq_false ha, show (n + 1 == 0) = false from beq_eq_false_iff_ne.2 (by omega)]
  rfl
theorem due_ok (t : Int) : ∀ (n : Nat) (s : HS) (C : List Thing), s.1.length = n → HOk s C → ∃ A C', HOk (dueA s t).2 C' ∧ C.Perm (A ++ C') ∧ (dueA s t).1 = A.map (·.X) ∧ (∀ c ∈ A, c.XAt ≤ t) ∧ (∀ c ∈ C', t < c.XAt) ∧ A.Pairwise le'
  | 0, s, C, hn, h => by
    rw [dueA_nil hn]
    have hc : C = [] := List.length_eq_zero_iff.1 (by rw [← h.len]; exact hn)
    subst hc
    exact ⟨[], [], h, List.Perm.refl _, rfl, fun c hc => (by cases hc), fun c hc => (by cases hc), List.Pairwise.nil⟩
  | n + 1, s, C, hn, h => by
    obtain ⟨m1, m2⟩ := h.min (by omega)
    by_cases ha : (at' tz s.1 0).XAt > t
    · rw [dueA_stop ha]
      refine ⟨[], C, h, List.Perm.refl _, rfl, fun c hc => (by cases hc), fun c hc => ?_, List.Pairwise.nil⟩
      have e : (at' tz s.1 (0 : Int)) = gN s.1 0 := rfl
      have := m2 c hc
      unfold le' at this
      rw [e] at ha
      omega
    · rw [dueA_go hn ha]
      obtain ⟨C1, p1, h1⟩ := h.take (i := 0) (by omega)
      obtain ⟨A, C', k1, k2, k3, k4, k5, k6⟩ := due_ok t n (takeH s 0) C1 (by rw [takeH_length]; omega) h1
      have e : (at' tz s.1 (0 : Int)) = gN s.1 0 := rfl
      refine ⟨gN s.1 0 :: A, C', k1, p1.trans (List.Perm.cons _ k2), by rw [List.map_cons, k3, e], fun c hc => ?_, k5, List.Pairwise.cons (fun a hA => m2 a (p1.mem_iff.2 (List.mem_cons_of_mem _ (k2.mem_iff.2 (List.mem_append_left _ hA))))) k6⟩
      rcases List.mem_cons.1 hc with rfl | hc
      · rw [e] at ha; omega
      · exact k4 c hc
def Near (e : Ev) : Prop := 0 ≤ e.At ∧ e.At < 16 ∧ 0 ≤ e.ID ∧ e.ID < 8 ∧ 0 ≤ e.Kind ∧ e.Kind < 4
def tE (e : Ev) : Thing := thing (calendarNumber e.ID e.Kind) e
theorem tE_X (e : Ev) : (tE e).X = e := rfl
def nearE (e : Ev) : Ev := ⟨e.At % 16, e.ID % 8, e.Kind % 4⟩
theorem nearE_near (e : Ev) : Near (nearE e) := by
  have a1 := Int.emod_nonneg e.At (b := 16) (by omega)
  have a2 := Int.emod_nonneg e.ID (b := 8) (by omega)
  have a3 := Int.emod_nonneg e.Kind (b := 4) (by omega)
  have b1 := Int.emod_lt_of_pos e.At (b := 16) (by omega)
  have b2 := Int.emod_lt_of_pos e.ID (b := 8) (by omega)
  have b3 := Int.emod_lt_of_pos e.Kind (b := 4) (by omega)
  exact ⟨a1, b1, a2, b2, a3, b3⟩
theorem number_near {i k : Int} (h1 : 0 ≤ i) (h2 : i < 1024) (h3 : 0 ≤ k) (h4 : k < 8) : calendarNumber i k = i * 8 + k := by
  unfold calendarNumber
  rw [wrap_id (n := i * 8) (by omega) (by omega), wrap_id (by omega) (by omega)]
theorem right_near {e : Ev} (h : Near e) : calendarRight e.ID e.Kind = true := by
  unfold Near at h
  rw [right_iff]
  exact decide_eq_true (by omega)
theorem evC0 (k a i d : Int) : law08OpEventC0 ⟨k, true, a, i, d⟩ = a % 16 := mask_nat 4 (by omega) a
theorem evC1 (k a i d : Int) : law08OpEventC1 ⟨k, true, a, i, d⟩ = i % 8 := mask_nat 3 (by omega) i
theorem evC2 (k a i d : Int) : law08OpEventC2 ⟨k, true, a, i, d⟩ = d % 4 := mask_nat 2 (by omega) d
structure PutOk (i : Nat) (P : List Ev) (s : HS) : Prop where
  ok : HOk s (P.map tE)
  near : ∀ e ∈ P, Near e
  len : P.length ≤ i
theorem PutOk.start : PutOk 0 [] (noThings, noPlaces) := ⟨HOk.new, fun e h => (by cases h), Nat.le_refl _⟩
theorem PutOk.skip {i : Nat} {P : List Ev} {s : HS} (h : PutOk i P s) : PutOk (i + 1) P s := ⟨h.ok, h.near, by have := h.len; omega⟩
theorem PutOk.size {i : Nat} {P : List Ev} {s : HS} (h : PutOk i P s) : s.1.length = P.length := by rw [h.ok.len, List.length_map]
theorem PutOk.add {i : Nat} {P : List Ev} {s : HS} (h : PutOk i P s) {e : Ev} (hn : Near e) (ht : thereB (calendarNumber e.ID e.Kind) s.2 = false) : PutOk (i + 1) (P ++ [e]) (pushH s (calendarNumber e.ID e.Kind) e) := by
  refine ⟨?_, fun a ha => ?_, by have := h.len; simp; omega⟩
  · have := h.ok.push (x := e) ht
    refine this.perm' ?_
    rw [List.map_append]
    exact (List.perm_append_singleton _ _).symm
  · rcases List.mem_append.1 ha with ha | ha
    · exact h.near a ha
    · rw [List.mem_singleton] at ha
      subst ha
      exact hn
abbrev ez : Ev := evE.zero
def evEq (a b : Ev) : Bool := a.At == b.At && (a.ID == b.ID && (a.Kind == b.Kind && true))
theorem evEq_iff (a b : Ev) : evEq a b = true ↔ a = b := by
  cases a; cases b
  simp [evEq]
theorem evEq_refl (a : Ev) : evEq a a = true := (evEq_iff a a).2 rfl
def anyN (P : List Ev) (e : Ev) (n : Nat) : Bool := (P.take n).any (fun a => evEq a e)
theorem anyN_succ {P : List Ev} {e : Ev} {n : Nat} (h : n < P.length) : anyN P e (n + 1) = (anyN P e n || evEq (at' ez P (n : Int)) e) := by
  unfold anyN
  rw [at_nat h, List.take_add_one, List.any_append, List.getElem?_eq_getElem h]
  simp
theorem anyN_all {P : List Ev} {e : Ev} (h : e ∈ P) : anyN P e P.length = true := by
  unfold anyN
  rw [List.take_length]
  exact List.any_eq_true.2 ⟨e, h, evEq_refl e⟩
/-- what CalendarDue finds -/
theorem due_twice {s : HS} {P : List Ev} {i : Nat} (h : PutOk i P s) (t : Int) (a3 : List Ev) (s1 s2 s3 : HS) (a1 a2 : List Ev) (e1 : dueA s t = (a1, s1)) (e2 : dueA s1 t = (a2, s2)) (e3 : dueA s2 99 = (a3, s3)) :
    a2 = [] ∧ s3.1.length = 0 ∧ a1.length + a3.length = P.length ∧ (∀ e ∈ a1 ++ a3, e ∈ P) ∧ (∀ e ∈ a1, e.At ≤ t) ∧ (∀ e ∈ a3, t < e.At) ∧ (a1 ++ a3).Pairwise (fun a b => a.At ≤ b.At) ∧ s1.1.length ≤ P.length ∧ s2.1.length ≤ P.length := by
  obtain ⟨A, C1, k1, k2, k3, k4, k5, k6⟩ := due_ok t _ s _ rfl h.ok
  rw [e1] at k1 k3
  dsimp only at k1 k3
  obtain ⟨B, C2, l1, l2, l3, l4, l5, l6⟩ := due_ok t _ s1 _ rfl k1
  rw [e2] at l1 l3
  dsimp only at l1 l3
  have hB : B = [] := by
    cases B with
    | nil => rfl
    | cons b B =>
      have := l4 b (by simp)
      have := k5 b (l2.mem_iff.2 (by simp))
      omega
  subst hB
  rw [List.nil_append] at l2
  obtain ⟨D, C3, m1, m2, m3, m4, m5, m6⟩ := due_ok 99 _ s2 _ rfl l1
  rw [e3] at m1 m3
  dsimp only at m1 m3
  have all : ∀ c ∈ A ++ D, ∃ e ∈ P, c = tE e := by
    intro c hc
    have : c ∈ P.map tE := by
      rw [k2.mem_iff, List.mem_append]
      rcases List.mem_append.1 hc with hc | hc
      · exact .inl hc
      · exact .inr (l2.mem_iff.2 (m2.mem_iff.2 (List.mem_append_left _ hc)))
    obtain ⟨e, he, rfl⟩ := List.mem_map.1 this
    exact ⟨e, he, rfl⟩
  have hC3 : C3 = [] := by
    cases C3 with
    | nil => rfl
    | cons b B =>
      have a := m5 b (by simp)
      have : b ∈ P.map tE := by
        rw [k2.mem_iff, List.mem_append]
        exact .inr (l2.mem_iff.2 (m2.mem_iff.2 (by simp)))
      obtain ⟨e, he, rfl⟩ := List.mem_map.1 this
      have := h.near e he
      unfold Near at this
      have : (tE e).XAt = e.At := rfl
      omega
  subst hC3
  have hlen : P.length = A.length + D.length := by
    have a1 := k2.length_eq
    have a2 := l2.length_eq
    have a3 := m2.length_eq
    rw [List.length_map, List.length_append] at a1
    rw [List.append_nil] at a3
    omega
  have x1 := k1.len
  have x2 := l1.len
  have x3 := l2.length_eq
  have x4 := m2.length_eq
  rw [List.append_nil] at x4
  refine ⟨by rw [l3]; rfl, by rw [m1.len]; rfl, by rw [k3, m3, List.length_map, List.length_map, hlen], ?_, ?_, ?_, ?_, by omega, by omega⟩
  · intro e he
    rw [k3, m3, ← List.map_append] at he
    obtain ⟨c, hc, rfl⟩ := List.mem_map.1 he
    obtain ⟨e, he2, rfl⟩ := all c hc
    exact he2
  · intro e he
    rw [k3] at he
    obtain ⟨c, hc, rfl⟩ := List.mem_map.1 he
    exact k4 c hc
  · intro e he
    rw [m3] at he
    obtain ⟨c, hc, rfl⟩ := List.mem_map.1 he
    exact k5 c (l2.mem_iff.2 (m2.mem_iff.2 (by simpa using hc)))
  · rw [k3, m3, ← List.map_append, List.pairwise_map, List.pairwise_append]
    have weak : ∀ a b : Thing, le' a b → a.X.At ≤ b.X.At := by
      intro a b hab
      unfold le' at hab
      show a.XAt ≤ b.XAt
      omega
    refine ⟨k6.imp (weak _ _), m6.imp (weak _ _), fun a ha b hb => ?_⟩
    have h1 := k4 a ha
    have h2 := k5 b (l2.mem_iff.2 (m2.mem_iff.2 (by simpa using hb)))
    show a.XAt ≤ b.XAt
    omega

/-! ### regatta/regattalaw08.CalendarDue -/
def law08CalendarDueText (l : List Ev) (t : Int) : Prop := (((∃ x : Nat × List Ev × HS, (((x.fst ≤ l.length) ∧ ((x.fst ≤ (30 : Nat)) ∧ (PutOk x.fst x.snd.fst x.snd.snd))) ∧ ((True ∧ ((t = t) ∧ ((true = true) ∧ (True ∧ (True ∧ (((↑x.fst : Int) = (0 : Int)) ∧ True)))))) ∧ ((l = l) ∧ ((True ∧ True) ∧ ((True ∧ (True ∧ (True ∧ True))) ∧ ((x.snd.snd.fst = noThings) ∧ ((x.snd.snd.snd = noPlaces) ∧ ((x.snd.fst = []) ∧ True))))))))) ∧ (∀ x : Nat × List Ev × HS, (((x.fst ≤ l.length) ∧ ((x.fst ≤ (30 : Nat)) ∧ (PutOk x.fst x.snd.fst x.snd.snd))) → (match (decide ((↑x.fst : Int) < (↑l.length : Int))) with | true => (match (decide ((↑x.fst : Int) < (30 : Int))) with | true => (match (inb (↑x.fst : Int) l.length) with | true => (match (inb (↑x.fst : Int) l.length) with | true => (match (decide (x.snd.snd.fst.length ≤ (1000 : Nat))) with | true => (match (calendarRight (law08OpEventC1 (Op.mk (0 : Int) true (at' evE.zero l (↑x.fst : Int)).At (at' evE.zero l (↑x.fst : Int)).ID (at' evE.zero l (↑x.fst : Int)).Kind)) (law08OpEventC2 (Op.mk (0 : Int) true (at' evE.zero l (↑x.fst : Int)).At (at' evE.zero l (↑x.fst : Int)).ID (at' evE.zero l (↑x.fst : Int)).Kind)) && decide ((0 : Int) ≤ law08OpEventC0 (Op.mk (0 : Int) true (at' evE.zero l (↑x.fst : Int)).At (at' evE.zero l (↑x.fst : Int)).ID (at' evE.zero l (↑x.fst : Int)).Kind)) && !thereB (calendarNumber (law08OpEventC1 (Op.mk (0 : Int) true (at' evE.zero l (↑x.fst : Int)).At (at' evE.zero l (↑x.fst : Int)).ID (at' evE.zero l (↑x.fst : Int)).Kind)) (law08OpEventC2 (Op.mk (0 : Int) true (at' evE.zero l (↑x.fst : Int)).At (at' evE.zero l (↑x.fst : Int)).ID (at' evE.zero l (↑x.fst : Int)).Kind))) x.snd.snd.snd) with | true => (match (roomy (x.snd.fst.length + (1 : Nat)) (nat_lit 24)) with | true => (∃ x' : Nat × List Ev × HS, (((x'.fst ≤ l.length) ∧ ((x'.fst ≤ (30 : Nat)) ∧ (PutOk x'.fst x'.snd.fst x'.snd.snd))) ∧ (((30 : Nat) - x'.fst < (30 : Nat) - x.fst) ∧ ((True ∧ ((t = t) ∧ ((true = true) ∧ (True ∧ (True ∧ (((↑x'.fst : Int) = IntKind.i64.wrap ((↑x.fst : Int) + (1 : Int))) ∧ True)))))) ∧ ((l = l) ∧ ((True ∧ True) ∧ ((True ∧ (True ∧ (True ∧ True))) ∧ ((x'.snd.snd.fst = (pushH x.snd.snd (calendarNumber (law08OpEventC1 (Op.mk (0 : Int) true (at' evE.zero l (↑x.fst : Int)).At (at' evE.zero l (↑x.fst : Int)).ID (at' evE.zero l (↑x.fst : Int)).Kind)) (law08OpEventC2 (Op.mk (0 : Int) true (at' evE.zero l (↑x.fst : Int)).At (at' evE.zero l (↑x.fst : Int)).ID (at' evE.zero l (↑x.fst : Int)).Kind))) (Ev.mk (law08OpEventC0 (Op.mk (0 : Int) true (at' evE.zero l (↑x.fst : Int)).At (at' evE.zero l (↑x.fst : Int)).ID (at' evE.zero l (↑x.fst : Int)).Kind)) (law08OpEventC1 (Op.mk (0 : Int) true (at' evE.zero l (↑x.fst : Int)).At (at' evE.zero l (↑x.fst : Int)).ID (at' evE.zero l (↑x.fst : Int)).Kind)) (law08OpEventC2 (Op.mk (0 : Int) true (at' evE.zero l (↑x.fst : Int)).At (at' evE.zero l (↑x.fst : Int)).ID (at' evE.zero l (↑x.fst : Int)).Kind)))).fst) ∧ ((x'.snd.snd.snd = (pushH x.snd.snd (calendarNumber (law08OpEventC1 (Op.mk (0 : Int) true (at' evE.zero l (↑x.fst : Int)).At (at' evE.zero l (↑x.fst : Int)).ID (at' evE.zero l (↑x.fst : Int)).Kind)) (law08OpEventC2 (Op.mk (0 : Int) true (at' evE.zero l (↑x.fst : Int)).At (at' evE.zero l (↑x.fst : Int)).ID (at' evE.zero l (↑x.fst : Int)).Kind))) (Ev.mk (law08OpEventC0 (Op.mk (0 : Int) true (at' evE.zero l (↑x.fst : Int)).At (at' evE.zero l (↑x.fst : Int)).ID (at' evE.zero l (↑x.fst : Int)).Kind)) (law08OpEventC1 (Op.mk (0 : Int) true (at' evE.zero l (↑x.fst : Int)).At (at' evE.zero l (↑x.fst : Int)).ID (at' evE.zero l (↑x.fst : Int)).Kind)) (law08OpEventC2 (Op.mk (0 : Int) true (at' evE.zero l (↑x.fst : Int)).At (at' evE.zero l (↑x.fst : Int)).ID (at' evE.zero l (↑x.fst : Int)).Kind)))).snd) ∧ ((x'.snd.fst = x.snd.fst ++ [Ev.mk (law08OpEventC0 (Op.mk (0 : Int) true (at' evE.zero l (↑x.fst : Int)).At (at' evE.zero l (↑x.fst : Int)).ID (at' evE.zero l (↑x.fst : Int)).Kind)) (law08OpEventC1 (Op.mk (0 : Int) true (at' evE.zero l (↑x.fst : Int)).At (at' evE.zero l (↑x.fst : Int)).ID (at' evE.zero l (↑x.fst : Int)).Kind)) (law08OpEventC2 (Op.mk (0 : Int) true (at' evE.zero l (↑x.fst : Int)).At (at' evE.zero l (↑x.fst : Int)).ID (at' evE.zero l (↑x.fst : Int)).Kind))]) ∧ True)))))))))) | false => False) | false => (match ((bif calendarRight (law08OpEventC1 (Op.mk (0 : Int) true (at' evE.zero l (↑x.fst : Int)).At (at' evE.zero l (↑x.fst : Int)).ID (at' evE.zero l (↑x.fst : Int)).Kind)) (law08OpEventC2 (Op.mk (0 : Int) true (at' evE.zero l (↑x.fst : Int)).At (at' evE.zero l (↑x.fst : Int)).ID (at' evE.zero l (↑x.fst : Int)).Kind)) && decide ((0 : Int) ≤ law08OpEventC0 (Op.mk (0 : Int) true (at' evE.zero l (↑x.fst : Int)).At (at' evE.zero l (↑x.fst : Int)).ID (at' evE.zero l (↑x.fst : Int)).Kind)) then (14 : Int) else (1 : Int)) == (0 : Int)) with | true => (match (roomy (x.snd.fst.length + (1 : Nat)) (nat_lit 24)) with | true => (∃ x' : Nat × List Ev × HS, (((x'.fst ≤ l.length) ∧ ((x'.fst ≤ (30 : Nat)) ∧ (PutOk x'.fst x'.snd.fst x'.snd.snd))) ∧ (((30 : Nat) - x'.fst < (30 : Nat) - x.fst) ∧ ((True ∧ ((t = t) ∧ ((true = true) ∧ (True ∧ (True ∧ (((↑x'.fst : Int) = IntKind.i64.wrap ((↑x.fst : Int) + (1 : Int))) ∧ True)))))) ∧ ((l = l) ∧ ((True ∧ True) ∧ ((True ∧ (True ∧ (True ∧ True))) ∧ ((x'.snd.snd.fst = x.snd.snd.fst) ∧ ((x'.snd.snd.snd = x.snd.snd.snd) ∧ ((x'.snd.fst = x.snd.fst ++ [Ev.mk (law08OpEventC0 (Op.mk (0 : Int) true (at' evE.zero l (↑x.fst : Int)).At (at' evE.zero l (↑x.fst : Int)).ID (at' evE.zero l (↑x.fst : Int)).Kind)) (law08OpEventC1 (Op.mk (0 : Int) true (at' evE.zero l (↑x.fst : Int)).At (at' evE.zero l (↑x.fst : Int)).ID (at' evE.zero l (↑x.fst : Int)).Kind)) (law08OpEventC2 (Op.mk (0 : Int) true (at' evE.zero l (↑x.fst : Int)).At (at' evE.zero l (↑x.fst : Int)).ID (at' evE.zero l (↑x.fst : Int)).Kind))]) ∧ True)))))))))) | false => False) | false => (∃ x' : Nat × List Ev × HS, (((x'.fst ≤ l.length) ∧ ((x'.fst ≤ (30 : Nat)) ∧ (PutOk x'.fst x'.snd.fst x'.snd.snd))) ∧ (((30 : Nat) - x'.fst < (30 : Nat) - x.fst) ∧ ((True ∧ ((t = t) ∧ ((true = true) ∧ (True ∧ (True ∧ (((↑x'.fst : Int) = IntKind.i64.wrap ((↑x.fst : Int) + (1 : Int))) ∧ True)))))) ∧ ((l = l) ∧ ((True ∧ True) ∧ ((True ∧ (True ∧ (True ∧ True))) ∧ ((x'.snd.snd.fst = x.snd.snd.fst) ∧ ((x'.snd.snd.snd = x.snd.snd.snd) ∧ ((x'.snd.fst = x.snd.fst) ∧ True)))))))))))) | false => False) | false => False) | false => False) | false => (∃ x1 : List Ev × HS, ((PutOk (30 : Nat) x1.fst x1.snd) ∧ ((True ∧ ((t = t) ∧ ((true = true) ∧ (True ∧ (True ∧ True))))) ∧ ((l = l) ∧ ((True ∧ True) ∧ ((True ∧ (True ∧ (True ∧ True))) ∧ ((x1.snd.fst = x.snd.snd.fst) ∧ ((x1.snd.snd = x.snd.snd.snd) ∧ ((x1.fst = x.snd.fst) ∧ True)))))))))) | false => (∃ x1 : List Ev × HS, ((PutOk (30 : Nat) x1.fst x1.snd) ∧ ((True ∧ ((t = t) ∧ ((true = true) ∧ (True ∧ (True ∧ True))))) ∧ ((l = l) ∧ ((True ∧ True) ∧ ((True ∧ (True ∧ (True ∧ True))) ∧ ((x1.snd.fst = x.snd.snd.fst) ∧ ((x1.snd.snd = x.snd.snd.snd) ∧ ((x1.fst = x.snd.fst) ∧ True))))))))))))) ∧ (∀ x : List Ev × HS, ((PutOk (30 : Nat) x.fst x.snd) → (match (decide (x.snd.fst.length ≤ (1000 : Nat))) with | true => (match (decide ((dueA x.snd (bits BinOp.and IntKind.i64 t (15 : Int))).snd.fst.length ≤ (1000 : Nat))) with | true => (match (decide ((dueA (dueA x.snd (bits BinOp.and IntKind.i64 t (15 : Int))).snd (bits BinOp.and IntKind.i64 t (15 : Int))).snd.fst.length ≤ (1000 : Nat))) with | true => (match (IntKind.i64.wrap ((↑(dueA x.snd (bits BinOp.and IntKind.i64 t (15 : Int))).fst.length : Int) + (↑(dueA (dueA (dueA x.snd (bits BinOp.and IntKind.i64 t (15 : Int))).snd (bits BinOp.and IntKind.i64 t (15 : Int))).snd (99 : Int)).fst.length : Int)) != (↑x.fst.length : Int)) with | true => (((true = false) ∧ True) ∧ ((l = l) ∧ True)) | false => (match ((↑(dueA (dueA x.snd (bits BinOp.and IntKind.i64 t (15 : Int))).snd (bits BinOp.and IntKind.i64 t (15 : Int))).fst.length : Int) != (0 : Int)) with | true => (((true = false) ∧ True) ∧ ((l = l) ∧ True)) | false => (match ((↑(dueA (dueA (dueA x.snd (bits BinOp.and IntKind.i64 t (15 : Int))).snd (bits BinOp.and IntKind.i64 t (15 : Int))).snd (99 : Int)).snd.fst.length : Int) != (0 : Int)) with | true => (((true = false) ∧ True) ∧ ((l = l) ∧ True)) | false => (match (roomy ((0 : Nat) + (dueA x.snd (bits BinOp.and IntKind.i64 t (15 : Int))).fst.length) (nat_lit 24)) with | true => (match (roomy (([] ++ (dueA x.snd (bits BinOp.and IntKind.i64 t (15 : Int))).fst).length + (dueA (dueA (dueA x.snd (bits BinOp.and IntKind.i64 t (15 : Int))).snd (bits BinOp.and IntKind.i64 t (15 : Int))).snd (99 : Int)).fst.length) (nat_lit 24)) with | true => ((∃ x1 : Nat, ((x1.le ([] ++ (dueA x.snd (bits BinOp.and IntKind.i64 t (15 : Int))).fst ++ (dueA (dueA (dueA x.snd (bits BinOp.and IntKind.i64 t (15 : Int))).snd (bits BinOp.and IntKind.i64 t (15 : Int))).snd (99 : Int)).fst).length) ∧ ((True ∧ ((t = t) ∧ ((true = true) ∧ (True ∧ (True ∧ ((bits BinOp.and IntKind.i64 t (15 : Int) = bits BinOp.and IntKind.i64 t (15 : Int)) ∧ (True ∧ (True ∧ (True ∧ (True ∧ (((↑x1 : Int) = (0 : Int)) ∧ True))))))))))) ∧ ((l = l) ∧ ((True ∧ True) ∧ ((True ∧ (True ∧ (True ∧ True))) ∧ (((dueA (dueA (dueA x.snd (bits BinOp.and IntKind.i64 t (15 : Int))).snd (bits BinOp.and IntKind.i64 t (15 : Int))).snd (99 : Int)).snd.snd = (dueA (dueA (dueA x.snd (bits BinOp.and IntKind.i64 t (15 : Int))).snd (bits BinOp.and IntKind.i64 t (15 : Int))).snd (99 : Int)).snd.snd) ∧ ((x.fst = x.fst) ∧ (((dueA x.snd (bits BinOp.and IntKind.i64 t (15 : Int))).fst = (dueA x.snd (bits BinOp.and IntKind.i64 t (15 : Int))).fst) ∧ (((dueA (dueA x.snd (bits BinOp.and IntKind.i64 t (15 : Int))).snd (bits BinOp.and IntKind.i64 t (15 : Int))).fst = (dueA (dueA x.snd (bits BinOp.and IntKind.i64 t (15 : Int))).snd (bits BinOp.and IntKind.i64 t (15 : Int))).fst) ∧ (((dueA (dueA (dueA x.snd (bits BinOp.and IntKind.i64 t (15 : Int))).snd (bits BinOp.and IntKind.i64 t (15 : Int))).snd (99 : Int)).fst = (dueA (dueA (dueA x.snd (bits BinOp.and IntKind.i64 t (15 : Int))).snd (bits BinOp.and IntKind.i64 t (15 : Int))).snd (99 : Int)).fst) ∧ (((dueA (dueA (dueA x.snd (bits BinOp.and IntKind.i64 t (15 : Int))).snd (bits BinOp.and IntKind.i64 t (15 : Int))).snd (99 : Int)).snd.fst = (dueA (dueA (dueA x.snd (bits BinOp.and IntKind.i64 t (15 : Int))).snd (bits BinOp.and IntKind.i64 t (15 : Int))).snd (99 : Int)).snd.fst) ∧ (([] ++ (dueA x.snd (bits BinOp.and IntKind.i64 t (15 : Int))).fst ++ (dueA (dueA (dueA x.snd (bits BinOp.and IntKind.i64 t (15 : Int))).snd (bits BinOp.and IntKind.i64 t (15 : Int))).snd (99 : Int)).fst = [] ++ (dueA x.snd (bits BinOp.and IntKind.i64 t (15 : Int))).fst ++ (dueA (dueA (dueA x.snd (bits BinOp.and IntKind.i64 t (15 : Int))).snd (bits BinOp.and IntKind.i64 t (15 : Int))).snd (99 : Int)).fst) ∧ True))))))))))))) ∧ (∀ x1 : Nat, ((x1.le ([] ++ (dueA x.snd (bits BinOp.and IntKind.i64 t (15 : Int))).fst ++ (dueA (dueA (dueA x.snd (bits BinOp.and IntKind.i64 t (15 : Int))).snd (bits BinOp.and IntKind.i64 t (15 : Int))).snd (99 : Int)).fst).length) → (match (decide ((↑x1 : Int) < (↑([] ++ (dueA x.snd (bits BinOp.and IntKind.i64 t (15 : Int))).fst ++ (dueA (dueA (dueA x.snd (bits BinOp.and IntKind.i64 t (15 : Int))).snd (bits BinOp.and IntKind.i64 t (15 : Int))).snd (99 : Int)).fst).length : Int))) with | true => ((∃ x2 : Nat, ((x2.le x.fst.length) ∧ ((True ∧ ((t = t) ∧ ((true = true) ∧ (True ∧ (True ∧ ((bits BinOp.and IntKind.i64 t (15 : Int) = bits BinOp.and IntKind.i64 t (15 : Int)) ∧ (True ∧ (True ∧ (True ∧ (True ∧ (((↑x1 : Int) = (↑x1 : Int)) ∧ ((anyN x.fst (at' ez ([] ++ (dueA x.snd (bits BinOp.and IntKind.i64 t (15 : Int))).fst ++ (dueA (dueA (dueA x.snd (bits BinOp.and IntKind.i64 t (15 : Int))).snd (bits BinOp.and IntKind.i64 t (15 : Int))).snd (99 : Int)).fst) (↑x1 : Int)) x2 = false) ∧ (((↑x2 : Int) = (0 : Int)) ∧ True))))))))))))) ∧ ((l = l) ∧ ((True ∧ True) ∧ ((True ∧ (True ∧ (True ∧ True))) ∧ (((dueA (dueA (dueA x.snd (bits BinOp.and IntKind.i64 t (15 : Int))).snd (bits BinOp.and IntKind.i64 t (15 : Int))).snd (99 : Int)).snd.snd = (dueA (dueA (dueA x.snd (bits BinOp.and IntKind.i64 t (15 : Int))).snd (bits BinOp.and IntKind.i64 t (15 : Int))).snd (99 : Int)).snd.snd) ∧ ((x.fst = x.fst) ∧ (((dueA x.snd (bits BinOp.and IntKind.i64 t (15 : Int))).fst = (dueA x.snd (bits BinOp.and IntKind.i64 t (15 : Int))).fst) ∧ (((dueA (dueA x.snd (bits BinOp.and IntKind.i64 t (15 : Int))).snd (bits BinOp.and IntKind.i64 t (15 : Int))).fst = (dueA (dueA x.snd (bits BinOp.and IntKind.i64 t (15 : Int))).snd (bits BinOp.and IntKind.i64 t (15 : Int))).fst) ∧ (((dueA (dueA (dueA x.snd (bits BinOp.and IntKind.i64 t (15 : Int))).snd (bits BinOp.and IntKind.i64 t (15 : Int))).snd (99 : Int)).fst = (dueA (dueA (dueA x.snd (bits BinOp.and IntKind.i64 t (15 : Int))).snd (bits BinOp.and IntKind.i64 t (15 : Int))).snd (99 : Int)).fst) ∧ (((dueA (dueA (dueA x.snd (bits BinOp.and IntKind.i64 t (15 : Int))).snd (bits BinOp.and IntKind.i64 t (15 : Int))).snd (99 : Int)).snd.fst = (dueA (dueA (dueA x.snd (bits BinOp.and IntKind.i64 t (15 : Int))).snd (bits BinOp.and IntKind.i64 t (15 : Int))).snd (99 : Int)).snd.fst) ∧ (([] ++ (dueA x.snd (bits BinOp.and IntKind.i64 t (15 : Int))).fst ++ (dueA (dueA (dueA x.snd (bits BinOp.and IntKind.i64 t (15 : Int))).snd (bits BinOp.and IntKind.i64 t (15 : Int))).snd (99 : Int)).fst = [] ++ (dueA x.snd (bits BinOp.and IntKind.i64 t (15 : Int))).fst ++ (dueA (dueA (dueA x.snd (bits BinOp.and IntKind.i64 t (15 : Int))).snd (bits BinOp.and IntKind.i64 t (15 : Int))).snd (99 : Int)).fst) ∧ True))))))))))))) ∧ (∀ x2 : Nat, ((x2.le x.fst.length) → (match (decide ((↑x2 : Int) < (↑x.fst.length : Int))) with | true => (match (anyN x.fst (at' ez ([] ++ (dueA x.snd (bits BinOp.and IntKind.i64 t (15 : Int))).fst ++ (dueA (dueA (dueA x.snd (bits BinOp.and IntKind.i64 t (15 : Int))).snd (bits BinOp.and IntKind.i64 t (15 : Int))).snd (99 : Int)).fst) (↑x1 : Int)) x2) with | true => (∃ x' : Nat, ((x'.le x.fst.length) ∧ (((60 : Nat) - x' < (60 : Nat) - x2) ∧ ((True ∧ ((t = t) ∧ ((true = true) ∧ (True ∧ (True ∧ ((bits BinOp.and IntKind.i64 t (15 : Int) = bits BinOp.and IntKind.i64 t (15 : Int)) ∧ (True ∧ (True ∧ (True ∧ (True ∧ (((↑x1 : Int) = (↑x1 : Int)) ∧ ((anyN x.fst (at' ez ([] ++ (dueA x.snd (bits BinOp.and IntKind.i64 t (15 : Int))).fst ++ (dueA (dueA (dueA x.snd (bits BinOp.and IntKind.i64 t (15 : Int))).snd (bits BinOp.and IntKind.i64 t (15 : Int))).snd (99 : Int)).fst) (↑x1 : Int)) x' = true) ∧ (((↑x' : Int) = IntKind.i64.wrap ((↑x2 : Int) + (1 : Int))) ∧ True))))))))))))) ∧ ((l = l) ∧ ((True ∧ True) ∧ ((True ∧ (True ∧ (True ∧ True))) ∧ (((dueA (dueA (dueA x.snd (bits BinOp.and IntKind.i64 t (15 : Int))).snd (bits BinOp.and IntKind.i64 t (15 : Int))).snd (99 : Int)).snd.snd = (dueA (dueA (dueA x.snd (bits BinOp.and IntKind.i64 t (15 : Int))).snd (bits BinOp.and IntKind.i64 t (15 : Int))).snd (99 : Int)).snd.snd) ∧ ((x.fst = x.fst) ∧ (((dueA x.snd (bits BinOp.and IntKind.i64 t (15 : Int))).fst = (dueA x.snd (bits BinOp.and IntKind.i64 t (15 : Int))).fst) ∧ (((dueA (dueA x.snd (bits BinOp.and IntKind.i64 t (15 : Int))).snd (bits BinOp.and IntKind.i64 t (15 : Int))).fst = (dueA (dueA x.snd (bits BinOp.and IntKind.i64 t (15 : Int))).snd (bits BinOp.and IntKind.i64 t (15 : Int))).fst) ∧ (((dueA (dueA (dueA x.snd (bits BinOp.and IntKind.i64 t (15 : Int))).snd (bits BinOp.and IntKind.i64 t (15 : Int))).snd (99 : Int)).fst = (dueA (dueA (dueA x.snd (bits BinOp.and IntKind.i64 t (15 : Int))).snd (bits BinOp.and IntKind.i64 t (15 : Int))).snd (99 : Int)).fst) ∧ (((dueA (dueA (dueA x.snd (bits BinOp.and IntKind.i64 t (15 : Int))).snd (bits BinOp.and IntKind.i64 t (15 : Int))).snd (99 : Int)).snd.fst = (dueA (dueA (dueA x.snd (bits BinOp.and IntKind.i64 t (15 : Int))).snd (bits BinOp.and IntKind.i64 t (15 : Int))).snd (99 : Int)).snd.fst) ∧ (([] ++ (dueA x.snd (bits BinOp.and IntKind.i64 t (15 : Int))).fst ++ (dueA (dueA (dueA x.snd (bits BinOp.and IntKind.i64 t (15 : Int))).snd (bits BinOp.and IntKind.i64 t (15 : Int))).snd (99 : Int)).fst = [] ++ (dueA x.snd (bits BinOp.and IntKind.i64 t (15 : Int))).fst ++ (dueA (dueA (dueA x.snd (bits BinOp.and IntKind.i64 t (15 : Int))).snd (bits BinOp.and IntKind.i64 t (15 : Int))).snd (99 : Int)).fst) ∧ True)))))))))))))) | false => (match (inb (↑x2 : Int) x.fst.length) with | true => (match (inb (↑x2 : Int) x.fst.length) with | true => (match (inb (↑x1 : Int) ([] ++ (dueA x.snd (bits BinOp.and IntKind.i64 t (15 : Int))).fst ++ (dueA (dueA (dueA x.snd (bits BinOp.and IntKind.i64 t (15 : Int))).snd (bits BinOp.and IntKind.i64 t (15 : Int))).snd (99 : Int)).fst).length) with | true => (match (inb (↑x1 : Int) ([] ++ (dueA x.snd (bits BinOp.and IntKind.i64 t (15 : Int))).fst ++ (dueA (dueA (dueA x.snd (bits BinOp.and IntKind.i64 t (15 : Int))).snd (bits BinOp.and IntKind.i64 t (15 : Int))).snd (99 : Int)).fst).length) with | true => (∃ x' : Nat, ((x'.le x.fst.length) ∧ (((60 : Nat) - x' < (60 : Nat) - x2) ∧ ((True ∧ ((t = t) ∧ ((true = true) ∧ (True ∧ (True ∧ ((bits BinOp.and IntKind.i64 t (15 : Int) = bits BinOp.and IntKind.i64 t (15 : Int)) ∧ (True ∧ (True ∧ (True ∧ (True ∧ (((↑x1 : Int) = (↑x1 : Int)) ∧ ((anyN x.fst (at' ez ([] ++ (dueA x.snd (bits BinOp.and IntKind.i64 t (15 : Int))).fst ++ (dueA (dueA (dueA x.snd (bits BinOp.and IntKind.i64 t (15 : Int))).snd (bits BinOp.and IntKind.i64 t (15 : Int))).snd (99 : Int)).fst) (↑x1 : Int)) x' = ((at' evE.zero x.fst (↑x2 : Int)).At == (at' evE.zero ([] ++ (dueA x.snd (bits BinOp.and IntKind.i64 t (15 : Int))).fst ++ (dueA (dueA (dueA x.snd (bits BinOp.and IntKind.i64 t (15 : Int))).snd (bits BinOp.and IntKind.i64 t (15 : Int))).snd (99 : Int)).fst) (↑x1 : Int)).At && ((at' evE.zero x.fst (↑x2 : Int)).ID == (at' evE.zero ([] ++ (dueA x.snd (bits BinOp.and IntKind.i64 t (15 : Int))).fst ++ (dueA (dueA (dueA x.snd (bits BinOp.and IntKind.i64 t (15 : Int))).snd (bits BinOp.and IntKind.i64 t (15 : Int))).snd (99 : Int)).fst) (↑x1 : Int)).ID && ((at' evE.zero x.fst (↑x2 : Int)).Kind == (at' evE.zero ([] ++ (dueA x.snd (bits BinOp.and IntKind.i64 t (15 : Int))).fst ++ (dueA (dueA (dueA x.snd (bits BinOp.and IntKind.i64 t (15 : Int))).snd (bits BinOp.and IntKind.i64 t (15 : Int))).snd (99 : Int)).fst) (↑x1 : Int)).Kind && true)))) ∧ (((↑x' : Int) = IntKind.i64.wrap ((↑x2 : Int) + (1 : Int))) ∧ True))))))))))))) ∧ ((l = l) ∧ ((True ∧ True) ∧ ((True ∧ (True ∧ (True ∧ True))) ∧ (((dueA (dueA (dueA x.snd (bits BinOp.and IntKind.i64 t (15 : Int))).snd (bits BinOp.and IntKind.i64 t (15 : Int))).snd (99 : Int)).snd.snd = (dueA (dueA (dueA x.snd (bits BinOp.and IntKind.i64 t (15 : Int))).snd (bits BinOp.and IntKind.i64 t (15 : Int))).snd (99 : Int)).snd.snd) ∧ ((x.fst = x.fst) ∧ (((dueA x.snd (bits BinOp.and IntKind.i64 t (15 : Int))).fst = (dueA x.snd (bits BinOp.and IntKind.i64 t (15 : Int))).fst) ∧ (((dueA (dueA x.snd (bits BinOp.and IntKind.i64 t (15 : Int))).snd (bits BinOp.and IntKind.i64 t (15 : Int))).fst = (dueA (dueA x.snd (bits BinOp.and IntKind.i64 t (15 : Int))).snd (bits BinOp.and IntKind.i64 t (15 : Int))).fst) ∧ (((dueA (dueA (dueA x.snd (bits BinOp.and IntKind.i64 t (15 : Int))).snd (bits BinOp.and IntKind.i64 t (15 : Int))).snd (99 : Int)).fst = (dueA (dueA (dueA x.snd (bits BinOp.and IntKind.i64 t (15 : Int))).snd (bits BinOp.and IntKind.i64 t (15 : Int))).snd (99 : Int)).fst) ∧ (((dueA (dueA (dueA x.snd (bits BinOp.and IntKind.i64 t (15 : Int))).snd (bits BinOp.and IntKind.i64 t (15 : Int))).snd (99 : Int)).snd.fst = (dueA (dueA (dueA x.snd (bits BinOp.and IntKind.i64 t (15 : Int))).snd (bits BinOp.and IntKind.i64 t (15 : Int))).snd (99 : Int)).snd.fst) ∧ (([] ++ (dueA x.snd (bits BinOp.and IntKind.i64 t (15 : Int))).fst ++ (dueA (dueA (dueA x.snd (bits BinOp.and IntKind.i64 t (15 : Int))).snd (bits BinOp.and IntKind.i64 t (15 : Int))).snd (99 : Int)).fst = [] ++ (dueA x.snd (bits BinOp.and IntKind.i64 t (15 : Int))).fst ++ (dueA (dueA (dueA x.snd (bits BinOp.and IntKind.i64 t (15 : Int))).snd (bits BinOp.and IntKind.i64 t (15 : Int))).snd (99 : Int)).fst) ∧ True)))))))))))))) | false => False) | false => False) | false => False) | false => False)) | false => (match (!anyN x.fst (at' ez ([] ++ (dueA x.snd (bits BinOp.and IntKind.i64 t (15 : Int))).fst ++ (dueA (dueA (dueA x.snd (bits BinOp.and IntKind.i64 t (15 : Int))).snd (bits BinOp.and IntKind.i64 t (15 : Int))).snd (99 : Int)).fst) (↑x1 : Int)) x2) with | true => (((true = false) ∧ True) ∧ ((l = l) ∧ True)) | false => (match (inb (↑x1 : Int) ([] ++ (dueA x.snd (bits BinOp.and IntKind.i64 t (15 : Int))).fst ++ (dueA (dueA (dueA x.snd (bits BinOp.and IntKind.i64 t (15 : Int))).snd (bits BinOp.and IntKind.i64 t (15 : Int))).snd (99 : Int)).fst).length) with | true => (match (inb (↑x1 : Int) ([] ++ (dueA x.snd (bits BinOp.and IntKind.i64 t (15 : Int))).fst ++ (dueA (dueA (dueA x.snd (bits BinOp.and IntKind.i64 t (15 : Int))).snd (bits BinOp.and IntKind.i64 t (15 : Int))).snd (99 : Int)).fst).length) with | true => (match (decide ((↑x1 : Int) < (↑(dueA x.snd (bits BinOp.and IntKind.i64 t (15 : Int))).fst.length : Int)) != decide ((at' evE.zero ([] ++ (dueA x.snd (bits BinOp.and IntKind.i64 t (15 : Int))).fst ++ (dueA (dueA (dueA x.snd (bits BinOp.and IntKind.i64 t (15 : Int))).snd (bits BinOp.and IntKind.i64 t (15 : Int))).snd (99 : Int)).fst) (↑x1 : Int)).At ≤ bits BinOp.and IntKind.i64 t (15 : Int))) with | true => (((true = false) ∧ True) ∧ ((l = l) ∧ True)) | false => (match (decide ((↑x1 : Int) > (0 : Int))) with | true => (match (inb (IntKind.i64.wrap ((↑x1 : Int) - (1 : Int))) ([] ++ (dueA x.snd (bits BinOp.and IntKind.i64 t (15 : Int))).fst ++ (dueA (dueA (dueA x.snd (bits BinOp.and IntKind.i64 t (15 : Int))).snd (bits BinOp.and IntKind.i64 t (15 : Int))).snd (99 : Int)).fst).length) with | true => (match (inb (IntKind.i64.wrap ((↑x1 : Int) - (1 : Int))) ([] ++ (dueA x.snd (bits BinOp.and IntKind.i64 t (15 : Int))).fst ++ (dueA (dueA (dueA x.snd (bits BinOp.and IntKind.i64 t (15 : Int))).snd (bits BinOp.and IntKind.i64 t (15 : Int))).snd (99 : Int)).fst).length) with | true => (match (inb (↑x1 : Int) ([] ++ (dueA x.snd (bits BinOp.and IntKind.i64 t (15 : Int))).fst ++ (dueA (dueA (dueA x.snd (bits BinOp.and IntKind.i64 t (15 : Int))).snd (bits BinOp.and IntKind.i64 t (15 : Int))).snd (99 : Int)).fst).length) with | true => (match (inb (↑x1 : Int) ([] ++ (dueA x.snd (bits BinOp.and IntKind.i64 t (15 : Int))).fst ++ (dueA (dueA (dueA x.snd (bits BinOp.and IntKind.i64 t (15 : Int))).snd (bits BinOp.and IntKind.i64 t (15 : Int))).snd (99 : Int)).fst).length) with | true => (match (decide ((at' evE.zero ([] ++ (dueA x.snd (bits BinOp.and IntKind.i64 t (15 : Int))).fst ++ (dueA (dueA (dueA x.snd (bits BinOp.and IntKind.i64 t (15 : Int))).snd (bits BinOp.and IntKind.i64 t (15 : Int))).snd (99 : Int)).fst) (IntKind.i64.wrap ((↑x1 : Int) - (1 : Int)))).At > (at' evE.zero ([] ++ (dueA x.snd (bits BinOp.and IntKind.i64 t (15 : Int))).fst ++ (dueA (dueA (dueA x.snd (bits BinOp.and IntKind.i64 t (15 : Int))).snd (bits BinOp.and IntKind.i64 t (15 : Int))).snd (99 : Int)).fst) (↑x1 : Int)).At)) with | true => (((true = false) ∧ True) ∧ ((l = l) ∧ True)) | false => (∃ x' : Nat, ((x'.le ([] ++ (dueA x.snd (bits BinOp.and IntKind.i64 t (15 : Int))).fst ++ (dueA (dueA (dueA x.snd (bits BinOp.and IntKind.i64 t (15 : Int))).snd (bits BinOp.and IntKind.i64 t (15 : Int))).snd (99 : Int)).fst).length) ∧ (((60 : Nat) - x' < (60 : Nat) - x1) ∧ ((True ∧ ((t = t) ∧ ((true = true) ∧ (True ∧ (True ∧ ((bits BinOp.and IntKind.i64 t (15 : Int) = bits BinOp.and IntKind.i64 t (15 : Int)) ∧ (True ∧ (True ∧ (True ∧ (True ∧ (((↑x' : Int) = IntKind.i64.wrap ((↑x1 : Int) + (1 : Int))) ∧ True))))))))))) ∧ ((l = l) ∧ ((True ∧ True) ∧ ((True ∧ (True ∧ (True ∧ True))) ∧ (((dueA (dueA (dueA x.snd (bits BinOp.and IntKind.i64 t (15 : Int))).snd (bits BinOp.and IntKind.i64 t (15 : Int))).snd (99 : Int)).snd.snd = (dueA (dueA (dueA x.snd (bits BinOp.and IntKind.i64 t (15 : Int))).snd (bits BinOp.and IntKind.i64 t (15 : Int))).snd (99 : Int)).snd.snd) ∧ ((x.fst = x.fst) ∧ (((dueA x.snd (bits BinOp.and IntKind.i64 t (15 : Int))).fst = (dueA x.snd (bits BinOp.and IntKind.i64 t (15 : Int))).fst) ∧ (((dueA (dueA x.snd (bits BinOp.and IntKind.i64 t (15 : Int))).snd (bits BinOp.and IntKind.i64 t (15 : Int))).fst = (dueA (dueA x.snd (bits BinOp.and IntKind.i64 t (15 : Int))).snd (bits BinOp.and IntKind.i64 t (15 : Int))).fst) ∧ (((dueA (dueA (dueA x.snd (bits BinOp.and IntKind.i64 t (15 : Int))).snd (bits BinOp.and IntKind.i64 t (15 : Int))).snd (99 : Int)).fst = (dueA (dueA (dueA x.snd (bits BinOp.and IntKind.i64 t (15 : Int))).snd (bits BinOp.and IntKind.i64 t (15 : Int))).snd (99 : Int)).fst) ∧ (((dueA (dueA (dueA x.snd (bits BinOp.and IntKind.i64 t (15 : Int))).snd (bits BinOp.and IntKind.i64 t (15 : Int))).snd (99 : Int)).snd.fst = (dueA (dueA (dueA x.snd (bits BinOp.and IntKind.i64 t (15 : Int))).snd (bits BinOp.and IntKind.i64 t (15 : Int))).snd (99 : Int)).snd.fst) ∧ (([] ++ (dueA x.snd (bits BinOp.and IntKind.i64 t (15 : Int))).fst ++ (dueA (dueA (dueA x.snd (bits BinOp.and IntKind.i64 t (15 : Int))).snd (bits BinOp.and IntKind.i64 t (15 : Int))).snd (99 : Int)).fst = [] ++ (dueA x.snd (bits BinOp.and IntKind.i64 t (15 : Int))).fst ++ (dueA (dueA (dueA x.snd (bits BinOp.and IntKind.i64 t (15 : Int))).snd (bits BinOp.and IntKind.i64 t (15 : Int))).snd (99 : Int)).fst) ∧ True))))))))))))))) | false => False) | false => False) | false => False) | false => False) | false => (∃ x' : Nat, ((x'.le ([] ++ (dueA x.snd (bits BinOp.and IntKind.i64 t (15 : Int))).fst ++ (dueA (dueA (dueA x.snd (bits BinOp.and IntKind.i64 t (15 : Int))).snd (bits BinOp.and IntKind.i64 t (15 : Int))).snd (99 : Int)).fst).length) ∧ (((60 : Nat) - x' < (60 : Nat) - x1) ∧ ((True ∧ ((t = t) ∧ ((true = true) ∧ (True ∧ (True ∧ ((bits BinOp.and IntKind.i64 t (15 : Int) = bits BinOp.and IntKind.i64 t (15 : Int)) ∧ (True ∧ (True ∧ (True ∧ (True ∧ (((↑x' : Int) = IntKind.i64.wrap ((↑x1 : Int) + (1 : Int))) ∧ True))))))))))) ∧ ((l = l) ∧ ((True ∧ True) ∧ ((True ∧ (True ∧ (True ∧ True))) ∧ (((dueA (dueA (dueA x.snd (bits BinOp.and IntKind.i64 t (15 : Int))).snd (bits BinOp.and IntKind.i64 t (15 : Int))).snd (99 : Int)).snd.snd = (dueA (dueA (dueA x.snd (bits BinOp.and IntKind.i64 t (15 : Int))).snd (bits BinOp.and IntKind.i64 t (15 : Int))).snd (99 : Int)).snd.snd) ∧ ((x.fst = x.fst) ∧ (((dueA x.snd (bits BinOp.and IntKind.i64 t (15 : Int))).fst = (dueA x.snd (bits BinOp.and IntKind.i64 t (15 : Int))).fst) ∧ (((dueA (dueA x.snd (bits BinOp.and IntKind.i64 t (15 : Int))).snd (bits BinOp.and IntKind.i64 t (15 : Int))).fst = (dueA (dueA x.snd (bits BinOp.and IntKind.i64 t (15 : Int))).snd (bits BinOp.and IntKind.i64 t (15 : Int))).fst) ∧ (((dueA (dueA (dueA x.snd (bits BinOp.and IntKind.i64 t (15 : Int))).snd (bits BinOp.and IntKind.i64 t (15 : Int))).snd (99 : Int)).fst = (dueA (dueA (dueA x.snd (bits BinOp.and IntKind.i64 t (15 : Int))).snd (bits BinOp.and IntKind.i64 t (15 : Int))).snd (99 : Int)).fst) ∧ (((dueA (dueA (dueA x.snd (bits BinOp.and IntKind.i64 t (15 : Int))).snd (bits BinOp.and IntKind.i64 t (15 : Int))).snd (99 : Int)).snd.fst = (dueA (dueA (dueA x.snd (bits BinOp.and IntKind.i64 t (15 : Int))).snd (bits BinOp.and IntKind.i64 t (15 : Int))).snd (99 : Int)).snd.fst) ∧ (([] ++ (dueA x.snd (bits BinOp.and IntKind.i64 t (15 : Int))).fst ++ (dueA (dueA (dueA x.snd (bits BinOp.and IntKind.i64 t (15 : Int))).snd (bits BinOp.and IntKind.i64 t (15 : Int))).snd (99 : Int)).fst = [] ++ (dueA x.snd (bits BinOp.and IntKind.i64 t (15 : Int))).fst ++ (dueA (dueA (dueA x.snd (bits BinOp.and IntKind.i64 t (15 : Int))).snd (bits BinOp.and IntKind.i64 t (15 : Int))).snd (99 : Int)).fst) ∧ True)))))))))))))))) | false => False) | false => False)))))) | false => (((true = true) ∧ True) ∧ ((l = l) ∧ True)))))) | false => False) | false => False)))) | false => False) | false => False) | false => False))))
theorem law08CalendarDueVc (l : List Ev) (t : Int) : fnX X13 ({ (annOf (T := T) (O := O) [(7, { σ := Nat × List Ev × HS, st := fun S x => (atP (atP (((S.keep [0, 1, 5, 6]).int 8 x.1)) 6 [0, 1] (.vec 2 (x.2.2).1 74)) 6 [0, 2] (.map 0 (x.2.2).2)).new 7 (.vec 3 x.2.1 27), inv := fun _ x => x.1 ≤ l.length ∧ x.1 ≤ 30 ∧ PutOk x.1 x.2.1 x.2.2, m := fun x => 30 - x.1 }),
  (21, { σ := Nat, st := fun S x => (S.keep [0, 1, 5, 6, 7, 11, 12, 13, 14, 15]).int 16 x, inv := fun S x => x ≤ (S.gv 15 3).length, m := fun x => 60 - x }),
  (25, { σ := Nat, st := fun S x => ((S.keep [0, 1, 5, 6, 7, 11, 12, 13, 14, 15, 16]).int 18 x).bool 17 (anyN (S.gv 7 3) (at' ez (S.gv 15 3) (S.gi 16)) x), inv := fun S x => x ≤ (S.gv 7 3).length, m := fun x => 60 - x })] [] : Ann T O) with join := fun i => match decide (i = 13) with
    | true => some { σ := List Ev × HS, st := fun S x => (atP (atP ((S.keep [0, 1, 5, 6])) 6 [0, 1] (.vec 2 (x.2).1 74)) 6 [0, 2] (.map 0 (x.2).2)).new 7 (.vec 3 x.1 27), inv := fun x => PutOk 30 x.1 x.2 }
    | false => none }) Try.f3 [.own 0, .raw (.int .i64 t)] [.ro 3 l] (ends [.ro 3 l] ⟨some (.raw (.bool true)), []⟩) = law08CalendarDueText l t := by kernel_rfl
theorem law08CalendarDueHolds (l : List Ev) (t : Int) : law08CalendarDueText l t := by
  unfold law08CalendarDueText
  refine ⟨⟨⟨(0, [], noThings, noPlaces), ⟨Nat.zero_le _, Nat.zero_le _, PutOk.start⟩, by repeat' first | trivial | rfl | apply And.intro⟩, ?_⟩, ?_⟩
  · rintro ⟨i, P, L1, M1⟩ ⟨h1, h2, h3⟩
    dsimp only at h1 h2 h3 ⊢
    have hs := h3.size
    have hlen := h3.len
    dsimp only at hs
    by_cases c1 : i < l.length
    · rw [dec_lt c1]
      by_cases c2 : i < 30
      · have hw : ((i + 1 : Nat) : Int) = IntKind.i64.wrap ((i : Int) + (1 : Int)) := by rw [wrap_id (by omega) (by omega)]; rfl
        rw [show decide ((i : Int) < 30) = true from decide_eq_true (by omega), inb_nat c1, evC0, evC1, evC2]
        rw [show decide (L1.length ≤ 1000) = true from decide_eq_true (by omega)]
        have hn := nearE_near (at' evE.zero l (i : Int))
        have hr : calendarRight ((at' evE.zero l (i : Int)).ID % 8) ((at' evE.zero l (i : Int)).Kind % 4) = true := right_near hn
        rw [hr, show decide (0 ≤ (at' evE.zero l (i : Int)).At % 16) = true from decide_eq_true hn.1]
        cases ht : thereB (calendarNumber ((at' evE.zero l (i : Int)).ID % 8) ((at' evE.zero l (i : Int)).Kind % 4)) M1
        · rw [show roomy (P.length + 1) 24 = true by simp [roomy]; omega]
          refine ⟨(i + 1, P ++ [nearE (at' evE.zero l (i : Int))], pushH (L1, M1) _ (nearE (at' evE.zero l (i : Int)))), ⟨by dsimp only; omega, by dsimp only; omega, h3.add hn ht⟩, by dsimp only; omega, ?_⟩
          repeat' first | exact hw | trivial | rfl | apply And.intro
        · refine ⟨(i + 1, P, L1, M1), ⟨by dsimp only; omega, by dsimp only; omega, h3.skip⟩, by dsimp only; omega, ?_⟩
          repeat' first | exact hw | trivial | rfl | apply And.intro
      · rw [show decide ((i : Int) < 30) = false from decide_eq_false (by omega)]
        exact ⟨(P, (L1, M1)), ⟨h3.ok, h3.near, by dsimp only; omega⟩, by repeat' first | trivial | rfl | apply And.intro⟩
    · rw [dec_ge (by omega)]
      exact ⟨(P, (L1, M1)), ⟨h3.ok, h3.near, by dsimp only; omega⟩, by repeat' first | trivial | rfl | apply And.intro⟩
  rintro ⟨P, L1, M1⟩ h3
  dsimp only at h3 ⊢
  have hs := h3.size
  have hlen := h3.len
  dsimp only at hs
  generalize e1 : dueA (L1, M1) (bits BinOp.and IntKind.i64 t 15) = d1
  generalize e2 : dueA d1.2 (bits BinOp.and IntKind.i64 t 15) = d2
  generalize e3 : dueA d2.2 99 = d3
  obtain ⟨a1, s1⟩ := d1
  obtain ⟨a2, s2⟩ := d2
  obtain ⟨a3, s3⟩ := d3
  dsimp only at e2 e3 ⊢
  obtain ⟨rfl, r2, r3, r4, r5, r6, r7, r8, r9⟩ := due_twice h3 _ a3 s1 s2 s3 a1 a2 e1 e2 e3
  rw [show decide (L1.length ≤ 1000) = true from decide_eq_true (by omega), show decide (s1.1.length ≤ 1000) = true from decide_eq_true (by omega), show decide (s2.1.length ≤ 1000) = true from decide_eq_true (by omega)]
  rw [show (IntKind.i64.wrap ((a1.length : Int) + (a3.length : Int)) != (P.length : Int)) = false by rw [wrap_id (by omega) (by omega)]; simp; omega]
  rw [show (((([] : List Ev).length : Nat) : Int) != 0) = false from rfl, show ((s3.1.length : Int) != 0) = false by rw [r2]; rfl]
  have e0 : ([] : List (T 3).α) ++ a1 = a1 := rfl
  rw [e0, show roomy (0 + a1.length) 24 = true by simp [roomy]; omega, show roomy (a1.length + a3.length) 24 = true by simp [roomy]; omega]
  have hal : (a1 ++ a3).length = P.length := by rw [List.length_append, r3]
  have hx1 : ∀ x (h : x < (a1 ++ a3).length), (decide ((x : Int) < (a1.length : Int)) != decide ((a1 ++ a3)[x].At ≤ bits BinOp.and IntKind.i64 t 15)) = false := by
    intro x h
    by_cases hx : x < a1.length
    · rw [show decide ((x : Int) < (a1.length : Int)) = true from decide_eq_true (by omega), List.getElem_append_left hx, decide_eq_true (r5 _ (List.getElem_mem hx))]
      rfl
    · have := r6 _ (List.getElem_mem (show x - a1.length < a3.length by rw [List.length_append] at h; omega))
      rw [show decide ((x : Int) < (a1.length : Int)) = false from decide_eq_false (by omega), List.getElem_append_right (by omega), decide_eq_false (by omega)]
      rfl
  generalize a1 ++ a3 = all at *
  refine ⟨⟨0, Nat.zero_le _, by repeat' first | trivial | rfl | apply And.intro⟩, ?_⟩
  intro x (hx : x ≤ all.length)
  by_cases c : x < all.length
  · rw [dec_lt c]
    refine ⟨⟨0, Nat.zero_le _, by repeat' first | trivial | rfl | apply And.intro⟩, ?_⟩
    intro y (hy : y ≤ P.length)
    by_cases c2 : y < P.length
    · have hw : ((y + 1 : Nat) : Int) = IntKind.i64.wrap ((y : Int) + (1 : Int)) := by rw [wrap_id (by omega) (by omega)]; rfl
      rw [dec_lt c2]
      have hs2 := anyN_succ (e := at' ez all (x : Int)) c2
      cases ha : anyN P (at' ez all (x : Int)) y
      · rw [inb_nat c2, inb_nat c]
        rw [ha, Bool.false_or] at hs2
        refine ⟨y + 1, c2, by omega, ?_⟩
        repeat' first | exact hw | exact hs2 | trivial | rfl | apply And.intro
      · rw [ha, Bool.true_or] at hs2
        refine ⟨y + 1, c2, by omega, ?_⟩
        repeat' first | exact hw | exact hs2 | trivial | rfl | apply And.intro
    · have e : y = P.length := by omega
      subst e
      have hat : at' ez all (x : Int) = all[x] := at_nat c
      have hw : ((x + 1 : Nat) : Int) = IntKind.i64.wrap ((x : Int) + (1 : Int)) := by rw [wrap_id (by omega) (by omega)]; rfl
      rw [dec_ge (Nat.le_refl _), hat, anyN_all (r4 _ (List.getElem_mem c)), inb_nat c, hx1 x c]
      by_cases h0 : 0 < x
      · have hat2 : at' ez all ((x - 1 : Nat) : Int) = all[x - 1] := at_nat (by omega)
        rw [show decide ((x : Int) > 0) = true from decide_eq_true (by omega), show IntKind.i64.wrap ((x : Int) - 1) = ((x - 1 : Nat) : Int) by rw [wrap_id (by omega) (by omega)]; omega, inb_nat (show x - 1 < all.length by omega), hat2]
        have := List.pairwise_iff_getElem.1 r7 (x - 1) x (by omega) c (by omega)
        rw [show decide (all[x - 1].At > all[x].At) = false from decide_eq_false (by omega)]
        refine ⟨x + 1, c, by omega, ?_⟩
        repeat' first | exact hw | trivial | rfl | apply And.intro
      · rw [show decide ((x : Int) > 0) = false from decide_eq_false (by omega)]
        refine ⟨x + 1, c, by omega, ?_⟩
        repeat' first | exact hw | trivial | rfl | apply And.intro
  · rw [dec_ge (by omega)]
    repeat' first | trivial | rfl | apply And.intro
noncomputable def law08CalendarDueCon : Con T O := fun args cs => match args, cs with
  | [.own 0, .raw (.int .i64 _)], [.ro 3 _] => .ret ⟨some (.raw (.bool true)), []⟩
  | _, _ => .fail
theorem law08CalendarDueOk : ConOk R Try.prog 3 law08CalendarDueCon := con_of_fn R (X13) (TabOk.con R X13Ok) mixed Try.call3 Try.func3 law08CalendarDueCon (by
  intro args cs K h
  unfold law08CalendarDueCon at h
  split at h
  · rename_i t l
    refine ⟨{ (annOf (T := T) (O := O) [(7, { σ := Nat × List Ev × HS, st := fun S x => (atP (atP (((S.keep [0, 1, 5, 6]).int 8 x.1)) 6 [0, 1] (.vec 2 (x.2.2).1 74)) 6 [0, 2] (.map 0 (x.2.2).2)).new 7 (.vec 3 x.2.1 27), inv := fun _ x => x.1 ≤ l.length ∧ x.1 ≤ 30 ∧ PutOk x.1 x.2.1 x.2.2, m := fun x => 30 - x.1 }),
  (21, { σ := Nat, st := fun S x => (S.keep [0, 1, 5, 6, 7, 11, 12, 13, 14, 15]).int 16 x, inv := fun S x => x ≤ (S.gv 15 3).length, m := fun x => 60 - x }),
  (25, { σ := Nat, st := fun S x => ((S.keep [0, 1, 5, 6, 7, 11, 12, 13, 14, 15, 16]).int 18 x).bool 17 (anyN (S.gv 7 3) (at' ez (S.gv 15 3) (S.gi 16)) x), inv := fun S x => x ≤ (S.gv 7 3).length, m := fun x => 60 - x })] [] : Ann T O) with join := fun i => match decide (i = 13) with
    | true => some { σ := List Ev × HS, st := fun S x => (atP (atP ((S.keep [0, 1, 5, 6])) 6 [0, 1] (.vec 2 (x.2).1 74)) 6 [0, 2] (.map 0 (x.2).2)).new 7 (.vec 3 x.1 27), inv := fun x => PutOk 30 x.1 x.2 }
    | false => none }, _, fun v S hv => ⟨_, h, hv⟩, ?_⟩
    rw [law08CalendarDueVc l t]
    exact law08CalendarDueHolds l t
  · exact h.elim)
noncomputable def tab14 : Tab T O := (3, law08CalendarDueCon) :: tab13
theorem tabOk14 : TabOk R Try.prog tab14 := TabOk.cons R law08CalendarDueOk <| tabOk13
noncomputable def X14 : Ctx T O := { X0 with con := conOf tab14 }
theorem X14Ok : TabOk R X14.P tab14 := tabOk14
end Go.Proofs.Ythihpebdcamilaa
