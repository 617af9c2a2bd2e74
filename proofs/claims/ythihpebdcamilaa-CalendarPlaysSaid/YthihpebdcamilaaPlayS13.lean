/-
  Part of a proof over the seat Ythihpebdcamilaa: printed by a small program or typed by hand.
-/
import Derived.Test.YthihpebdcamilaaPlayS12
import Derived.KernelRfl
namespace Go.Proofs.Ythihpebdcamilaa
open Go.Sx Go.Proofs Classical
theorem HOk.perm' {s : HS} {C D : List Thing} (h : HOk s C) (p : C.Perm D) : HOk s D := ⟨h.heap, h.map, h.perm.trans p⟩
theorem dueA_nil {s : HS} {t : Int} (h : s.1.length = 0) : dueA s t = ([], s) := by unfold dueA; rw [h]; rfl
theorem dueA_stop {s : HS} {t : Int} (ha : (at' tz s.1 0).XAt > t) : dueA s t = ([], s) := by
  unfold dueA
  cases hn : s.1.length with
  | zero => rfl
  | succ n =>
    simp only [dueN]
    rw [hn, decide_eq_true ha, Bool.or_true]
    rfl
theorem dueA_go {s : HS} {t : Int} {n : Nat} (hn : s.1.length = n + 1) (ha : ¬ (at' tz s.1 0).XAt > t) : dueA s t = ((at' tz s.1 0).X :: (dueA (takeH s 0) t).1, (dueA (takeH s 0) t).2) := by
  have hl : (takeH s 0).1.length = n := by rw [takeH_length]; omega
  unfold dueA
  rw [hn, hl]
  simp only [dueN]
  rw [hn, decide_eq_false ha, show (n + 1 == 0) = false from beq_eq_false_iff_ne.2 (by omega)]
  rfl
theorem due_ok (t : Int) : ∀ (n : Nat) (s : HS) (C : List Thing), s.1.length = n → HOk s C → ∃ A C', HOk (dueA s t).2 C' ∧ C.Perm (A ++ C') ∧ (dueA s t).1 = A.map (·.X) ∧ (∀ c ∈ A, c.XAt ≤ t) ∧ (∀ c ∈ C', t < c.XAt) ∧ A.Pairwise le'
  | 0, s, C, hn, h => by
    rw [dueA_nil hn]
    have hc : C = [] := List.length_eq_zero_iff.1 (by rw [← h.len]; exact hn)
    subst hc
    exact ⟨[], [], h, List.Perm.refl _, rfl, fun c hc => (by cases hc), fun c hc => (by cases hc), List.Pairwise.nil⟩
  | n + 1, s, C, hn, h => by
    obtain ⟨m1, m2⟩ := h.min (by omega)
    by_cases ha : (at' tz s.1 0).XAt > t
    · rw [dueA_stop ha]
      refine ⟨[], C, h, List.Perm.refl _, rfl, fun c hc => (by cases hc), fun c hc => ?_, List.Pairwise.nil⟩
      have e : (at' tz s.1 (0 : Int)) = gN s.1 0 := rfl
      have := m2 c hc
      unfold le' at this
      rw [e] at ha
      omega
    · rw [dueA_go hn ha]
      obtain ⟨C1, p1, h1⟩ := h.take (i := 0) (by omega)
      obtain ⟨A, C', k1, k2, k3, k4, k5, k6⟩ := due_ok t n (takeH s 0) C1 (by rw [takeH_length]; omega) h1
      have e : (at' tz s.1 (0 : Int)) = gN s.1 0 := rfl
      refine ⟨gN s.1 0 :: A, C', k1, p1.trans (List.Perm.cons _ k2), by rw [List.map_cons, k3, e], fun c hc => ?_, k5, List.Pairwise.cons (fun a hA => m2 a (p1.mem_iff.2 (List.mem_cons_of_mem _ (k2.mem_iff.2 (List.mem_append_left _ hA))))) k6⟩
      rcases List.mem_cons.1 hc with rfl | hc
      · rw [e] at ha; omega
      · exact k4 c hc
def Near (e : Ev) : Prop := 0 ≤ e.At ∧ e.At < 16 ∧ 0 ≤ e.ID ∧ e.ID < 8 ∧ 0 ≤ e.Kind ∧ e.Kind < 4
def tE (e : Ev) : Thing := thing (calendarNumber e.ID e.Kind) e
theorem tE_X (e : Ev) : (tE e).X = e := rfl
def nearE (e : Ev) : Ev := ⟨e.At % 16, e.ID % 8, e.Kind % 4⟩
theorem nearE_near (e : Ev) : Near (nearE e) := by
  have a1 := Int.emod_nonneg e.At (b := 16) (by omega)
  have a2 := Int.emod_nonneg e.ID (b := 8) (by omega)
  have a3 := Int.emod_nonneg e.Kind (b := 4) (by omega)
  have b1 := Int.emod_lt_of_pos e.At (b := 16) (by omega)
  have b2 := Int.emod_lt_of_pos e.ID (b := 8) (by omega)
  have b3 := Int.emod_lt_of_pos e.Kind (b := 4) (by omega)
  exact ⟨a1, b1, a2, b2, a3, b3⟩
theorem number_near {i k : Int} (h1 : 0 ≤ i) (h2 : i < 1024) (h3 : 0 ≤ k) (h4 : k < 8) : calendarNumber i k = i * 8 + k := by
  unfold calendarNumber
  rw [wrap_id (n := i * 8) (by omega) (by omega), wrap_id (by omega) (by omega)]
theorem right_near {e : Ev} (h : Near e) : calendarRight e.ID e.Kind = true := by
  unfold Near at h
  rw [right_iff]
  exact decide_eq_true (by omega)
theorem evC0 (k a i d : Int) : law08OpEventC0 ⟨k, true, a, i, d⟩ = a % 16 := mask_nat 4 (by omega) a
theorem evC1 (k a i d : Int) : law08OpEventC1 ⟨k, true, a, i, d⟩ = i % 8 := mask_nat 3 (by omega) i
theorem evC2 (k a i d : Int) : law08OpEventC2 ⟨k, true, a, i, d⟩ = d % 4 := mask_nat 2 (by omega) d
structure PutOk (i : Nat) (P : List Ev) (s : HS) : Prop where
  ok : HOk s (P.map tE)
  near : ∀ e ∈ P, Near e
  len : P.length ≤ i
theorem PutOk.start : PutOk 0 [] (noThings, noPlaces) := ⟨HOk.new, fun e h => (by cases h), Nat.le_refl _⟩
theorem PutOk.skip {i : Nat} {P : List Ev} {s : HS} (h : PutOk i P s) : PutOk (i + 1) P s := ⟨h.ok, h.near, by have := h.len; omega⟩
theorem PutOk.size {i : Nat} {P : List Ev} {s : HS} (h : PutOk i P s) : s.1.length = P.length := by rw [h.ok.len, List.length_map]
theorem PutOk.add {i : Nat} {P : List Ev} {s : HS} (h : PutOk i P s) {e : Ev} (hn : Near e) (ht : thereB (calendarNumber e.ID e.Kind) s.2 = false) : PutOk (i + 1) (P ++ [e]) (pushH s (calendarNumber e.ID e.Kind) e) := by
  refine ⟨?_, fun a ha => ?_, by have := h.len; simp; omega⟩
  · have := h.ok.push (x := e) ht
    refine this.perm' ?_
    rw [List.map_append]
    exact (List.perm_append_singleton _ _).symm
  · rcases List.mem_append.1 ha with ha | ha
    · exact h.near a ha
    · rw [List.mem_singleton] at ha
      subst ha
      exact hn
abbrev ez : Ev := evE.zero
def evEq (a b : Ev) : Bool := a.At == b.At && (a.ID == b.ID && (a.Kind == b.Kind && true))
theorem evEq_iff (a b : Ev) : evEq a b = true ↔ a = b := by
  cases a; cases b
  simp [evEq]
theorem evEq_refl (a : Ev) : evEq a a = true := (evEq_iff a a).2 rfl
def anyN (P : List Ev) (e : Ev) (n : Nat) : Bool := (P.take n).any (fun a => evEq a e)
theorem anyN_succ {P : List Ev} {e : Ev} {n : Nat} (h : n < P.length) : anyN P e (n + 1) = (anyN P e n || evEq (at' ez P (n : Int)) e) := by
  unfold anyN
  rw [at_nat h, List.take_add_one, List.any_append, List.getElem?_eq_getElem h]
  simp
theorem anyN_all {P : List Ev} {e : Ev} (h : e ∈ P) : anyN P e P.length = true := by
  unfold anyN
  rw [List.take_length]
  exact List.any_eq_true.2 ⟨e, h, evEq_refl e⟩
/-- what CalendarDue finds -/
theorem due_twice {s : HS} {P : List Ev} {i : Nat} (h : PutOk i P s) (t : Int) (a3 : List Ev) (s1 s2 s3 : HS) (a1 a2 : List Ev) (e1 : dueA s t = (a1, s1)) (e2 : dueA s1 t = (a2, s2)) (e3 : dueA s2 99 = (a3, s3)) :
    a2 = [] ∧ s3.1.length = 0 ∧ a1.length + a3.length = P.length ∧ (∀ e ∈ a1 ++ a3, e ∈ P) ∧ (∀ e ∈ a1, e.At ≤ t) ∧ (∀ e ∈ a3, t < e.At) ∧ (a1 ++ a3).Pairwise (fun a b => a.At ≤ b.At) ∧ s1.1.length ≤ P.length ∧ s2.1.length ≤ P.length := by
  obtain ⟨A, C1, k1, k2, k3, k4, k5, k6⟩ := due_ok t _ s _ rfl h.ok
  rw [e1] at k1 k3
  dsimp only at k1 k3
  obtain ⟨B, C2, l1, l2, l3, l4, l5, l6⟩ := due_ok t _ s1 _ rfl k1
  rw [e2] at l1 l3
  dsimp only at l1 l3
  have hB : B = [] := by
    cases B with
    | nil => rfl
    | cons b B =>
      have := l4 b (by simp)
      have := k5 b (l2.mem_iff.2 (by simp))
      omega
  subst hB
  rw [List.nil_append] at l2
  obtain ⟨D, C3, m1, m2, m3, m4, m5, m6⟩ := due_ok 99 _ s2 _ rfl l1
  rw [e3] at m1 m3
  dsimp only at m1 m3
  have all : ∀ c ∈ A ++ D, ∃ e ∈ P, c = tE e := by
    intro c hc
    have : c ∈ P.map tE := by
      rw [k2.mem_iff, List.mem_append]
      rcases List.mem_append.1 hc with hc | hc
      · exact .inl hc
      · exact .inr (l2.mem_iff.2 (m2.mem_iff.2 (List.mem_append_left _ hc)))
    obtain ⟨e, he, rfl⟩ := List.mem_map.1 this
    exact ⟨e, he, rfl⟩
  have hC3 : C3 = [] := by
    cases C3 with
    | nil => rfl
    | cons b B =>
      have a := m5 b (by simp)
      have : b ∈ P.map tE := by
        rw [k2.mem_iff, List.mem_append]
        exact .inr (l2.mem_iff.2 (m2.mem_iff.2 (by simp)))
      obtain ⟨e, he, rfl⟩ := List.mem_map.1 this
      have := h.near e he
      unfold Near at this
      have : (tE e).XAt = e.At := rfl
      omega
  subst hC3
  have hlen : P.length = A.length + D.length := by
    have a1 := k2.length_eq
    have a2 := l2.length_eq
    have a3 := m2.length_eq
    rw [List.length_map, List.length_append] at a1
    rw [List.append_nil] at a3
    omega
  have x1 := k1.len
  have x2 := l1.len
  have x3 := l2.length_eq
  have x4 := m2.length_eq
  rw [List.append_nil] at x4
  refine ⟨by rw [l3]; rfl, by rw [m1.len]; rfl, by rw [k3, m3, List.length_map, List.length_map, hlen], ?_, ?_, ?_, ?_, by omega, by omega⟩
  · intro e he
    rw [k3, m3, ← List.map_append] at he
    obtain ⟨c, hc, rfl⟩ := List.mem_map.1 he
    obtain ⟨e, he2, rfl⟩ := all c hc
    exact he2
  · intro e he
    rw [k3] at he
    obtain ⟨c, hc, rfl⟩ := List.mem_map.1 he
    exact k4 c hc
  · intro e he
    rw [m3] at he
    obtain ⟨c, hc, rfl⟩ := List.mem_map.1 he
    exact k5 c (l2.mem_iff.2 (m2.mem_iff.2 (by simpa using hc)))
  · rw [k3, m3, ← List.map_append, List.pairwise_map, List.pairwise_append]
    have weak : ∀ a b : Thing, le' a b → a.X.At ≤ b.X.At := by
      intro a b hab
      unfold le' at hab
      show a.XAt ≤ b.XAt
      omega
    refine ⟨k6.imp (weak _ _), m6.imp (weak _ _), fun a ha b hb => ?_⟩
    have h1 := k4 a ha
    have h2 := k5 b (l2.mem_iff.2 (m2.mem_iff.2 (by simpa using hb)))
    show a.XAt ≤ b.XAt
    omega

theorem HOk.nodup {s : HS} {C : List Thing} (h : HOk s C) : C.Nodup := by
  refine h.perm.nodup_iff.1 ?_
  rw [List.nodup_iff_pairwise_ne, List.pairwise_iff_getElem]
  intro i j hi hj hij e
  have := h.map.inj hi hj (by rw [gN_at hi, gN_at hj, e])
  omega
theorem HOk.take' {s : HS} {C : List Thing} (h : HOk s C) {i : Nat} (hi : i < s.1.length) : ∃ C', HOk (takeH s i) C' ∧ (∀ a, a ∈ C' ↔ a ∈ C ∧ a.Id ≠ (gN s.1 i).Id) ∧ C.length = C'.length + 1 := by
  obtain ⟨C', hp, hk⟩ := h.take hi
  have hnd := hp.nodup_iff.1 h.nodup
  rw [List.nodup_cons] at hnd
  have hg : gN s.1 i ∈ C := hp.mem_iff.2 (by simp)
  refine ⟨C', hk, fun a => ⟨fun ha => ?_, fun ⟨ha, hne⟩ => ?_⟩, hp.length_eq⟩
  · have ha2 : a ∈ C := hp.mem_iff.2 (by simp [ha])
    refine ⟨ha2, fun e => ?_⟩
    have := h.one ha2 hg e
    subst this
    exact hnd.1 ha
  · have := hp.mem_iff.1 ha
    rw [List.mem_cons] at this
    rcases this with e | h2
    · exact absurd (by rw [e]) hne
    · exact h2
theorem due_all {s : HS} {P : List Ev} {i : Nat} (h : PutOk i P s) : (dueA s 99).1.Perm P ∧ (dueA s 99).2.1.length = 0 := by
  obtain ⟨A, C1, k1, k2, k3, k4, k5, k6⟩ := due_ok 99 _ s _ rfl h.ok
  have hC : C1 = [] := by
    cases C1 with
    | nil => rfl
    | cons b B =>
      have a := k5 b (by simp)
      have : b ∈ P.map tE := k2.mem_iff.2 (by simp)
      obtain ⟨e, he, rfl⟩ := List.mem_map.1 this
      have := h.near e he
      unfold Near at this
      have : (tE e).XAt = e.At := rfl
      omega
  subst hC
  rw [List.append_nil] at k2
  refine ⟨?_, by rw [k1.len]; rfl⟩
  rw [k3]
  have := (k2.map (·.X)).symm
  rw [List.map_map] at this
  have e : ((fun x : Thing => x.X) ∘ tE) = id := rfl
  rwa [e, List.map_id] at this
def key (e b : Ev) : Bool := b.ID == e.ID && b.Kind == e.Kind
theorem key_iff (e b : Ev) : key e b = true ↔ b.ID = e.ID ∧ b.Kind = e.Kind := by simp [key]
theorem key_id {e b : Ev} (h1 : Near e) (h2 : Near b) : (tE b).Id = calendarNumber e.ID e.Kind ↔ key e b = true := by
  have e1 : (tE b).Id = calendarNumber b.ID b.Kind := rfl
  unfold Near at *
  rw [e1, number_near (by omega) (by omega) (by omega) (by omega), number_near (by omega) (by omega) (by omega) (by omega), key_iff]
  omega
structure NearH (s : HS) : Prop where
  ex : ∃ P, PutOk 30 P s
structure GoneH (e : Ev) (s : HS) : Prop where
  ex : ∃ P, PutOk 30 P s ∧ ∀ p ∈ P, key e p = false
structure OneH (e : Ev) (s : HS) : Prop where
  ex : ∃ P, PutOk 31 P s ∧ P.countP (key e) = 1
theorem PutOk.there {i : Nat} {P : List Ev} {s : HS} (h : PutOk i P s) {e : Ev} (he : Near e) : thereB (calendarNumber e.ID e.Kind) s.2 = true ↔ ∃ p ∈ P, key e p = true := by
  rw [h.ok.there]
  constructor
  · rintro ⟨a, ha, e1⟩
    obtain ⟨p, hp, rfl⟩ := List.mem_map.1 ha
    exact ⟨p, hp, (key_id he (h.near p hp)).1 e1⟩
  · rintro ⟨p, hp, e1⟩
    exact ⟨tE p, List.mem_map_of_mem hp, (key_id he (h.near p hp)).2 e1⟩
/-- what is at its place; the rest -/
theorem PutOk.out {i : Nat} {P : List Ev} {s : HS} (h : PutOk i P s) {e : Ev} (he : Near e) (ht : thereB (calendarNumber e.ID e.Kind) s.2 = true) :
    ∃ (w : Nat) (p : Ev) (P' : List Ev), whereI (calendarNumber e.ID e.Kind) s.2 = (w : Int) ∧ w < s.1.length ∧ at' tz s.1 (w : Int) = tE p ∧ key e p = true ∧ P.Perm (p :: P') ∧ PutOk i P' (takeH s w) ∧ ∀ q ∈ P', key e q = false := by
  obtain ⟨w, hw, e1, e2, e3⟩ := h.ok.where ht
  obtain ⟨p, hp, e4⟩ := List.mem_map.1 e3
  have hk : key e p = true := (key_id he (h.near p hp)).1 (by rw [e4]; exact e2)
  obtain ⟨C', k1, k2⟩ := h.ok.take hw
  have hpp : P.Perm (p :: P.erase p) := List.perm_cons_erase hp
  have hC : C'.Perm ((P.erase p).map tE) := by
    have := k1.symm.trans (hpp.map tE)
    rw [List.map_cons, e4] at this
    exact this.cons_inv
  have h2 : PutOk i (P.erase p) (takeH s w) := ⟨k2.perm' hC, fun q hq => h.near q (List.mem_of_mem_erase hq), by have := h.len; have := List.length_erase_of_mem hp; omega⟩
  refine ⟨w, p, P.erase p, e1, hw, e4.symm, hk, hpp, h2, fun q hq => ?_⟩
  cases hq2 : key e q
  · rfl
  · exfalso
    have n1 := (h.ok.perm' (hpp.map tE)).nodup
    rw [List.map_cons, List.nodup_cons] at n1
    apply n1.1
    have i1 := (key_id he (h.near p hp)).2 hk
    have i2 := (key_id he (h2.near q hq)).2 hq2
    have := h.ok.one (List.mem_map_of_mem hp) (List.mem_map_of_mem (List.mem_of_mem_erase hq)) (i1.trans i2.symm)
    rw [this]
    exact List.mem_map_of_mem hq
theorem GoneH.add {e : Ev} {s : HS} (h : GoneH e s) (he : Near e) : thereB (calendarNumber e.ID e.Kind) s.2 = false ∧ s.1.length ≤ 30 ∧ OneH e (pushH s (calendarNumber e.ID e.Kind) e) ∧ thereB (calendarNumber e.ID e.Kind) (pushH s (calendarNumber e.ID e.Kind) e).2 = true ∧ (pushH s (calendarNumber e.ID e.Kind) e).1.length ≤ 31 := by
  obtain ⟨P, h1, h2⟩ := h.ex
  have ht : thereB (calendarNumber e.ID e.Kind) s.2 = false := by
    cases hq : thereB (calendarNumber e.ID e.Kind) s.2
    · rfl
    · obtain ⟨p, hp, hk⟩ := (h1.there he).1 hq
      rw [h2 p hp] at hk
      cases hk
  have h3 := h1.add he ht
  have kk : key e e = true := (key_iff e e).2 ⟨rfl, rfl⟩
  refine ⟨ht, by rw [h1.size]; exact h1.len, ⟨_, h3, ?_⟩, (h3.there he).2 ⟨e, by simp, kk⟩, by rw [h3.size]; exact h3.len⟩
  rw [List.countP_append, List.countP_singleton, if_pos kk, List.countP_eq_zero.2 fun p hp => by rw [h2 p hp]; exact Bool.false_ne_true]
def cntN (a : List Ev) (e : Ev) (n : Nat) : Nat := (a.take n).countP (key e)
theorem cntN_succ {a : List Ev} {e : Ev} {n : Nat} (h : n < a.length) : cntN a e (n + 1) = cntN a e n + (if key e a[n] = true then 1 else 0) := by
  unfold cntN
  rw [List.take_add_one, List.getElem?_eq_getElem h, List.countP_append, Option.toList_some, List.countP_singleton]
theorem OneH.all {e : Ev} {s : HS} (h : OneH e s) : cntN (dueA s 99).1 e (dueA s 99).1.length = 1 ∧ (dueA s 99).1.length ≤ 31 ∧ s.1.length ≤ 31 := by
  obtain ⟨P, h1, h2⟩ := h.ex
  obtain ⟨p1, p2⟩ := due_all h1
  unfold cntN
  rw [List.take_length, p1.countP_eq, p1.length_eq, h1.size]
  exact ⟨h2, h1.len, h1.len⟩
structure FillH (i : Nat) (s : HS) : Prop where
  ex : ∃ P, PutOk i P s

/-! ### the document's calendar -/
def Good (e : Ev) : Prop := 0 ≤ e.At ∧ 0 ≤ e.ID ∧ e.ID ≤ 1023 ∧ 0 ≤ e.Kind ∧ e.Kind ≤ 7
def findN (id kind : Int) : List Ev → Int → Int
  | [], _ => -1
  | a :: l, i => bif a.ID == id && a.Kind == kind then i else findN id kind l (i + 1)
/-- put ahead of the first one that it goes ahead of -/
def insGo (e : Ev) : Bool → List Ev → List Ev
  | put, [] => bif put then [] else [e]
  | put, a :: l => bif !put && ref08Before e a then e :: a :: insGo e true l else a :: insGo e put l
def insR (e : Ev) (l : List Ev) : List Ev := insGo e false l
def dueK (t : Int) : List Ev → Nat
  | [] => 0
  | a :: l => bif decide (a.At ≤ t) then dueK t l + 1 else 0
def sameL : List Ev → List Ev → Bool
  | [], [] => true
  | a :: l, b :: m => evEq a b && sameL l m
  | _, _ => false
def ltE (a b : Ev) : Prop := a.At < b.At ∨ (a.At = b.At ∧ (a.Kind < b.Kind ∨ (a.Kind = b.Kind ∧ a.ID < b.ID)))
theorem before_iff (a b : Ev) : ref08Before a b = decide (ltE a b) := by
  unfold ref08Before ltE
  by_cases h1 : a.At = b.At
  · rw [show (a.At != b.At) = false by simp [h1]]
    by_cases h2 : a.Kind = b.Kind
    · rw [show (a.Kind != b.Kind) = false by simp [h2]]
      simp [h1, h2]
    · rw [show (a.Kind != b.Kind) = true by simp [h2]]
      simp [h1, h2]
  · rw [show (a.At != b.At) = true by simp [h1]]
    simp [h1]
theorem ltE_trans {a b c : Ev} (h1 : ltE a b) (h2 : ltE b c) : ltE a c := by unfold ltE at *; omega
theorem ltE_total {a b : Ev} (h : ¬ ltE a b) (h2 : ¬ (a.ID = b.ID ∧ a.Kind = b.Kind)) : ltE b a := by unfold ltE at *; omega
theorem sameL_refl : ∀ l : List Ev, sameL l l = true
  | [] => rfl
  | a :: l => by simp only [sameL, evEq_refl, sameL_refl l, Bool.and_self]
theorem insGo_true (e : Ev) : ∀ l, insGo e true l = l
  | [] => rfl
  | a :: l => by simp only [insGo, Bool.not_true, Bool.false_and, cond_false, insGo_true e l]
/-- a calendar of the program, one of the document -/
structure PlayOk (i : Nat) (s : HS) (R : List Ev) : Prop where
  ok : HOk s (R.map tE)
  good : ∀ e ∈ R, Good e
  sorted : R.Pairwise ltE
  len : R.length ≤ i
theorem PlayOk.start : PlayOk 0 (noThings, noPlaces) [] := ⟨HOk.new, fun e h => (by cases h), List.Pairwise.nil, Nat.le_refl _⟩
theorem PlayOk.size {i : Nat} {s : HS} {R : List Ev} (h : PlayOk i s R) : s.1.length = R.length := by rw [h.ok.len, List.length_map]
theorem PlayOk.mono {i j : Nat} {s : HS} {R : List Ev} (h : PlayOk i s R) (hj : i ≤ j) : PlayOk j s R := ⟨h.ok, h.good, h.sorted, Nat.le_trans h.len hj⟩
theorem right_good {e : Ev} : (calendarRight e.ID e.Kind && decide (0 ≤ e.At)) = true ↔ Good e := by
  rw [right_iff]
  simp only [Bool.and_eq_true, decide_eq_true_eq]
  unfold Good
  omega
theorem good_id {e b : Ev} (h1 : Good e) (h2 : Good b) : (tE b).Id = calendarNumber e.ID e.Kind ↔ key e b = true := by
  have e1 : (tE b).Id = calendarNumber b.ID b.Kind := rfl
  unfold Good at *
  rw [e1, number_near (by omega) (by omega) (by omega) (by omega), number_near (by omega) (by omega) (by omega) (by omega), key_iff]
  omega
theorem id_good {b : Ev} {i k : Int} (hr : calendarRight i k = true) (h2 : Good b) : (tE b).Id = calendarNumber i k ↔ b.ID = i ∧ b.Kind = k := by
  rw [right_iff] at hr
  have hr := of_decide_eq_true hr
  have e1 : (tE b).Id = calendarNumber b.ID b.Kind := rfl
  unfold Good at h2
  rw [e1, number_near (by omega) (by omega) (by omega) (by omega), number_near (by omega) (by omega) (by omega) (by omega)]
  omega
theorem PlayOk.there {i : Nat} {s : HS} {R : List Ev} (h : PlayOk i s R) {id k : Int} (hr : calendarRight id k = true) : thereB (calendarNumber id k) s.2 = true ↔ ∃ p ∈ R, p.ID = id ∧ p.Kind = k := by
  rw [h.ok.there]
  constructor
  · rintro ⟨a, ha, e1⟩
    obtain ⟨p, hp, rfl⟩ := List.mem_map.1 ha
    exact ⟨p, hp, (id_good hr (h.good p hp)).1 e1⟩
  · rintro ⟨p, hp, e1⟩
    exact ⟨tE p, List.mem_map_of_mem hp, (id_good hr (h.good p hp)).2 e1⟩
theorem findN_none {id k : Int} : ∀ (l : List Ev) (i : Int), (∀ p ∈ l, ¬ (p.ID = id ∧ p.Kind = k)) → findN id k l i = -1
  | [], _, _ => rfl
  | a :: l, i, h => by
    simp only [findN]
    rw [show (a.ID == id && a.Kind == k) = false by
      cases hq : a.ID == id && a.Kind == k
      · rfl
      · exact absurd (by simpa using hq) (h a (by simp))]
    exact findN_none l (i + 1) fun p hp => h p (List.mem_cons_of_mem _ hp)
theorem findN_some {id k : Int} : ∀ (l : List Ev) (i : Int), (∃ p ∈ l, p.ID = id ∧ p.Kind = k) → ∃ (n : Nat) (p : Ev), findN id k l i = i + n ∧ l[n]? = some p ∧ p.ID = id ∧ p.Kind = k
  | [], _, ⟨p, h, _⟩ => by cases h
  | a :: l, i, ⟨p, hp, h1⟩ => by
    simp only [findN]
    cases hq : a.ID == id && a.Kind == k
    · rcases List.mem_cons.1 hp with rfl | hp
      · simp [h1.1, h1.2] at hq
      · obtain ⟨n, q, e1, e2, e3⟩ := findN_some l (i + 1) ⟨p, hp, h1⟩
        exact ⟨n + 1, q, by rw [cond_false, e1]; omega, by simpa using e2, e3⟩
    · exact ⟨0, a, by simp, rfl, by simpa using hq⟩
/-- what is found -/
theorem PlayOk.found {i : Nat} {s : HS} {R : List Ev} (h : PlayOk i s R) {id k : Int} (hr : calendarRight id k = true) (ht : thereB (calendarNumber id k) s.2 = true) :
    ∃ (n w : Nat) (p : Ev), findN id k R 0 = (n : Int) ∧ n < R.length ∧ at' ez R (n : Int) = p ∧ whereI (calendarNumber id k) s.2 = (w : Int) ∧ w < s.1.length ∧ at' tz s.1 (w : Int) = tE p ∧ PlayOk i (takeH s w) (R.take n ++ R.drop (n + 1)) := by
  obtain ⟨n, p, e1, e2, e3⟩ := findN_some R 0 ((h.there hr).1 ht)
  obtain ⟨hn, e2'⟩ := List.getElem?_eq_some_iff.1 e2
  have hp : p ∈ R := List.mem_of_getElem? e2
  obtain ⟨w, hw, w1, w2, w3⟩ := h.ok.where ht
  have hpw : gN s.1 w = tE p := h.ok.one w3 (List.mem_map_of_mem hp) (by rw [w2]; exact ((id_good hr (h.good p hp)).2 e3).symm)
  obtain ⟨C', k1, k2⟩ := h.ok.take hw
  have hsplit : R = R.take n ++ p :: R.drop (n + 1) := by
    conv => lhs; rw [← List.take_append_drop n R, List.drop_eq_getElem_cons hn, e2']
  have hperm : R.Perm (p :: (R.take n ++ R.drop (n + 1))) := by
    conv => lhs; rw [hsplit]
    exact List.perm_middle
  have hC : C'.Perm ((R.take n ++ R.drop (n + 1)).map tE) := by
    have := k1.symm.trans (hperm.map tE)
    rw [hpw, List.map_cons] at this
    exact this.cons_inv
  have hsub : (R.take n ++ R.drop (n + 1)).Sublist R := by
    conv => rhs; rw [hsplit]
    exact List.Sublist.append (List.Sublist.refl _) (List.sublist_cons_self _ _)
  refine ⟨n, w, p, by rw [e1]; omega, hn, by rw [at_nat hn, e2'], w1, hw, hpw, k2.perm' hC, fun e he => h.good e (hsub.subset he), h.sorted.sublist hsub, Nat.le_trans hsub.length_le h.len⟩
theorem insR_perm (e : Ev) : ∀ l : List Ev, (insR e l).Perm (e :: l)
  | [] => List.Perm.refl _
  | a :: l => by
    unfold insR
    simp only [insGo, Bool.not_false, Bool.true_and]
    cases ref08Before e a
    · simp only [cond_false]
      exact (List.Perm.cons a (insR_perm e l)).trans (List.Perm.swap e a l)
    · simp only [cond_true, insGo_true]
      exact List.Perm.refl _
theorem insR_sorted (e : Ev) : ∀ l : List Ev, l.Pairwise ltE → (∀ p ∈ l, ¬ (e.ID = p.ID ∧ e.Kind = p.Kind)) → (insR e l).Pairwise ltE
  | [], _, _ => List.pairwise_singleton _ _
  | a :: l, h, hn => by
    unfold insR
    simp only [insGo, Bool.not_false, Bool.true_and, before_iff]
    rw [List.pairwise_cons] at h
    by_cases hq : ltE e a
    · rw [decide_eq_true hq]
      simp only [cond_true, insGo_true]
      refine List.Pairwise.cons (fun b hb => ?_) (List.Pairwise.cons h.1 h.2)
      rcases List.mem_cons.1 hb with rfl | hb
      · exact hq
      · exact ltE_trans hq (h.1 b hb)
    · rw [decide_eq_false hq]
      simp only [cond_false]
      refine List.Pairwise.cons (fun b hb => ?_) (insR_sorted e l h.2 fun p hp => hn p (List.mem_cons_of_mem _ hp))
      rcases List.mem_cons.1 ((insR_perm e l).mem_iff.1 hb) with rfl | hb
      · exact ltE_total hq (hn a (by simp))
      · exact h.1 b hb
theorem PlayOk.put {i : Nat} {s : HS} {R : List Ev} (h : PlayOk i s R) {e : Ev} (hg : Good e) (ht : thereB (calendarNumber e.ID e.Kind) s.2 = false) : PlayOk (i + 1) (pushH s (calendarNumber e.ID e.Kind) e) (insR e R) := by
  have hr : calendarRight e.ID e.Kind = true := (Bool.and_eq_true_iff.1 (right_good.2 hg)).1
  have hno : ∀ p ∈ R, ¬ (e.ID = p.ID ∧ e.Kind = p.Kind) := fun p hp e1 => by
    have := (h.there hr).2 ⟨p, hp, e1.1.symm, e1.2.symm⟩
    rw [ht] at this
    cases this
  refine ⟨(h.ok.push (x := e) ht).perm' ((insR_perm e R).map tE).symm, fun a ha => ?_, insR_sorted e R h.sorted hno, by rw [(insR_perm e R).length_eq]; have := h.len; simp; omega⟩
  rcases List.mem_cons.1 ((insR_perm e R).mem_iff.1 ha) with rfl | ha
  · exact hg
  · exact h.good a ha
theorem sorted_head {s : HS} {R : List Ev} {i : Nat} (h : PlayOk i s R) {a : Ev} {l : List Ev} (e : R = a :: l) : at' tz s.1 (0 : Int) = tE a := by
  subst e
  have hl : 0 < s.1.length := by rw [h.size]; simp
  obtain ⟨m1, m2⟩ := h.ok.min hl
  obtain ⟨p, hp, e1⟩ := List.mem_map.1 m1
  have h3 := m2 (tE a) (List.mem_map_of_mem (by simp))
  have hs := h.sorted
  rw [List.pairwise_cons] at hs
  show gN s.1 0 = tE a
  rcases List.mem_cons.1 hp with rfl | hp
  · exact e1.symm
  · have h4 := hs.1 p hp
    rw [← e1] at h3
    have x1 : (tE p).XAt = p.At := rfl
    have x2 : (tE p).XID = p.ID := rfl
    have x3 : (tE p).XKind = p.Kind := rfl
    have y1 : (tE a).XAt = a.At := rfl
    have y2 : (tE a).XID = a.ID := rfl
    have y3 : (tE a).XKind = a.Kind := rfl
    unfold le' at h3
    unfold ltE at h4
    omega
theorem PlayOk.due (t : Int) : ∀ {R : List Ev} {s : HS} {i : Nat}, PlayOk i s R → (dueA s t).1 = R.take (dueK t R) ∧ PlayOk i (dueA s t).2 (R.drop (dueK t R))
  | [], s, i, h => by
    rw [dueA_nil (by rw [h.size]; rfl)]
    exact ⟨rfl, h⟩
  | a :: l, s, i, h => by
    have hz := sorted_head h rfl
    simp only [dueK]
    by_cases ha : a.At ≤ t
    · rw [decide_eq_true ha]
      have hz2 : (at' tz s.1 0).XAt = a.At := by rw [hz]; rfl
      rw [dueA_go (n := l.length) (by rw [h.size]; rfl) (by rw [hz2]; omega)]
      obtain ⟨C', k1, k2⟩ := h.ok.take (i := 0) (by rw [h.size]; simp)
      have hC : C'.Perm (l.map tE) := by
        have := k1.symm
        rw [show gN s.1 0 = tE a from hz, List.map_cons] at this
        exact this.cons_inv
      have hs := h.sorted
      rw [List.pairwise_cons] at hs
      have h2 : PlayOk i (takeH s 0) l := ⟨k2.perm' hC, fun e he => h.good e (List.mem_cons_of_mem _ he), hs.2, by have := h.len; simp at this; omega⟩
      obtain ⟨e1, e2⟩ := PlayOk.due t h2
      refine ⟨?_, e2⟩
      rw [hz, e1]
      rfl
    · rw [decide_eq_false ha]
      have hz2 : (at' tz s.1 0).XAt = a.At := by rw [hz]; rfl
      rw [dueA_stop (by rw [hz2]; omega)]
      exact ⟨rfl, h⟩
theorem dueK_le (t : Int) : ∀ l : List Ev, dueK t l ≤ l.length
  | [] => Nat.le_refl _
  | a :: l => by
    simp only [dueK]
    cases decide (a.At ≤ t)
    · simp
    · have := dueK_le t l
      simp only [cond_true, List.length_cons]
      omega
theorem sameL_length : ∀ {l m : List Ev}, sameL l m = true → l.length = m.length
  | [], [], _ => rfl
  | [], _ :: _, h => by cases h
  | _ :: _, [], h => by cases h
  | a :: l, b :: m, h => by
    simp only [sameL, Bool.and_eq_true] at h
    simp [sameL_length h.2]
theorem findN_cases (id k : Int) : ∀ (l : List Ev) (i : Int), findN id k l i = -1 ∨ ∃ n : Nat, n < l.length ∧ findN id k l i = i + n
  | [], _ => .inl rfl
  | a :: l, i => by
    simp only [findN]
    cases a.ID == id && a.Kind == k
    · rcases findN_cases id k l (i + 1) with h | ⟨n, hn, h⟩
      · exact .inl h
      · exact .inr ⟨n + 1, by simp only [List.length_cons]; omega, by rw [cond_false, h]; omega⟩
    · exact .inr ⟨0, by simp, by simp⟩
theorem slOk_to {k n : Nat} (h : k ≤ n) : slOk none (some (k : Int)) none (n : Int) = true := by simp [slOk, optB]; omega
theorem slOk_from {k n : Nat} (h : k ≤ n) : slOk (some (k : Int)) none none (n : Int) = true := by simp [slOk, optB]; omega
theorem cut_to (k : Nat) (R : List Ev) : cutL none (some (k : Int)) R = R.take k := by simp [cutL, optB]
theorem cut_from (k : Nat) (R : List Ev) : cutL (some (k : Int)) none R = R.drop k := by simp [cutL, optB]

def delP {T : Nat → Enc} {O : Nat → Type} (S : SS T O) (t : Nat) (p : List Nat) : SS T O := match getT S.tmps t with
  | some v => match walkP S v p with
    | some k => S.drop k
    | none => S
  | none => S
/-- a calendar of the document's, behind a slot -/
def atRef (S : SS T O) (t : Nat) (R : List Ev) : SS T O := (atP (delP S t [0]) t [] (.cells [.own S.next] 39)).add (.ro 3 R)

/-! ### (*regatta/regattaref08.Calendar).Find -/
def findRText (R : List Ev) (id kind : Int) : Prop := ((∃ x : Nat, (((x ≤ R.length) ∧ (findN id kind R (0 : Int) = findN id kind (List.drop x R) (↑x : Int))) ∧ ((True ∧ ((id = id) ∧ ((kind = kind) ∧ (((↑x : Int) = (0 : Int)) ∧ True)))) ∧ ((True ∧ True) ∧ ((R = R) ∧ True))))) ∧ (∀ x : Nat, (((x ≤ R.length) ∧ (findN id kind R (0 : Int) = findN id kind (List.drop x R) (↑x : Int))) → (match (decide ((↑x : Int) < (↑R.length : Int))) with | true => (match (inb (↑x : Int) R.length) with | true => (match (inb (↑x : Int) R.length) with | true => (match ((at' evE.zero R (↑x : Int)).ID == id) with | true => (match (inb (↑x : Int) R.length) with | true => (match (inb (↑x : Int) R.length) with | true => (match ((at' evE.zero R (↑x : Int)).Kind == kind) with | true => (((findN id kind R (0 : Int) = (↑x : Int)) ∧ True) ∧ ((True ∧ True) ∧ ((R = R) ∧ True))) | false => (∃ x' : Nat, (((x' ≤ R.length) ∧ (findN id kind R (0 : Int) = findN id kind (List.drop x' R) (↑x' : Int))) ∧ ((R.length - x' < R.length - x) ∧ ((True ∧ ((id = id) ∧ ((kind = kind) ∧ (((↑x' : Int) = IntKind.i64.wrap ((↑x : Int) + (1 : Int))) ∧ True)))) ∧ ((True ∧ True) ∧ ((R = R) ∧ True))))))) | false => False) | false => False) | false => (∃ x' : Nat, (((x' ≤ R.length) ∧ (findN id kind R (0 : Int) = findN id kind (List.drop x' R) (↑x' : Int))) ∧ ((R.length - x' < R.length - x) ∧ ((True ∧ ((id = id) ∧ ((kind = kind) ∧ (((↑x' : Int) = IntKind.i64.wrap ((↑x : Int) + (1 : Int))) ∧ True)))) ∧ ((True ∧ True) ∧ ((R = R) ∧ True))))))) | false => False) | false => False) | false => (((findN id kind R (0 : Int) = (-1 : Int)) ∧ True) ∧ ((True ∧ True) ∧ ((R = R) ∧ True)))))))
theorem findRVc (R : List Ev) (id kind : Int) : fnX X12 (oneLoop 2 { σ := Nat, st := fun S x => (S.keep [0, 1, 2]).int 7 x, inv := fun _ x => x ≤ R.length ∧ findN id kind R 0 = findN id kind (R.drop x) x, m := fun x => R.length - x }) Try.f20 [.ptr 0 0, .raw (.int .i64 id), .raw (.int .i64 kind)] [.cells [.own 1] 39, .ro 3 R] (ends [.cells [.own 1] 39, .ro 3 R] ⟨some (.raw (.int .i64 (findN id kind R 0))), []⟩) = findRText R id kind := by kernel_rfl
theorem findRHolds (R : List Ev) (id kind : Int) (hp : R.length ≤ 1000) : findRText R id kind := by
  unfold findRText
  refine ⟨⟨0, ⟨Nat.zero_le _, rfl⟩, by repeat' first | trivial | rfl | apply And.intro⟩, ?_⟩
  rintro x ⟨hx, hs⟩
  by_cases h : x < R.length
  · have hw : ((x + 1 : Nat) : Int) = IntKind.i64.wrap ((x : Int) + (1 : Int)) := by rw [wrap_id (by omega) (by omega)]; rfl
    rw [dec_lt h, inb_nat h, show at' evE.zero R (x : Int) = R[x] from at_nat h]
    rw [drop_at h] at hs
    simp only [findN] at hs
    cases h1 : R[x].ID == id
    · rw [h1] at hs
      refine ⟨x + 1, ⟨h, hs⟩, by omega, ?_⟩
      repeat' first | exact hw | trivial | rfl | apply And.intro
    · cases h2 : R[x].Kind == kind
      · rw [h1, h2] at hs
        refine ⟨x + 1, ⟨h, hs⟩, by omega, ?_⟩
        repeat' first | exact hw | trivial | rfl | apply And.intro
      · rw [h1, h2] at hs
        have hs : findN id kind R 0 = (x : Int) := hs
        repeat' first | exact hs | trivial | rfl | apply And.intro
  · rw [dec_ge (by omega)]
    rw [List.drop_of_length_le (by omega)] at hs
    have hs : findN id kind R 0 = -1 := hs
    repeat' first | exact hs | trivial | rfl | apply And.intro
noncomputable def findRCon : Con T O := fun args cs => match args, cs with
  | [.ptr 0 0, .raw (.int .i64 id), .raw (.int .i64 kind)], [.cells [.own 1] 39, .ro 3 R] => chk (decide (R.length ≤ 1000)) (.ret ⟨some (.raw (.int .i64 (findN id kind R 0))), []⟩)
  | _, _ => .fail
theorem findROk : ConOk R Try.prog 20 findRCon := con_of_fn R (X12) (TabOk.con R X12Ok) mixed Try.call20 Try.func20 findRCon (by
  intro args cs K h
  unfold findRCon at h
  split at h
  · rename_i id kind R
    rw [Tree.holds_chk] at h
    obtain ⟨hp, h⟩ := h
    refine ⟨oneLoop 2 { σ := Nat, st := fun S x => (S.keep [0, 1, 2]).int 7 x, inv := fun _ x => x ≤ R.length ∧ findN id kind R 0 = findN id kind (R.drop x) x, m := fun x => R.length - x }, _, fun v S hv => ⟨_, h, hv⟩, ?_⟩
    rw [findRVc R id kind]
    exact findRHolds R id kind (of_decide_eq_true hp)
  · exact h.elim)
/-! ### regatta/regattaref08.Same -/
def sameCText (A B : List Ev) : Prop := (match ((↑A.length : Int) != (↑B.length : Int)) with | true => (((sameL A B = false) ∧ True) ∧ ((A = A) ∧ ((B = B) ∧ True))) | false => ((∃ x : Nat, (((x ≤ A.length) ∧ (sameL A B = sameL (List.drop x A) (List.drop x B))) ∧ ((True ∧ (True ∧ (((↑x : Int) = (0 : Int)) ∧ True))) ∧ ((A = A) ∧ ((B = B) ∧ True))))) ∧ (∀ x : Nat, (((x ≤ A.length) ∧ (sameL A B = sameL (List.drop x A) (List.drop x B))) → (match (decide ((↑x : Int) < (↑A.length : Int))) with | true => (match (inb (↑x : Int) A.length) with | true => (match (inb (↑x : Int) A.length) with | true => (match (inb (↑x : Int) B.length) with | true => (match (inb (↑x : Int) B.length) with | true => (match (!((at' evE.zero A (↑x : Int)).At == (at' evE.zero B (↑x : Int)).At && ((at' evE.zero A (↑x : Int)).ID == (at' evE.zero B (↑x : Int)).ID && ((at' evE.zero A (↑x : Int)).Kind == (at' evE.zero B (↑x : Int)).Kind && true)))) with | true => (((sameL A B = false) ∧ True) ∧ ((A = A) ∧ ((B = B) ∧ True))) | false => (∃ x' : Nat, (((x' ≤ A.length) ∧ (sameL A B = sameL (List.drop x' A) (List.drop x' B))) ∧ ((A.length - x' < A.length - x) ∧ ((True ∧ (True ∧ (((↑x' : Int) = IntKind.i64.wrap ((↑x : Int) + (1 : Int))) ∧ True))) ∧ ((A = A) ∧ ((B = B) ∧ True))))))) | false => False) | false => False) | false => False) | false => False) | false => (((sameL A B = true) ∧ True) ∧ ((A = A) ∧ ((B = B) ∧ True))))))))
theorem sameCVc (A B : List Ev) : fnX X12 (oneLoop 4 { σ := Nat, st := fun S x => (S.keep [0, 1]).int 5 x, inv := fun _ x => x ≤ A.length ∧ sameL A B = sameL (A.drop x) (B.drop x), m := fun x => A.length - x }) Try.f16 [.own 0, .own 1] [.vec 3 A 27, .ro 3 B] (ends [.vec 3 A 27, .ro 3 B] ⟨some (.raw (.bool (sameL A B))), [(0, some (.vec 3 A 27))]⟩) = sameCText A B := by kernel_rfl
theorem sameCHolds (A B : List Ev) (hp : A.length ≤ 1000 ∧ B.length ≤ 1000) : sameCText A B := by
  unfold sameCText
  obtain ⟨p1, p2⟩ := hp
  by_cases hl : A.length = B.length
  · rw [show ((A.length : Int) != (B.length : Int)) = false by rw [bne_eq_false_iff_eq]; omega]
    refine ⟨⟨0, ⟨Nat.zero_le _, rfl⟩, by repeat' first | trivial | rfl | apply And.intro⟩, ?_⟩
    rintro x ⟨hx, hs⟩
    by_cases h : x < A.length
    · have hw : ((x + 1 : Nat) : Int) = IntKind.i64.wrap ((x : Int) + (1 : Int)) := by rw [wrap_id (by omega) (by omega)]; rfl
      have h' : x < B.length := by omega
      rw [dec_lt h, inb_nat h, inb_nat h', show at' evE.zero A (x : Int) = A[x] from at_nat h, show at' evE.zero B (x : Int) = B[x] from at_nat h']
      rw [drop_at h, drop_at h'] at hs
      simp only [sameL] at hs
      unfold evEq at hs
      cases hq : A[x].At == B[x].At && (A[x].ID == B[x].ID && (A[x].Kind == B[x].Kind && true))
      · rw [hq] at hs
        have hs : sameL A B = false := hs
        repeat' first | exact hs | trivial | rfl | apply And.intro
      · rw [hq, Bool.true_and] at hs
        refine ⟨x + 1, ⟨h, hs⟩, by omega, ?_⟩
        repeat' first | exact hw | trivial | rfl | apply And.intro
    · rw [dec_ge (by omega)]
      rw [List.drop_of_length_le (by omega), List.drop_of_length_le (by omega)] at hs
      have hs : sameL A B = true := hs
      repeat' first | exact hs | trivial | rfl | apply And.intro
  · rw [show ((A.length : Int) != (B.length : Int)) = true by rw [bne_iff_ne]; omega]
    have hs : sameL A B = false := by
      cases hq : sameL A B
      · rfl
      · exact absurd (sameL_length hq) hl
    repeat' first | exact hs | trivial | rfl | apply And.intro
noncomputable def sameCCon : Con T O := fun args cs => match args, cs with
  | [.own 0, .own 1], [.vec 3 A 27, .ro 3 B] => chk (decide (A.length ≤ 1000 ∧ B.length ≤ 1000)) (.ret ⟨some (.raw (.bool (sameL A B))), [(0, some (.vec 3 A 27))]⟩)
  | _, _ => .fail
theorem sameCOk : ConOk R Try.prog 16 sameCCon := con_of_fn R (X12) (TabOk.con R X12Ok) mixed Try.call16 Try.func16 sameCCon (by
  intro args cs K h
  unfold sameCCon at h
  split at h
  · rename_i A B
    rw [Tree.holds_chk] at h
    obtain ⟨hp, h⟩ := h
    refine ⟨oneLoop 4 { σ := Nat, st := fun S x => (S.keep [0, 1]).int 5 x, inv := fun _ x => x ≤ A.length ∧ sameL A B = sameL (A.drop x) (B.drop x), m := fun x => A.length - x }, _, fun v S hv => ⟨_, h, hv⟩, ?_⟩
    rw [sameCVc A B]
    exact sameCHolds A B (of_decide_eq_true hp)
  · exact h.elim)
/-! ### (*regatta/regattaref08.Calendar).Due -/
def dueRText (R : List Ev) (t : Int) : Prop := ((∃ x : Nat, (((x ≤ R.length) ∧ (dueK t R = x + dueK t (List.drop x R))) ∧ ((True ∧ ((t = t) ∧ (((↑x : Int) = (0 : Int)) ∧ True))) ∧ ((True ∧ True) ∧ ((R = R) ∧ True))))) ∧ (∀ x : Nat, (((x ≤ R.length) ∧ (dueK t R = x + dueK t (List.drop x R))) → (match (decide ((↑x : Int) < (↑R.length : Int))) with | true => (match (inb (↑x : Int) R.length) with | true => (match (inb (↑x : Int) R.length) with | true => (match (decide ((at' evE.zero R (↑x : Int)).At ≤ t)) with | true => (∃ x' : Nat, (((x' ≤ R.length) ∧ (dueK t R = x' + dueK t (List.drop x' R))) ∧ ((R.length - x' < R.length - x) ∧ ((True ∧ ((t = t) ∧ (((↑x' : Int) = IntKind.i64.wrap ((↑x : Int) + (1 : Int))) ∧ True))) ∧ ((True ∧ True) ∧ ((R = R) ∧ True)))))) | false => (match (slOk none (some (↑x : Int)) none (↑R.length : Int)) with | true => (match (slOk (some (↑x : Int)) none none (↑R.length : Int)) with | true => ((True ∧ True) ∧ ((True ∧ True) ∧ ((R = R) ∧ ((List.take (dueK t R) R = cutL none (some (↑x : Int)) R) ∧ ((List.drop (dueK t R) R = cutL (some (↑x : Int)) none R) ∧ True))))) | false => False) | false => False)) | false => False) | false => False) | false => (match (slOk none (some (↑x : Int)) none (↑R.length : Int)) with | true => (match (slOk (some (↑x : Int)) none none (↑R.length : Int)) with | true => ((True ∧ True) ∧ ((True ∧ True) ∧ ((R = R) ∧ ((List.take (dueK t R) R = cutL none (some (↑x : Int)) R) ∧ ((List.drop (dueK t R) R = cutL (some (↑x : Int)) none R) ∧ True))))) | false => False) | false => False)))))
theorem dueRVc (R : List Ev) (t : Int) : fnX X12 (oneLoop 2 { σ := Nat, st := fun S x => (S.keep [0, 1]).int 5 x, inv := fun _ x => x ≤ R.length ∧ dueK t R = x + dueK t (R.drop x), m := fun x => R.length - x }) Try.f17 [.ptr 0 0, .raw (.int .i64 t)] [.cells [.own 1] 39, .ro 3 R] (ends [.cells [.own 1] 39, .ro 3 R] ⟨some (.own 2), [(0, some (.cells [.own 3] 39)), (2, some (.ro 3 (R.take (dueK t R)))), (3, some (.ro 3 (R.drop (dueK t R))))]⟩) = dueRText R t := by kernel_rfl
theorem dueRHolds (R : List Ev) (t : Int) (hp : R.length ≤ 1000) : dueRText R t := by
  unfold dueRText
  refine ⟨⟨0, ⟨Nat.zero_le _, by simp⟩, by repeat' first | trivial | rfl | apply And.intro⟩, ?_⟩
  rintro x ⟨hx, hs⟩
  have fin : dueK t R = x → List.take (dueK t R) R = cutL none (some (x : Int)) R ∧ List.drop (dueK t R) R = cutL (some (x : Int)) none R := by
    intro e
    rw [e]
    exact ⟨(cut_to x R).symm, (cut_from x R).symm⟩
  rw [slOk_to hx, slOk_from hx]
  by_cases h : x < R.length
  · have hw : ((x + 1 : Nat) : Int) = IntKind.i64.wrap ((x : Int) + (1 : Int)) := by rw [wrap_id (by omega) (by omega)]; rfl
    rw [dec_lt h, inb_nat h, show at' evE.zero R (x : Int) = R[x] from at_nat h]
    rw [drop_at h] at hs
    simp only [dueK] at hs
    by_cases ha : R[x].At ≤ t
    · rw [decide_eq_true ha] at hs ⊢
      simp only [cond_true] at hs
      refine ⟨x + 1, ⟨h, by omega⟩, by omega, ?_⟩
      repeat' first | exact hw | trivial | rfl | apply And.intro
    · rw [decide_eq_false ha] at hs ⊢
      obtain ⟨f1, f2⟩ := fin hs
      repeat' first | exact f1 | exact f2 | trivial | rfl | apply And.intro
  · rw [dec_ge (by omega)]
    rw [List.drop_of_length_le (by omega)] at hs
    obtain ⟨f1, f2⟩ := fin hs
    repeat' first | exact f1 | exact f2 | trivial | rfl | apply And.intro
noncomputable def dueRCon : Con T O := fun args cs => match args, cs with
  | [.ptr 0 0, .raw (.int .i64 t)], [.cells [.own 1] 39, .ro 3 R] => chk (decide (R.length ≤ 1000)) (.ret ⟨some (.own 2), [(0, some (.cells [.own 3] 39)), (2, some (.ro 3 (R.take (dueK t R)))), (3, some (.ro 3 (R.drop (dueK t R))))]⟩)
  | _, _ => .fail
theorem dueROk : ConOk R Try.prog 17 dueRCon := con_of_fn R (X12) (TabOk.con R X12Ok) mixed Try.call17 Try.func17 dueRCon (by
  intro args cs K h
  unfold dueRCon at h
  split at h
  · rename_i t R
    rw [Tree.holds_chk] at h
    obtain ⟨hp, h⟩ := h
    refine ⟨oneLoop 2 { σ := Nat, st := fun S x => (S.keep [0, 1]).int 5 x, inv := fun _ x => x ≤ R.length ∧ dueK t R = x + dueK t (R.drop x), m := fun x => R.length - x }, _, fun v S hv => ⟨_, h, hv⟩, ?_⟩
    rw [dueRVc R t]
    exact dueRHolds R t (of_decide_eq_true hp)
  · exact h.elim)
noncomputable def tab13 : Tab T O := (20, findRCon) :: (16, sameCCon) :: (17, dueRCon) :: tab12
theorem tabOk13 : TabOk R Try.prog tab13 := TabOk.cons R findROk <| TabOk.cons R sameCOk <| TabOk.cons R dueROk <| tabOk12
noncomputable def X13 : Ctx T O := { X0 with con := conOf tab13 }
theorem X13Ok : TabOk R X13.P tab13 := tabOk13
end Go.Proofs.Ythihpebdcamilaa
