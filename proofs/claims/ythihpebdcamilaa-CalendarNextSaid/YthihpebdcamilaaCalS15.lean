/-
  Part of a proof over the seat Ythihpebdcamilaa: printed by a small program or typed by hand.
-/
import Derived.Test.YthihpebdcamilaaCalS14
import Derived.KernelRfl
namespace Go.Proofs.Ythihpebdcamilaa
open Go.Sx Go.Proofs Classical
theorem HOk.nodup {s : HS} {C : List Thing} (h : HOk s C) : C.Nodup := by
  refine h.perm.nodup_iff.1 ?_
  rw [List.nodup_iff_pairwise_ne, List.pairwise_iff_getElem]
  intro i j hi hj hij e
  have := h.map.inj hi hj (by rw [gN_at hi, gN_at hj, e])
  omega
theorem HOk.take' {s : HS} {C : List Thing} (h : HOk s C) {i : Nat} (hi : i < s.1.length) : ∃ C', HOk (takeH s i) C' ∧ (∀ a, a ∈ C' ↔ a ∈ C ∧ a.Id ≠ (gN s.1 i).Id) ∧ C.length = C'.length + 1 := by
  obtain ⟨C', hp, hk⟩ := h.take hi
  have hnd := hp.nodup_iff.1 h.nodup
  rw [List.nodup_cons] at hnd
  have hg : gN s.1 i ∈ C := hp.mem_iff.2 (by simp)
  refine ⟨C', hk, fun a => ⟨fun ha => ?_, fun ⟨ha, hne⟩ => ?_⟩, hp.length_eq⟩
  · have ha2 : a ∈ C := hp.mem_iff.2 (by simp [ha])
    refine ⟨ha2, fun e => ?_⟩
    have := h.one ha2 hg e
    subst this
    exact hnd.1 ha
  · have := hp.mem_iff.1 ha
    rw [List.mem_cons] at this
    rcases this with e | h2
    · exact absurd (by rw [e]) hne
    · exact h2
theorem due_all {s : HS} {P : List Ev} {i : Nat} (h : PutOk i P s) : (dueA s 99).1.Perm P ∧ (dueA s 99).2.1.length = 0 := by
  obtain ⟨A, C1, k1, k2, k3, k4, k5, k6⟩ := due_ok 99 _ s _ rfl h.ok
  have hC : C1 = [] := by
    cases C1 with
    | nil => rfl
    | cons b B =>
      have a := k5 b (by simp)
      have : b ∈ P.map tE := k2.mem_iff.2 (by simp)
      obtain ⟨e, he, rfl⟩ := List.mem_map.1 this
      have := h.near e he
      unfold Near at this
      have : (tE e).XAt = e.At := rfl
      omega
  subst hC
  rw [List.append_nil] at k2
  refine ⟨?_, by rw [k1.len]; rfl⟩
  rw [k3]
  have := (k2.map (·.X)).symm
  rw [List.map_map] at this
  have e : ((fun x : Thing => x.X) ∘ tE) = id := rfl
  rwa [e, List.map_id] at this
def key (e b : Ev) : Bool := b.ID == e.ID && b.Kind == e.Kind
theorem key_iff (e b : Ev) : key e b = true ↔ b.ID = e.ID ∧ b.Kind = e.Kind := by simp [key]
theorem key_id {e b : Ev} (h1 : Near e) (h2 : Near b) : (tE b).Id = calendarNumber e.ID e.Kind ↔ key e b = true := by
  have e1 : (tE b).Id = calendarNumber b.ID b.Kind := rfl
  unfold Near at *
  rw [e1, number_near (by omega) (by omega) (by omega) (by omega), number_near (by omega) (by omega) (by omega) (by omega), key_iff]
  omega
structure NearH (s : HS) : Prop where
  ex : ∃ P, PutOk 30 P s
structure GoneH (e : Ev) (s : HS) : Prop where
  ex : ∃ P, PutOk 30 P s ∧ ∀ p ∈ P, key e p = false
structure OneH (e : Ev) (s : HS) : Prop where
  ex : ∃ P, PutOk 31 P s ∧ P.countP (key e) = 1
theorem PutOk.there {i : Nat} {P : List Ev} {s : HS} (h : PutOk i P s) {e : Ev} (he : Near e) : thereB (calendarNumber e.ID e.Kind) s.2 = true ↔ ∃ p ∈ P, key e p = true := by
  rw [h.ok.there]
  constructor
  · rintro ⟨a, ha, e1⟩
    obtain ⟨p, hp, rfl⟩ := List.mem_map.1 ha
    exact ⟨p, hp, (key_id he (h.near p hp)).1 e1⟩
  · rintro ⟨p, hp, e1⟩
    exact ⟨tE p, List.mem_map_of_mem hp, (key_id he (h.near p hp)).2 e1⟩
/-- what is at its place; the rest -/
theorem PutOk.out {i : Nat} {P : List Ev} {s : HS} (h : PutOk i P s) {e : Ev} (he : Near e) (ht : thereB (calendarNumber e.ID e.Kind) s.2 = true) :
    ∃ (w : Nat) (p : Ev) (P' : List Ev), whereI (calendarNumber e.ID e.Kind) s.2 = (w : Int) ∧ w < s.1.length ∧ at' tz s.1 (w : Int) = tE p ∧ key e p = true ∧ P.Perm (p :: P') ∧ PutOk i P' (takeH s w) ∧ ∀ q ∈ P', key e q = false := by
  obtain ⟨w, hw, e1, e2, e3⟩ := h.ok.where ht
  obtain ⟨p, hp, e4⟩ := List.mem_map.1 e3
  have hk : key e p = true := (key_id he (h.near p hp)).1 (by rw [e4]; exact e2)
  obtain ⟨C', k1, k2⟩ := h.ok.take hw
  have hpp : P.Perm (p :: P.erase p) := List.perm_cons_erase hp
  have hC : C'.Perm ((P.erase p).map tE) := by
    have := k1.symm.trans (hpp.map tE)
    rw [List.map_cons, e4] at this
    exact this.cons_inv
  have h2 : PutOk i (P.erase p) (takeH s w) := ⟨k2.perm' hC, fun q hq => h.near q (List.mem_of_mem_erase hq), by have := h.len; have := List.length_erase_of_mem hp; omega⟩
  refine ⟨w, p, P.erase p, e1, hw, e4.symm, hk, hpp, h2, fun q hq => ?_⟩
  cases hq2 : key e q
  · rfl
  · exfalso
    have n1 := (h.ok.perm' (hpp.map tE)).nodup
    rw [List.map_cons, List.nodup_cons] at n1
    apply n1.1
    have i1 := (key_id he (h.near p hp)).2 hk
    have i2 := (key_id he (h2.near q hq)).2 hq2
    have := h.ok.one (List.mem_map_of_mem hp) (List.mem_map_of_mem (List.mem_of_mem_erase hq)) (i1.trans i2.symm)
    rw [this]
    exact List.mem_map_of_mem hq
theorem GoneH.add {e : Ev} {s : HS} (h : GoneH e s) (he : Near e) : thereB (calendarNumber e.ID e.Kind) s.2 = false ∧ s.1.length ≤ 30 ∧ OneH e (pushH s (calendarNumber e.ID e.Kind) e) ∧ thereB (calendarNumber e.ID e.Kind) (pushH s (calendarNumber e.ID e.Kind) e).2 = true ∧ (pushH s (calendarNumber e.ID e.Kind) e).1.length ≤ 31 := by
  obtain ⟨P, h1, h2⟩ := h.ex
  have ht : thereB (calendarNumber e.ID e.Kind) s.2 = false := by
    cases hq : thereB (calendarNumber e.ID e.Kind) s.2
    · rfl
    · obtain ⟨p, hp, hk⟩ := (h1.there he).1 hq
      rw [h2 p hp] at hk
      cases hk
  have h3 := h1.add he ht
  have kk : key e e = true := (key_iff e e).2 ⟨rfl, rfl⟩
  refine ⟨ht, by rw [h1.size]; exact h1.len, ⟨_, h3, ?_⟩, (h3.there he).2 ⟨e, by simp, kk⟩, by rw [h3.size]; exact h3.len⟩
  rw [List.countP_append, List.countP_singleton, if_pos kk, List.countP_eq_zero.2 fun p hp => by rw [h2 p hp]; exact Bool.false_ne_true]
def cntN (a : List Ev) (e : Ev) (n : Nat) : Nat := (a.take n).countP (key e)
theorem cntN_succ {a : List Ev} {e : Ev} {n : Nat} (h : n < a.length) : cntN a e (n + 1) = cntN a e n + (if key e a[n] = true then 1 else 0) := by
  unfold cntN
  rw [List.take_add_one, List.getElem?_eq_getElem h, List.countP_append, Option.toList_some, List.countP_singleton]
theorem OneH.all {e : Ev} {s : HS} (h : OneH e s) : cntN (dueA s 99).1 e (dueA s 99).1.length = 1 ∧ (dueA s 99).1.length ≤ 31 ∧ s.1.length ≤ 31 := by
  obtain ⟨P, h1, h2⟩ := h.ex
  obtain ⟨p1, p2⟩ := due_all h1
  unfold cntN
  rw [List.take_length, p1.countP_eq, p1.length_eq, h1.size]
  exact ⟨h2, h1.len, h1.len⟩
structure FillH (i : Nat) (s : HS) : Prop where
  ex : ∃ P, PutOk i P s

/-! ### regatta/regattalaw08.CalendarDrop -/
def law08CalendarDropText (l : List Ev) (o : Ev) : Prop := (((∃ x : Nat × HS, (((x.fst ≤ (30 : Nat)) ∧ (FillH x.fst x.snd)) ∧ ((True ∧ (True ∧ ((true = true) ∧ (True ∧ (((↑x.fst : Int) = (0 : Int)) ∧ True))))) ∧ ((l = l) ∧ (((o.At = o.At) ∧ ((o.ID = o.ID) ∧ ((o.Kind = o.Kind) ∧ True))) ∧ ((True ∧ True) ∧ ((True ∧ (True ∧ (True ∧ True))) ∧ ((x.snd.fst = noThings) ∧ ((x.snd.snd = noPlaces) ∧ True))))))))) ∧ (∀ x : Nat × HS, (((x.fst ≤ (30 : Nat)) ∧ (FillH x.fst x.snd)) → (match (decide ((↑x.fst : Int) < (↑l.length : Int))) with | true => (match (decide ((↑x.fst : Int) < (30 : Int))) with | true => (match (inb (↑x.fst : Int) l.length) with | true => (match (inb (↑x.fst : Int) l.length) with | true => (match (decide (x.snd.fst.length ≤ (1000 : Nat))) with | true => (match (calendarRight (law08OpEventC1 (Op.mk (0 : Int) true (at' evE.zero l (↑x.fst : Int)).At (at' evE.zero l (↑x.fst : Int)).ID (at' evE.zero l (↑x.fst : Int)).Kind)) (law08OpEventC2 (Op.mk (0 : Int) true (at' evE.zero l (↑x.fst : Int)).At (at' evE.zero l (↑x.fst : Int)).ID (at' evE.zero l (↑x.fst : Int)).Kind)) && decide ((0 : Int) ≤ law08OpEventC0 (Op.mk (0 : Int) true (at' evE.zero l (↑x.fst : Int)).At (at' evE.zero l (↑x.fst : Int)).ID (at' evE.zero l (↑x.fst : Int)).Kind)) && !thereB (calendarNumber (law08OpEventC1 (Op.mk (0 : Int) true (at' evE.zero l (↑x.fst : Int)).At (at' evE.zero l (↑x.fst : Int)).ID (at' evE.zero l (↑x.fst : Int)).Kind)) (law08OpEventC2 (Op.mk (0 : Int) true (at' evE.zero l (↑x.fst : Int)).At (at' evE.zero l (↑x.fst : Int)).ID (at' evE.zero l (↑x.fst : Int)).Kind))) x.snd.snd) with | true => (∃ x' : Nat × HS, (((x'.fst ≤ (30 : Nat)) ∧ (FillH x'.fst x'.snd)) ∧ (((30 : Nat) - x'.fst < (30 : Nat) - x.fst) ∧ ((True ∧ (True ∧ ((true = true) ∧ (True ∧ (((↑x'.fst : Int) = IntKind.i64.wrap ((↑x.fst : Int) + (1 : Int))) ∧ True))))) ∧ ((l = l) ∧ (((o.At = o.At) ∧ ((o.ID = o.ID) ∧ ((o.Kind = o.Kind) ∧ True))) ∧ ((True ∧ True) ∧ ((True ∧ (True ∧ (True ∧ True))) ∧ ((x'.snd.fst = (pushH x.snd (calendarNumber (law08OpEventC1 (Op.mk (0 : Int) true (at' evE.zero l (↑x.fst : Int)).At (at' evE.zero l (↑x.fst : Int)).ID (at' evE.zero l (↑x.fst : Int)).Kind)) (law08OpEventC2 (Op.mk (0 : Int) true (at' evE.zero l (↑x.fst : Int)).At (at' evE.zero l (↑x.fst : Int)).ID (at' evE.zero l (↑x.fst : Int)).Kind))) (Ev.mk (law08OpEventC0 (Op.mk (0 : Int) true (at' evE.zero l (↑x.fst : Int)).At (at' evE.zero l (↑x.fst : Int)).ID (at' evE.zero l (↑x.fst : Int)).Kind)) (law08OpEventC1 (Op.mk (0 : Int) true (at' evE.zero l (↑x.fst : Int)).At (at' evE.zero l (↑x.fst : Int)).ID (at' evE.zero l (↑x.fst : Int)).Kind)) (law08OpEventC2 (Op.mk (0 : Int) true (at' evE.zero l (↑x.fst : Int)).At (at' evE.zero l (↑x.fst : Int)).ID (at' evE.zero l (↑x.fst : Int)).Kind)))).fst) ∧ ((x'.snd.snd = (pushH x.snd (calendarNumber (law08OpEventC1 (Op.mk (0 : Int) true (at' evE.zero l (↑x.fst : Int)).At (at' evE.zero l (↑x.fst : Int)).ID (at' evE.zero l (↑x.fst : Int)).Kind)) (law08OpEventC2 (Op.mk (0 : Int) true (at' evE.zero l (↑x.fst : Int)).At (at' evE.zero l (↑x.fst : Int)).ID (at' evE.zero l (↑x.fst : Int)).Kind))) (Ev.mk (law08OpEventC0 (Op.mk (0 : Int) true (at' evE.zero l (↑x.fst : Int)).At (at' evE.zero l (↑x.fst : Int)).ID (at' evE.zero l (↑x.fst : Int)).Kind)) (law08OpEventC1 (Op.mk (0 : Int) true (at' evE.zero l (↑x.fst : Int)).At (at' evE.zero l (↑x.fst : Int)).ID (at' evE.zero l (↑x.fst : Int)).Kind)) (law08OpEventC2 (Op.mk (0 : Int) true (at' evE.zero l (↑x.fst : Int)).At (at' evE.zero l (↑x.fst : Int)).ID (at' evE.zero l (↑x.fst : Int)).Kind)))).snd) ∧ True)))))))))) | false => (∃ x' : Nat × HS, (((x'.fst ≤ (30 : Nat)) ∧ (FillH x'.fst x'.snd)) ∧ (((30 : Nat) - x'.fst < (30 : Nat) - x.fst) ∧ ((True ∧ (True ∧ ((true = true) ∧ (True ∧ (((↑x'.fst : Int) = IntKind.i64.wrap ((↑x.fst : Int) + (1 : Int))) ∧ True))))) ∧ ((l = l) ∧ (((o.At = o.At) ∧ ((o.ID = o.ID) ∧ ((o.Kind = o.Kind) ∧ True))) ∧ ((True ∧ True) ∧ ((True ∧ (True ∧ (True ∧ True))) ∧ ((x'.snd.fst = x.snd.fst) ∧ ((x'.snd.snd = x.snd.snd) ∧ True))))))))))) | false => False) | false => False) | false => False) | false => (∃ x1 : HS, ((NearH x1) ∧ ((True ∧ (True ∧ ((true = true) ∧ (True ∧ True)))) ∧ ((l = l) ∧ (((o.At = o.At) ∧ ((o.ID = o.ID) ∧ ((o.Kind = o.Kind) ∧ True))) ∧ ((True ∧ True) ∧ ((True ∧ (True ∧ (True ∧ True))) ∧ ((x1.fst = x.snd.fst) ∧ ((x1.snd = x.snd.snd) ∧ True)))))))))) | false => (∃ x1 : HS, ((NearH x1) ∧ ((True ∧ (True ∧ ((true = true) ∧ (True ∧ True)))) ∧ ((l = l) ∧ (((o.At = o.At) ∧ ((o.ID = o.ID) ∧ ((o.Kind = o.Kind) ∧ True))) ∧ ((True ∧ True) ∧ ((True ∧ (True ∧ (True ∧ True))) ∧ ((x1.fst = x.snd.fst) ∧ ((x1.snd = x.snd.snd) ∧ True))))))))))))) ∧ (∀ x : HS, ((NearH x) → (match (decide (thereB (calendarNumber (law08OpEventC1 (Op.mk (0 : Int) true o.At o.ID o.Kind)) (law08OpEventC2 (Op.mk (0 : Int) true o.At o.ID o.Kind))) x.snd = true → (0 : Int) ≤ whereI (calendarNumber (law08OpEventC1 (Op.mk (0 : Int) true o.At o.ID o.Kind)) (law08OpEventC2 (Op.mk (0 : Int) true o.At o.ID o.Kind))) x.snd ∧ whereI (calendarNumber (law08OpEventC1 (Op.mk (0 : Int) true o.At o.ID o.Kind)) (law08OpEventC2 (Op.mk (0 : Int) true o.At o.ID o.Kind))) x.snd < (↑x.fst.length : Int))) with | true => (match (decide (x.fst.length ≤ (1000 : Nat) ∧ (thereB (calendarNumber (law08OpEventC1 (Op.mk (0 : Int) true o.At o.ID o.Kind)) (law08OpEventC2 (Op.mk (0 : Int) true o.At o.ID o.Kind))) x.snd = true → (0 : Int) ≤ whereI (calendarNumber (law08OpEventC1 (Op.mk (0 : Int) true o.At o.ID o.Kind)) (law08OpEventC2 (Op.mk (0 : Int) true o.At o.ID o.Kind))) x.snd ∧ whereI (calendarNumber (law08OpEventC1 (Op.mk (0 : Int) true o.At o.ID o.Kind)) (law08OpEventC2 (Op.mk (0 : Int) true o.At o.ID o.Kind))) x.snd < (↑x.fst.length : Int)))) with | true => (match (calendarRight (law08OpEventC1 (Op.mk (0 : Int) true o.At o.ID o.Kind)) (law08OpEventC2 (Op.mk (0 : Int) true o.At o.ID o.Kind)) && thereB (calendarNumber (law08OpEventC1 (Op.mk (0 : Int) true o.At o.ID o.Kind)) (law08OpEventC2 (Op.mk (0 : Int) true o.At o.ID o.Kind))) x.snd) with | true => ((match (true != (calendarRight (law08OpEventC1 (Op.mk (0 : Int) true o.At o.ID o.Kind)) (law08OpEventC2 (Op.mk (0 : Int) true o.At o.ID o.Kind)) && thereB (calendarNumber (law08OpEventC1 (Op.mk (0 : Int) true o.At o.ID o.Kind)) (law08OpEventC2 (Op.mk (0 : Int) true o.At o.ID o.Kind))) x.snd)) with | true => (((true = false) ∧ True) ∧ ((l = l) ∧ True)) | false => (match ((at' tz x.fst (whereI (calendarNumber (law08OpEventC1 (Op.mk (0 : Int) true o.At o.ID o.Kind)) (law08OpEventC2 (Op.mk (0 : Int) true o.At o.ID o.Kind))) x.snd)).XAt != bif calendarRight (law08OpEventC1 (Op.mk (0 : Int) true o.At o.ID o.Kind)) (law08OpEventC2 (Op.mk (0 : Int) true o.At o.ID o.Kind)) && thereB (calendarNumber (law08OpEventC1 (Op.mk (0 : Int) true o.At o.ID o.Kind)) (law08OpEventC2 (Op.mk (0 : Int) true o.At o.ID o.Kind))) x.snd then (at' tz x.fst (whereI (calendarNumber (law08OpEventC1 (Op.mk (0 : Int) true o.At o.ID o.Kind)) (law08OpEventC2 (Op.mk (0 : Int) true o.At o.ID o.Kind))) x.snd)).XAt else (0 : Int)) with | true => (((true = false) ∧ True) ∧ ((l = l) ∧ True)) | false => (match ((at' tz x.fst (whereI (calendarNumber (law08OpEventC1 (Op.mk (0 : Int) true o.At o.ID o.Kind)) (law08OpEventC2 (Op.mk (0 : Int) true o.At o.ID o.Kind))) x.snd)).XID != law08OpEventC1 (Op.mk (0 : Int) true o.At o.ID o.Kind)) with | true => (((true = false) ∧ True) ∧ ((l = l) ∧ True)) | false => (match ((at' tz x.fst (whereI (calendarNumber (law08OpEventC1 (Op.mk (0 : Int) true o.At o.ID o.Kind)) (law08OpEventC2 (Op.mk (0 : Int) true o.At o.ID o.Kind))) x.snd)).XKind != law08OpEventC2 (Op.mk (0 : Int) true o.At o.ID o.Kind)) with | true => (((true = false) ∧ True) ∧ ((l = l) ∧ True)) | false => (match ((↑(takeH x (whereI (calendarNumber (law08OpEventC1 (Op.mk (0 : Int) true o.At o.ID o.Kind)) (law08OpEventC2 (Op.mk (0 : Int) true o.At o.ID o.Kind))) x.snd).toNat).fst.length : Int) != IntKind.i64.wrap ((↑x.fst.length : Int) - (1 : Int))) with | true => (((true = false) ∧ True) ∧ ((l = l) ∧ True)) | false => (∃ x1 : HS, ((GoneH (nearE o) x1) ∧ ((True ∧ (True ∧ ((true = true) ∧ (True ∧ (True ∧ (True ∧ (True ∧ True))))))) ∧ ((l = l) ∧ (((o.At = o.At) ∧ ((o.ID = o.ID) ∧ ((o.Kind = o.Kind) ∧ True))) ∧ ((True ∧ True) ∧ ((True ∧ (True ∧ (True ∧ True))) ∧ ((x1.snd = (takeH x (whereI (calendarNumber (law08OpEventC1 (Op.mk (0 : Int) true o.At o.ID o.Kind)) (law08OpEventC2 (Op.mk (0 : Int) true o.At o.ID o.Kind))) x.snd).toNat).snd) ∧ ((((0 : Int) = (0 : Int)) ∧ ((true = true) ∧ ((o.At = o.At) ∧ ((o.ID = o.ID) ∧ ((o.Kind = o.Kind) ∧ True))))) ∧ (((law08OpEventC0 (Op.mk (0 : Int) true o.At o.ID o.Kind) = law08OpEventC0 (Op.mk (0 : Int) true o.At o.ID o.Kind)) ∧ ((law08OpEventC1 (Op.mk (0 : Int) true o.At o.ID o.Kind) = law08OpEventC1 (Op.mk (0 : Int) true o.At o.ID o.Kind)) ∧ ((law08OpEventC2 (Op.mk (0 : Int) true o.At o.ID o.Kind) = law08OpEventC2 (Op.mk (0 : Int) true o.At o.ID o.Kind)) ∧ True))) ∧ ((x1.fst = (takeH x (whereI (calendarNumber (law08OpEventC1 (Op.mk (0 : Int) true o.At o.ID o.Kind)) (law08OpEventC2 (Op.mk (0 : Int) true o.At o.ID o.Kind))) x.snd).toNat).fst) ∧ ((((at' tz x.fst (whereI (calendarNumber (law08OpEventC1 (Op.mk (0 : Int) true o.At o.ID o.Kind)) (law08OpEventC2 (Op.mk (0 : Int) true o.At o.ID o.Kind))) x.snd)).XAt = (at' tz x.fst (whereI (calendarNumber (law08OpEventC1 (Op.mk (0 : Int) true o.At o.ID o.Kind)) (law08OpEventC2 (Op.mk (0 : Int) true o.At o.ID o.Kind))) x.snd)).XAt) ∧ (((at' tz x.fst (whereI (calendarNumber (law08OpEventC1 (Op.mk (0 : Int) true o.At o.ID o.Kind)) (law08OpEventC2 (Op.mk (0 : Int) true o.At o.ID o.Kind))) x.snd)).XID = (at' tz x.fst (whereI (calendarNumber (law08OpEventC1 (Op.mk (0 : Int) true o.At o.ID o.Kind)) (law08OpEventC2 (Op.mk (0 : Int) true o.At o.ID o.Kind))) x.snd)).XID) ∧ (((at' tz x.fst (whereI (calendarNumber (law08OpEventC1 (Op.mk (0 : Int) true o.At o.ID o.Kind)) (law08OpEventC2 (Op.mk (0 : Int) true o.At o.ID o.Kind))) x.snd)).XKind = (at' tz x.fst (whereI (calendarNumber (law08OpEventC1 (Op.mk (0 : Int) true o.At o.ID o.Kind)) (law08OpEventC2 (Op.mk (0 : Int) true o.At o.ID o.Kind))) x.snd)).XKind) ∧ True))) ∧ True))))))))))))))))) ∧ (∀ x1 : HS, ((GoneH (nearE o) x1) → ((match (decide (x1.fst.length ≤ (1000 : Nat))) with | true => (match (calendarRight (law08OpEventC1 (Op.mk (0 : Int) true o.At o.ID o.Kind)) (law08OpEventC2 (Op.mk (0 : Int) true o.At o.ID o.Kind)) && decide ((0 : Int) ≤ law08OpEventC0 (Op.mk (0 : Int) true o.At o.ID o.Kind)) && !thereB (calendarNumber (law08OpEventC1 (Op.mk (0 : Int) true o.At o.ID o.Kind)) (law08OpEventC2 (Op.mk (0 : Int) true o.At o.ID o.Kind))) x1.snd) with | true => (match (decide ((pushH x1 (calendarNumber (law08OpEventC1 (Op.mk (0 : Int) true o.At o.ID o.Kind)) (law08OpEventC2 (Op.mk (0 : Int) true o.At o.ID o.Kind))) (Ev.mk (law08OpEventC0 (Op.mk (0 : Int) true o.At o.ID o.Kind)) (law08OpEventC1 (Op.mk (0 : Int) true o.At o.ID o.Kind)) (law08OpEventC2 (Op.mk (0 : Int) true o.At o.ID o.Kind)))).fst.length ≤ (1000 : Nat))) with | true => (match (calendarRight (law08OpEventC1 (Op.mk (0 : Int) true o.At o.ID o.Kind)) (law08OpEventC2 (Op.mk (0 : Int) true o.At o.ID o.Kind)) && decide ((0 : Int) ≤ law08OpEventC0 (Op.mk (0 : Int) true o.At o.ID o.Kind)) && !thereB (calendarNumber (law08OpEventC1 (Op.mk (0 : Int) true o.At o.ID o.Kind)) (law08OpEventC2 (Op.mk (0 : Int) true o.At o.ID o.Kind))) (pushH x1 (calendarNumber (law08OpEventC1 (Op.mk (0 : Int) true o.At o.ID o.Kind)) (law08OpEventC2 (Op.mk (0 : Int) true o.At o.ID o.Kind))) (Ev.mk (law08OpEventC0 (Op.mk (0 : Int) true o.At o.ID o.Kind)) (law08OpEventC1 (Op.mk (0 : Int) true o.At o.ID o.Kind)) (law08OpEventC2 (Op.mk (0 : Int) true o.At o.ID o.Kind)))).snd) with | true => (((true = false) ∧ True) ∧ ((l = l) ∧ True)) | false => (match ((bif calendarRight (law08OpEventC1 (Op.mk (0 : Int) true o.At o.ID o.Kind)) (law08OpEventC2 (Op.mk (0 : Int) true o.At o.ID o.Kind)) && decide ((0 : Int) ≤ law08OpEventC0 (Op.mk (0 : Int) true o.At o.ID o.Kind)) then (14 : Int) else (1 : Int)) != (14 : Int)) with | true => (((true = false) ∧ True) ∧ ((l = l) ∧ True)) | false => (∃ x2 : HS, ((OneH (nearE o) x2) ∧ ((True ∧ (True ∧ ((true = true) ∧ (True ∧ (True ∧ (True ∧ (True ∧ True))))))) ∧ ((l = l) ∧ (((o.At = o.At) ∧ ((o.ID = o.ID) ∧ ((o.Kind = o.Kind) ∧ True))) ∧ ((True ∧ True) ∧ ((True ∧ (True ∧ (True ∧ True))) ∧ ((x2.snd = (pushH x1 (calendarNumber (law08OpEventC1 (Op.mk (0 : Int) true o.At o.ID o.Kind)) (law08OpEventC2 (Op.mk (0 : Int) true o.At o.ID o.Kind))) (Ev.mk (law08OpEventC0 (Op.mk (0 : Int) true o.At o.ID o.Kind)) (law08OpEventC1 (Op.mk (0 : Int) true o.At o.ID o.Kind)) (law08OpEventC2 (Op.mk (0 : Int) true o.At o.ID o.Kind)))).snd) ∧ ((((0 : Int) = (0 : Int)) ∧ ((true = true) ∧ ((o.At = o.At) ∧ ((o.ID = o.ID) ∧ ((o.Kind = o.Kind) ∧ True))))) ∧ (((law08OpEventC0 (Op.mk (0 : Int) true o.At o.ID o.Kind) = law08OpEventC0 (Op.mk (0 : Int) true o.At o.ID o.Kind)) ∧ ((law08OpEventC1 (Op.mk (0 : Int) true o.At o.ID o.Kind) = law08OpEventC1 (Op.mk (0 : Int) true o.At o.ID o.Kind)) ∧ ((law08OpEventC2 (Op.mk (0 : Int) true o.At o.ID o.Kind) = law08OpEventC2 (Op.mk (0 : Int) true o.At o.ID o.Kind)) ∧ True))) ∧ ((x2.fst = (pushH x1 (calendarNumber (law08OpEventC1 (Op.mk (0 : Int) true o.At o.ID o.Kind)) (law08OpEventC2 (Op.mk (0 : Int) true o.At o.ID o.Kind))) (Ev.mk (law08OpEventC0 (Op.mk (0 : Int) true o.At o.ID o.Kind)) (law08OpEventC1 (Op.mk (0 : Int) true o.At o.ID o.Kind)) (law08OpEventC2 (Op.mk (0 : Int) true o.At o.ID o.Kind)))).fst) ∧ ((((at' tz x.fst (whereI (calendarNumber (law08OpEventC1 (Op.mk (0 : Int) true o.At o.ID o.Kind)) (law08OpEventC2 (Op.mk (0 : Int) true o.At o.ID o.Kind))) x.snd)).XAt = (at' tz x.fst (whereI (calendarNumber (law08OpEventC1 (Op.mk (0 : Int) true o.At o.ID o.Kind)) (law08OpEventC2 (Op.mk (0 : Int) true o.At o.ID o.Kind))) x.snd)).XAt) ∧ (((at' tz x.fst (whereI (calendarNumber (law08OpEventC1 (Op.mk (0 : Int) true o.At o.ID o.Kind)) (law08OpEventC2 (Op.mk (0 : Int) true o.At o.ID o.Kind))) x.snd)).XID = (at' tz x.fst (whereI (calendarNumber (law08OpEventC1 (Op.mk (0 : Int) true o.At o.ID o.Kind)) (law08OpEventC2 (Op.mk (0 : Int) true o.At o.ID o.Kind))) x.snd)).XID) ∧ (((at' tz x.fst (whereI (calendarNumber (law08OpEventC1 (Op.mk (0 : Int) true o.At o.ID o.Kind)) (law08OpEventC2 (Op.mk (0 : Int) true o.At o.ID o.Kind))) x.snd)).XKind = (at' tz x.fst (whereI (calendarNumber (law08OpEventC1 (Op.mk (0 : Int) true o.At o.ID o.Kind)) (law08OpEventC2 (Op.mk (0 : Int) true o.At o.ID o.Kind))) x.snd)).XKind) ∧ True))) ∧ True)))))))))))))) | false => False) | false => (match ((bif calendarRight (law08OpEventC1 (Op.mk (0 : Int) true o.At o.ID o.Kind)) (law08OpEventC2 (Op.mk (0 : Int) true o.At o.ID o.Kind)) && decide ((0 : Int) ≤ law08OpEventC0 (Op.mk (0 : Int) true o.At o.ID o.Kind)) then (14 : Int) else (1 : Int)) != (0 : Int)) with | true => (((true = false) ∧ True) ∧ ((l = l) ∧ True)) | false => (match (decide (x1.fst.length ≤ (1000 : Nat))) with | true => (match (calendarRight (law08OpEventC1 (Op.mk (0 : Int) true o.At o.ID o.Kind)) (law08OpEventC2 (Op.mk (0 : Int) true o.At o.ID o.Kind)) && decide ((0 : Int) ≤ law08OpEventC0 (Op.mk (0 : Int) true o.At o.ID o.Kind)) && !thereB (calendarNumber (law08OpEventC1 (Op.mk (0 : Int) true o.At o.ID o.Kind)) (law08OpEventC2 (Op.mk (0 : Int) true o.At o.ID o.Kind))) x1.snd) with | true => (((true = false) ∧ True) ∧ ((l = l) ∧ True)) | false => (match ((bif calendarRight (law08OpEventC1 (Op.mk (0 : Int) true o.At o.ID o.Kind)) (law08OpEventC2 (Op.mk (0 : Int) true o.At o.ID o.Kind)) && decide ((0 : Int) ≤ law08OpEventC0 (Op.mk (0 : Int) true o.At o.ID o.Kind)) then (14 : Int) else (1 : Int)) != (14 : Int)) with | true => (((true = false) ∧ True) ∧ ((l = l) ∧ True)) | false => (∃ x2 : HS, ((OneH (nearE o) x2) ∧ ((True ∧ (True ∧ ((true = true) ∧ (True ∧ (True ∧ (True ∧ (True ∧ True))))))) ∧ ((l = l) ∧ (((o.At = o.At) ∧ ((o.ID = o.ID) ∧ ((o.Kind = o.Kind) ∧ True))) ∧ ((True ∧ True) ∧ ((True ∧ (True ∧ (True ∧ True))) ∧ ((x2.snd = x1.snd) ∧ ((((0 : Int) = (0 : Int)) ∧ ((true = true) ∧ ((o.At = o.At) ∧ ((o.ID = o.ID) ∧ ((o.Kind = o.Kind) ∧ True))))) ∧ (((law08OpEventC0 (Op.mk (0 : Int) true o.At o.ID o.Kind) = law08OpEventC0 (Op.mk (0 : Int) true o.At o.ID o.Kind)) ∧ ((law08OpEventC1 (Op.mk (0 : Int) true o.At o.ID o.Kind) = law08OpEventC1 (Op.mk (0 : Int) true o.At o.ID o.Kind)) ∧ ((law08OpEventC2 (Op.mk (0 : Int) true o.At o.ID o.Kind) = law08OpEventC2 (Op.mk (0 : Int) true o.At o.ID o.Kind)) ∧ True))) ∧ ((x2.fst = x1.fst) ∧ ((((at' tz x.fst (whereI (calendarNumber (law08OpEventC1 (Op.mk (0 : Int) true o.At o.ID o.Kind)) (law08OpEventC2 (Op.mk (0 : Int) true o.At o.ID o.Kind))) x.snd)).XAt = (at' tz x.fst (whereI (calendarNumber (law08OpEventC1 (Op.mk (0 : Int) true o.At o.ID o.Kind)) (law08OpEventC2 (Op.mk (0 : Int) true o.At o.ID o.Kind))) x.snd)).XAt) ∧ (((at' tz x.fst (whereI (calendarNumber (law08OpEventC1 (Op.mk (0 : Int) true o.At o.ID o.Kind)) (law08OpEventC2 (Op.mk (0 : Int) true o.At o.ID o.Kind))) x.snd)).XID = (at' tz x.fst (whereI (calendarNumber (law08OpEventC1 (Op.mk (0 : Int) true o.At o.ID o.Kind)) (law08OpEventC2 (Op.mk (0 : Int) true o.At o.ID o.Kind))) x.snd)).XID) ∧ (((at' tz x.fst (whereI (calendarNumber (law08OpEventC1 (Op.mk (0 : Int) true o.At o.ID o.Kind)) (law08OpEventC2 (Op.mk (0 : Int) true o.At o.ID o.Kind))) x.snd)).XKind = (at' tz x.fst (whereI (calendarNumber (law08OpEventC1 (Op.mk (0 : Int) true o.At o.ID o.Kind)) (law08OpEventC2 (Op.mk (0 : Int) true o.At o.ID o.Kind))) x.snd)).XKind) ∧ True))) ∧ True)))))))))))))) | false => False))) | false => False) ∧ (∀ x2 : HS, ((OneH (nearE o) x2) → (match (decide (x2.fst.length ≤ (1000 : Nat))) with | true => ((∃ x3 : Nat, ((x3.le (dueA x2 (99 : Int)).fst.length) ∧ ((True ∧ (True ∧ ((true = true) ∧ (True ∧ (True ∧ (True ∧ (True ∧ (True ∧ (((↑(cntN (dueA x2 (99 : Int)).fst (nearE o) x3) : Int) = (0 : Int)) ∧ (((↑x3 : Int) = (0 : Int)) ∧ True)))))))))) ∧ ((l = l) ∧ (((o.At = o.At) ∧ ((o.ID = o.ID) ∧ ((o.Kind = o.Kind) ∧ True))) ∧ ((True ∧ True) ∧ ((True ∧ (True ∧ (True ∧ True))) ∧ (((dueA x2 (99 : Int)).snd.snd = (dueA x2 (99 : Int)).snd.snd) ∧ ((((0 : Int) = (0 : Int)) ∧ ((true = true) ∧ ((o.At = o.At) ∧ ((o.ID = o.ID) ∧ ((o.Kind = o.Kind) ∧ True))))) ∧ (((law08OpEventC0 (Op.mk (0 : Int) true o.At o.ID o.Kind) = law08OpEventC0 (Op.mk (0 : Int) true o.At o.ID o.Kind)) ∧ ((law08OpEventC1 (Op.mk (0 : Int) true o.At o.ID o.Kind) = law08OpEventC1 (Op.mk (0 : Int) true o.At o.ID o.Kind)) ∧ ((law08OpEventC2 (Op.mk (0 : Int) true o.At o.ID o.Kind) = law08OpEventC2 (Op.mk (0 : Int) true o.At o.ID o.Kind)) ∧ True))) ∧ ((((at' tz x.fst (whereI (calendarNumber (law08OpEventC1 (Op.mk (0 : Int) true o.At o.ID o.Kind)) (law08OpEventC2 (Op.mk (0 : Int) true o.At o.ID o.Kind))) x.snd)).XAt = (at' tz x.fst (whereI (calendarNumber (law08OpEventC1 (Op.mk (0 : Int) true o.At o.ID o.Kind)) (law08OpEventC2 (Op.mk (0 : Int) true o.At o.ID o.Kind))) x.snd)).XAt) ∧ (((at' tz x.fst (whereI (calendarNumber (law08OpEventC1 (Op.mk (0 : Int) true o.At o.ID o.Kind)) (law08OpEventC2 (Op.mk (0 : Int) true o.At o.ID o.Kind))) x.snd)).XID = (at' tz x.fst (whereI (calendarNumber (law08OpEventC1 (Op.mk (0 : Int) true o.At o.ID o.Kind)) (law08OpEventC2 (Op.mk (0 : Int) true o.At o.ID o.Kind))) x.snd)).XID) ∧ (((at' tz x.fst (whereI (calendarNumber (law08OpEventC1 (Op.mk (0 : Int) true o.At o.ID o.Kind)) (law08OpEventC2 (Op.mk (0 : Int) true o.At o.ID o.Kind))) x.snd)).XKind = (at' tz x.fst (whereI (calendarNumber (law08OpEventC1 (Op.mk (0 : Int) true o.At o.ID o.Kind)) (law08OpEventC2 (Op.mk (0 : Int) true o.At o.ID o.Kind))) x.snd)).XKind) ∧ True))) ∧ (((dueA x2 (99 : Int)).fst = (dueA x2 (99 : Int)).fst) ∧ (((dueA x2 (99 : Int)).snd.fst = (dueA x2 (99 : Int)).snd.fst) ∧ True))))))))))))) ∧ (∀ x3 : Nat, ((x3.le (dueA x2 (99 : Int)).fst.length) → (match (decide ((↑x3 : Int) < (↑(dueA x2 (99 : Int)).fst.length : Int))) with | true => (match (inb (↑x3 : Int) (dueA x2 (99 : Int)).fst.length) with | true => (match (inb (↑x3 : Int) (dueA x2 (99 : Int)).fst.length) with | true => (match ((at' evE.zero (dueA x2 (99 : Int)).fst (↑x3 : Int)).ID == law08OpEventC1 (Op.mk (0 : Int) true o.At o.ID o.Kind)) with | true => (match (inb (↑x3 : Int) (dueA x2 (99 : Int)).fst.length) with | true => (match (inb (↑x3 : Int) (dueA x2 (99 : Int)).fst.length) with | true => (match ((at' evE.zero (dueA x2 (99 : Int)).fst (↑x3 : Int)).Kind == law08OpEventC2 (Op.mk (0 : Int) true o.At o.ID o.Kind)) with | true => (∃ x' : Nat, ((x'.le (dueA x2 (99 : Int)).fst.length) ∧ (((60 : Nat) - x' < (60 : Nat) - x3) ∧ ((True ∧ (True ∧ ((true = true) ∧ (True ∧ (True ∧ (True ∧ (True ∧ (True ∧ (((↑(cntN (dueA x2 (99 : Int)).fst (nearE o) x') : Int) = IntKind.i64.wrap ((↑(cntN (dueA x2 (99 : Int)).fst (nearE o) x3) : Int) + (1 : Int))) ∧ (((↑x' : Int) = IntKind.i64.wrap ((↑x3 : Int) + (1 : Int))) ∧ True)))))))))) ∧ ((l = l) ∧ (((o.At = o.At) ∧ ((o.ID = o.ID) ∧ ((o.Kind = o.Kind) ∧ True))) ∧ ((True ∧ True) ∧ ((True ∧ (True ∧ (True ∧ True))) ∧ (((dueA x2 (99 : Int)).snd.snd = (dueA x2 (99 : Int)).snd.snd) ∧ ((((0 : Int) = (0 : Int)) ∧ ((true = true) ∧ ((o.At = o.At) ∧ ((o.ID = o.ID) ∧ ((o.Kind = o.Kind) ∧ True))))) ∧ (((law08OpEventC0 (Op.mk (0 : Int) true o.At o.ID o.Kind) = law08OpEventC0 (Op.mk (0 : Int) true o.At o.ID o.Kind)) ∧ ((law08OpEventC1 (Op.mk (0 : Int) true o.At o.ID o.Kind) = law08OpEventC1 (Op.mk (0 : Int) true o.At o.ID o.Kind)) ∧ ((law08OpEventC2 (Op.mk (0 : Int) true o.At o.ID o.Kind) = law08OpEventC2 (Op.mk (0 : Int) true o.At o.ID o.Kind)) ∧ True))) ∧ ((((at' tz x.fst (whereI (calendarNumber (law08OpEventC1 (Op.mk (0 : Int) true o.At o.ID o.Kind)) (law08OpEventC2 (Op.mk (0 : Int) true o.At o.ID o.Kind))) x.snd)).XAt = (at' tz x.fst (whereI (calendarNumber (law08OpEventC1 (Op.mk (0 : Int) true o.At o.ID o.Kind)) (law08OpEventC2 (Op.mk (0 : Int) true o.At o.ID o.Kind))) x.snd)).XAt) ∧ (((at' tz x.fst (whereI (calendarNumber (law08OpEventC1 (Op.mk (0 : Int) true o.At o.ID o.Kind)) (law08OpEventC2 (Op.mk (0 : Int) true o.At o.ID o.Kind))) x.snd)).XID = (at' tz x.fst (whereI (calendarNumber (law08OpEventC1 (Op.mk (0 : Int) true o.At o.ID o.Kind)) (law08OpEventC2 (Op.mk (0 : Int) true o.At o.ID o.Kind))) x.snd)).XID) ∧ (((at' tz x.fst (whereI (calendarNumber (law08OpEventC1 (Op.mk (0 : Int) true o.At o.ID o.Kind)) (law08OpEventC2 (Op.mk (0 : Int) true o.At o.ID o.Kind))) x.snd)).XKind = (at' tz x.fst (whereI (calendarNumber (law08OpEventC1 (Op.mk (0 : Int) true o.At o.ID o.Kind)) (law08OpEventC2 (Op.mk (0 : Int) true o.At o.ID o.Kind))) x.snd)).XKind) ∧ True))) ∧ (((dueA x2 (99 : Int)).fst = (dueA x2 (99 : Int)).fst) ∧ (((dueA x2 (99 : Int)).snd.fst = (dueA x2 (99 : Int)).snd.fst) ∧ True)))))))))))))) | false => (∃ x' : Nat, ((x'.le (dueA x2 (99 : Int)).fst.length) ∧ (((60 : Nat) - x' < (60 : Nat) - x3) ∧ ((True ∧ (True ∧ ((true = true) ∧ (True ∧ (True ∧ (True ∧ (True ∧ (True ∧ (((↑(cntN (dueA x2 (99 : Int)).fst (nearE o) x') : Int) = (↑(cntN (dueA x2 (99 : Int)).fst (nearE o) x3) : Int)) ∧ (((↑x' : Int) = IntKind.i64.wrap ((↑x3 : Int) + (1 : Int))) ∧ True)))))))))) ∧ ((l = l) ∧ (((o.At = o.At) ∧ ((o.ID = o.ID) ∧ ((o.Kind = o.Kind) ∧ True))) ∧ ((True ∧ True) ∧ ((True ∧ (True ∧ (True ∧ True))) ∧ (((dueA x2 (99 : Int)).snd.snd = (dueA x2 (99 : Int)).snd.snd) ∧ ((((0 : Int) = (0 : Int)) ∧ ((true = true) ∧ ((o.At = o.At) ∧ ((o.ID = o.ID) ∧ ((o.Kind = o.Kind) ∧ True))))) ∧ (((law08OpEventC0 (Op.mk (0 : Int) true o.At o.ID o.Kind) = law08OpEventC0 (Op.mk (0 : Int) true o.At o.ID o.Kind)) ∧ ((law08OpEventC1 (Op.mk (0 : Int) true o.At o.ID o.Kind) = law08OpEventC1 (Op.mk (0 : Int) true o.At o.ID o.Kind)) ∧ ((law08OpEventC2 (Op.mk (0 : Int) true o.At o.ID o.Kind) = law08OpEventC2 (Op.mk (0 : Int) true o.At o.ID o.Kind)) ∧ True))) ∧ ((((at' tz x.fst (whereI (calendarNumber (law08OpEventC1 (Op.mk (0 : Int) true o.At o.ID o.Kind)) (law08OpEventC2 (Op.mk (0 : Int) true o.At o.ID o.Kind))) x.snd)).XAt = (at' tz x.fst (whereI (calendarNumber (law08OpEventC1 (Op.mk (0 : Int) true o.At o.ID o.Kind)) (law08OpEventC2 (Op.mk (0 : Int) true o.At o.ID o.Kind))) x.snd)).XAt) ∧ (((at' tz x.fst (whereI (calendarNumber (law08OpEventC1 (Op.mk (0 : Int) true o.At o.ID o.Kind)) (law08OpEventC2 (Op.mk (0 : Int) true o.At o.ID o.Kind))) x.snd)).XID = (at' tz x.fst (whereI (calendarNumber (law08OpEventC1 (Op.mk (0 : Int) true o.At o.ID o.Kind)) (law08OpEventC2 (Op.mk (0 : Int) true o.At o.ID o.Kind))) x.snd)).XID) ∧ (((at' tz x.fst (whereI (calendarNumber (law08OpEventC1 (Op.mk (0 : Int) true o.At o.ID o.Kind)) (law08OpEventC2 (Op.mk (0 : Int) true o.At o.ID o.Kind))) x.snd)).XKind = (at' tz x.fst (whereI (calendarNumber (law08OpEventC1 (Op.mk (0 : Int) true o.At o.ID o.Kind)) (law08OpEventC2 (Op.mk (0 : Int) true o.At o.ID o.Kind))) x.snd)).XKind) ∧ True))) ∧ (((dueA x2 (99 : Int)).fst = (dueA x2 (99 : Int)).fst) ∧ (((dueA x2 (99 : Int)).snd.fst = (dueA x2 (99 : Int)).snd.fst) ∧ True))))))))))))))) | false => False) | false => False) | false => (∃ x' : Nat, ((x'.le (dueA x2 (99 : Int)).fst.length) ∧ (((60 : Nat) - x' < (60 : Nat) - x3) ∧ ((True ∧ (True ∧ ((true = true) ∧ (True ∧ (True ∧ (True ∧ (True ∧ (True ∧ (((↑(cntN (dueA x2 (99 : Int)).fst (nearE o) x') : Int) = (↑(cntN (dueA x2 (99 : Int)).fst (nearE o) x3) : Int)) ∧ (((↑x' : Int) = IntKind.i64.wrap ((↑x3 : Int) + (1 : Int))) ∧ True)))))))))) ∧ ((l = l) ∧ (((o.At = o.At) ∧ ((o.ID = o.ID) ∧ ((o.Kind = o.Kind) ∧ True))) ∧ ((True ∧ True) ∧ ((True ∧ (True ∧ (True ∧ True))) ∧ (((dueA x2 (99 : Int)).snd.snd = (dueA x2 (99 : Int)).snd.snd) ∧ ((((0 : Int) = (0 : Int)) ∧ ((true = true) ∧ ((o.At = o.At) ∧ ((o.ID = o.ID) ∧ ((o.Kind = o.Kind) ∧ True))))) ∧ (((law08OpEventC0 (Op.mk (0 : Int) true o.At o.ID o.Kind) = law08OpEventC0 (Op.mk (0 : Int) true o.At o.ID o.Kind)) ∧ ((law08OpEventC1 (Op.mk (0 : Int) true o.At o.ID o.Kind) = law08OpEventC1 (Op.mk (0 : Int) true o.At o.ID o.Kind)) ∧ ((law08OpEventC2 (Op.mk (0 : Int) true o.At o.ID o.Kind) = law08OpEventC2 (Op.mk (0 : Int) true o.At o.ID o.Kind)) ∧ True))) ∧ ((((at' tz x.fst (whereI (calendarNumber (law08OpEventC1 (Op.mk (0 : Int) true o.At o.ID o.Kind)) (law08OpEventC2 (Op.mk (0 : Int) true o.At o.ID o.Kind))) x.snd)).XAt = (at' tz x.fst (whereI (calendarNumber (law08OpEventC1 (Op.mk (0 : Int) true o.At o.ID o.Kind)) (law08OpEventC2 (Op.mk (0 : Int) true o.At o.ID o.Kind))) x.snd)).XAt) ∧ (((at' tz x.fst (whereI (calendarNumber (law08OpEventC1 (Op.mk (0 : Int) true o.At o.ID o.Kind)) (law08OpEventC2 (Op.mk (0 : Int) true o.At o.ID o.Kind))) x.snd)).XID = (at' tz x.fst (whereI (calendarNumber (law08OpEventC1 (Op.mk (0 : Int) true o.At o.ID o.Kind)) (law08OpEventC2 (Op.mk (0 : Int) true o.At o.ID o.Kind))) x.snd)).XID) ∧ (((at' tz x.fst (whereI (calendarNumber (law08OpEventC1 (Op.mk (0 : Int) true o.At o.ID o.Kind)) (law08OpEventC2 (Op.mk (0 : Int) true o.At o.ID o.Kind))) x.snd)).XKind = (at' tz x.fst (whereI (calendarNumber (law08OpEventC1 (Op.mk (0 : Int) true o.At o.ID o.Kind)) (law08OpEventC2 (Op.mk (0 : Int) true o.At o.ID o.Kind))) x.snd)).XKind) ∧ True))) ∧ (((dueA x2 (99 : Int)).fst = (dueA x2 (99 : Int)).fst) ∧ (((dueA x2 (99 : Int)).snd.fst = (dueA x2 (99 : Int)).snd.fst) ∧ True))))))))))))))) | false => False) | false => False) | false => (((true = ((↑(cntN (dueA x2 (99 : Int)).fst (nearE o) x3) : Int) == (1 : Int))) ∧ True) ∧ ((l = l) ∧ True)))))) | false => False))))))) | false => ((match (false != (calendarRight (law08OpEventC1 (Op.mk (0 : Int) true o.At o.ID o.Kind)) (law08OpEventC2 (Op.mk (0 : Int) true o.At o.ID o.Kind)) && thereB (calendarNumber (law08OpEventC1 (Op.mk (0 : Int) true o.At o.ID o.Kind)) (law08OpEventC2 (Op.mk (0 : Int) true o.At o.ID o.Kind))) x.snd)) with | true => (((true = false) ∧ True) ∧ ((l = l) ∧ True)) | false => (∃ x1 : HS, ((GoneH (nearE o) x1) ∧ ((True ∧ (True ∧ ((true = true) ∧ (True ∧ (True ∧ (True ∧ (True ∧ True))))))) ∧ ((l = l) ∧ (((o.At = o.At) ∧ ((o.ID = o.ID) ∧ ((o.Kind = o.Kind) ∧ True))) ∧ ((True ∧ True) ∧ ((True ∧ (True ∧ (True ∧ True))) ∧ ((x1.fst = x.fst) ∧ ((x1.snd = x.snd) ∧ ((((0 : Int) = (0 : Int)) ∧ ((true = true) ∧ ((o.At = o.At) ∧ ((o.ID = o.ID) ∧ ((o.Kind = o.Kind) ∧ True))))) ∧ (((law08OpEventC0 (Op.mk (0 : Int) true o.At o.ID o.Kind) = law08OpEventC0 (Op.mk (0 : Int) true o.At o.ID o.Kind)) ∧ ((law08OpEventC1 (Op.mk (0 : Int) true o.At o.ID o.Kind) = law08OpEventC1 (Op.mk (0 : Int) true o.At o.ID o.Kind)) ∧ ((law08OpEventC2 (Op.mk (0 : Int) true o.At o.ID o.Kind) = law08OpEventC2 (Op.mk (0 : Int) true o.At o.ID o.Kind)) ∧ True))) ∧ ((((0 : Int) = (0 : Int)) ∧ (((0 : Int) = (0 : Int)) ∧ (((0 : Int) = (0 : Int)) ∧ True))) ∧ True))))))))))))) ∧ (∀ x1 : HS, ((GoneH (nearE o) x1) → ((match (decide (x1.fst.length ≤ (1000 : Nat))) with | true => (match (calendarRight (law08OpEventC1 (Op.mk (0 : Int) true o.At o.ID o.Kind)) (law08OpEventC2 (Op.mk (0 : Int) true o.At o.ID o.Kind)) && decide ((0 : Int) ≤ law08OpEventC0 (Op.mk (0 : Int) true o.At o.ID o.Kind)) && !thereB (calendarNumber (law08OpEventC1 (Op.mk (0 : Int) true o.At o.ID o.Kind)) (law08OpEventC2 (Op.mk (0 : Int) true o.At o.ID o.Kind))) x1.snd) with | true => (match (decide ((pushH x1 (calendarNumber (law08OpEventC1 (Op.mk (0 : Int) true o.At o.ID o.Kind)) (law08OpEventC2 (Op.mk (0 : Int) true o.At o.ID o.Kind))) (Ev.mk (law08OpEventC0 (Op.mk (0 : Int) true o.At o.ID o.Kind)) (law08OpEventC1 (Op.mk (0 : Int) true o.At o.ID o.Kind)) (law08OpEventC2 (Op.mk (0 : Int) true o.At o.ID o.Kind)))).fst.length ≤ (1000 : Nat))) with | true => (match (calendarRight (law08OpEventC1 (Op.mk (0 : Int) true o.At o.ID o.Kind)) (law08OpEventC2 (Op.mk (0 : Int) true o.At o.ID o.Kind)) && decide ((0 : Int) ≤ law08OpEventC0 (Op.mk (0 : Int) true o.At o.ID o.Kind)) && !thereB (calendarNumber (law08OpEventC1 (Op.mk (0 : Int) true o.At o.ID o.Kind)) (law08OpEventC2 (Op.mk (0 : Int) true o.At o.ID o.Kind))) (pushH x1 (calendarNumber (law08OpEventC1 (Op.mk (0 : Int) true o.At o.ID o.Kind)) (law08OpEventC2 (Op.mk (0 : Int) true o.At o.ID o.Kind))) (Ev.mk (law08OpEventC0 (Op.mk (0 : Int) true o.At o.ID o.Kind)) (law08OpEventC1 (Op.mk (0 : Int) true o.At o.ID o.Kind)) (law08OpEventC2 (Op.mk (0 : Int) true o.At o.ID o.Kind)))).snd) with | true => (((true = false) ∧ True) ∧ ((l = l) ∧ True)) | false => (match ((bif calendarRight (law08OpEventC1 (Op.mk (0 : Int) true o.At o.ID o.Kind)) (law08OpEventC2 (Op.mk (0 : Int) true o.At o.ID o.Kind)) && decide ((0 : Int) ≤ law08OpEventC0 (Op.mk (0 : Int) true o.At o.ID o.Kind)) then (14 : Int) else (1 : Int)) != (14 : Int)) with | true => (((true = false) ∧ True) ∧ ((l = l) ∧ True)) | false => (∃ x2 : HS, ((OneH (nearE o) x2) ∧ ((True ∧ (True ∧ ((true = true) ∧ (True ∧ (True ∧ (True ∧ (True ∧ True))))))) ∧ ((l = l) ∧ (((o.At = o.At) ∧ ((o.ID = o.ID) ∧ ((o.Kind = o.Kind) ∧ True))) ∧ ((True ∧ True) ∧ ((True ∧ (True ∧ (True ∧ True))) ∧ ((x2.fst = (pushH x1 (calendarNumber (law08OpEventC1 (Op.mk (0 : Int) true o.At o.ID o.Kind)) (law08OpEventC2 (Op.mk (0 : Int) true o.At o.ID o.Kind))) (Ev.mk (law08OpEventC0 (Op.mk (0 : Int) true o.At o.ID o.Kind)) (law08OpEventC1 (Op.mk (0 : Int) true o.At o.ID o.Kind)) (law08OpEventC2 (Op.mk (0 : Int) true o.At o.ID o.Kind)))).fst) ∧ ((x2.snd = (pushH x1 (calendarNumber (law08OpEventC1 (Op.mk (0 : Int) true o.At o.ID o.Kind)) (law08OpEventC2 (Op.mk (0 : Int) true o.At o.ID o.Kind))) (Ev.mk (law08OpEventC0 (Op.mk (0 : Int) true o.At o.ID o.Kind)) (law08OpEventC1 (Op.mk (0 : Int) true o.At o.ID o.Kind)) (law08OpEventC2 (Op.mk (0 : Int) true o.At o.ID o.Kind)))).snd) ∧ ((((0 : Int) = (0 : Int)) ∧ ((true = true) ∧ ((o.At = o.At) ∧ ((o.ID = o.ID) ∧ ((o.Kind = o.Kind) ∧ True))))) ∧ (((law08OpEventC0 (Op.mk (0 : Int) true o.At o.ID o.Kind) = law08OpEventC0 (Op.mk (0 : Int) true o.At o.ID o.Kind)) ∧ ((law08OpEventC1 (Op.mk (0 : Int) true o.At o.ID o.Kind) = law08OpEventC1 (Op.mk (0 : Int) true o.At o.ID o.Kind)) ∧ ((law08OpEventC2 (Op.mk (0 : Int) true o.At o.ID o.Kind) = law08OpEventC2 (Op.mk (0 : Int) true o.At o.ID o.Kind)) ∧ True))) ∧ ((((0 : Int) = (0 : Int)) ∧ (((0 : Int) = (0 : Int)) ∧ (((0 : Int) = (0 : Int)) ∧ True))) ∧ True)))))))))))))) | false => False) | false => (match ((bif calendarRight (law08OpEventC1 (Op.mk (0 : Int) true o.At o.ID o.Kind)) (law08OpEventC2 (Op.mk (0 : Int) true o.At o.ID o.Kind)) && decide ((0 : Int) ≤ law08OpEventC0 (Op.mk (0 : Int) true o.At o.ID o.Kind)) then (14 : Int) else (1 : Int)) != (0 : Int)) with | true => (((true = false) ∧ True) ∧ ((l = l) ∧ True)) | false => (match (decide (x1.fst.length ≤ (1000 : Nat))) with | true => (match (calendarRight (law08OpEventC1 (Op.mk (0 : Int) true o.At o.ID o.Kind)) (law08OpEventC2 (Op.mk (0 : Int) true o.At o.ID o.Kind)) && decide ((0 : Int) ≤ law08OpEventC0 (Op.mk (0 : Int) true o.At o.ID o.Kind)) && !thereB (calendarNumber (law08OpEventC1 (Op.mk (0 : Int) true o.At o.ID o.Kind)) (law08OpEventC2 (Op.mk (0 : Int) true o.At o.ID o.Kind))) x1.snd) with | true => (((true = false) ∧ True) ∧ ((l = l) ∧ True)) | false => (match ((bif calendarRight (law08OpEventC1 (Op.mk (0 : Int) true o.At o.ID o.Kind)) (law08OpEventC2 (Op.mk (0 : Int) true o.At o.ID o.Kind)) && decide ((0 : Int) ≤ law08OpEventC0 (Op.mk (0 : Int) true o.At o.ID o.Kind)) then (14 : Int) else (1 : Int)) != (14 : Int)) with | true => (((true = false) ∧ True) ∧ ((l = l) ∧ True)) | false => (∃ x2 : HS, ((OneH (nearE o) x2) ∧ ((True ∧ (True ∧ ((true = true) ∧ (True ∧ (True ∧ (True ∧ (True ∧ True))))))) ∧ ((l = l) ∧ (((o.At = o.At) ∧ ((o.ID = o.ID) ∧ ((o.Kind = o.Kind) ∧ True))) ∧ ((True ∧ True) ∧ ((True ∧ (True ∧ (True ∧ True))) ∧ ((x2.fst = x1.fst) ∧ ((x2.snd = x1.snd) ∧ ((((0 : Int) = (0 : Int)) ∧ ((true = true) ∧ ((o.At = o.At) ∧ ((o.ID = o.ID) ∧ ((o.Kind = o.Kind) ∧ True))))) ∧ (((law08OpEventC0 (Op.mk (0 : Int) true o.At o.ID o.Kind) = law08OpEventC0 (Op.mk (0 : Int) true o.At o.ID o.Kind)) ∧ ((law08OpEventC1 (Op.mk (0 : Int) true o.At o.ID o.Kind) = law08OpEventC1 (Op.mk (0 : Int) true o.At o.ID o.Kind)) ∧ ((law08OpEventC2 (Op.mk (0 : Int) true o.At o.ID o.Kind) = law08OpEventC2 (Op.mk (0 : Int) true o.At o.ID o.Kind)) ∧ True))) ∧ ((((0 : Int) = (0 : Int)) ∧ (((0 : Int) = (0 : Int)) ∧ (((0 : Int) = (0 : Int)) ∧ True))) ∧ True)))))))))))))) | false => False))) | false => False) ∧ (∀ x2 : HS, ((OneH (nearE o) x2) → (match (decide (x2.fst.length ≤ (1000 : Nat))) with | true => ((∃ x3 : Nat, ((x3.le (dueA x2 (99 : Int)).fst.length) ∧ ((True ∧ (True ∧ ((true = true) ∧ (True ∧ (True ∧ (True ∧ (True ∧ (True ∧ (((↑(cntN (dueA x2 (99 : Int)).fst (nearE o) x3) : Int) = (0 : Int)) ∧ (((↑x3 : Int) = (0 : Int)) ∧ True)))))))))) ∧ ((l = l) ∧ (((o.At = o.At) ∧ ((o.ID = o.ID) ∧ ((o.Kind = o.Kind) ∧ True))) ∧ ((True ∧ True) ∧ ((True ∧ (True ∧ (True ∧ True))) ∧ (((dueA x2 (99 : Int)).snd.snd = (dueA x2 (99 : Int)).snd.snd) ∧ ((((0 : Int) = (0 : Int)) ∧ ((true = true) ∧ ((o.At = o.At) ∧ ((o.ID = o.ID) ∧ ((o.Kind = o.Kind) ∧ True))))) ∧ (((law08OpEventC0 (Op.mk (0 : Int) true o.At o.ID o.Kind) = law08OpEventC0 (Op.mk (0 : Int) true o.At o.ID o.Kind)) ∧ ((law08OpEventC1 (Op.mk (0 : Int) true o.At o.ID o.Kind) = law08OpEventC1 (Op.mk (0 : Int) true o.At o.ID o.Kind)) ∧ ((law08OpEventC2 (Op.mk (0 : Int) true o.At o.ID o.Kind) = law08OpEventC2 (Op.mk (0 : Int) true o.At o.ID o.Kind)) ∧ True))) ∧ ((((0 : Int) = (0 : Int)) ∧ (((0 : Int) = (0 : Int)) ∧ (((0 : Int) = (0 : Int)) ∧ True))) ∧ (((dueA x2 (99 : Int)).fst = (dueA x2 (99 : Int)).fst) ∧ (((dueA x2 (99 : Int)).snd.fst = (dueA x2 (99 : Int)).snd.fst) ∧ True))))))))))))) ∧ (∀ x3 : Nat, ((x3.le (dueA x2 (99 : Int)).fst.length) → (match (decide ((↑x3 : Int) < (↑(dueA x2 (99 : Int)).fst.length : Int))) with | true => (match (inb (↑x3 : Int) (dueA x2 (99 : Int)).fst.length) with | true => (match (inb (↑x3 : Int) (dueA x2 (99 : Int)).fst.length) with | true => (match ((at' evE.zero (dueA x2 (99 : Int)).fst (↑x3 : Int)).ID == law08OpEventC1 (Op.mk (0 : Int) true o.At o.ID o.Kind)) with | true => (match (inb (↑x3 : Int) (dueA x2 (99 : Int)).fst.length) with | true => (match (inb (↑x3 : Int) (dueA x2 (99 : Int)).fst.length) with | true => (match ((at' evE.zero (dueA x2 (99 : Int)).fst (↑x3 : Int)).Kind == law08OpEventC2 (Op.mk (0 : Int) true o.At o.ID o.Kind)) with | true => (∃ x' : Nat, ((x'.le (dueA x2 (99 : Int)).fst.length) ∧ (((60 : Nat) - x' < (60 : Nat) - x3) ∧ ((True ∧ (True ∧ ((true = true) ∧ (True ∧ (True ∧ (True ∧ (True ∧ (True ∧ (((↑(cntN (dueA x2 (99 : Int)).fst (nearE o) x') : Int) = IntKind.i64.wrap ((↑(cntN (dueA x2 (99 : Int)).fst (nearE o) x3) : Int) + (1 : Int))) ∧ (((↑x' : Int) = IntKind.i64.wrap ((↑x3 : Int) + (1 : Int))) ∧ True)))))))))) ∧ ((l = l) ∧ (((o.At = o.At) ∧ ((o.ID = o.ID) ∧ ((o.Kind = o.Kind) ∧ True))) ∧ ((True ∧ True) ∧ ((True ∧ (True ∧ (True ∧ True))) ∧ (((dueA x2 (99 : Int)).snd.snd = (dueA x2 (99 : Int)).snd.snd) ∧ ((((0 : Int) = (0 : Int)) ∧ ((true = true) ∧ ((o.At = o.At) ∧ ((o.ID = o.ID) ∧ ((o.Kind = o.Kind) ∧ True))))) ∧ (((law08OpEventC0 (Op.mk (0 : Int) true o.At o.ID o.Kind) = law08OpEventC0 (Op.mk (0 : Int) true o.At o.ID o.Kind)) ∧ ((law08OpEventC1 (Op.mk (0 : Int) true o.At o.ID o.Kind) = law08OpEventC1 (Op.mk (0 : Int) true o.At o.ID o.Kind)) ∧ ((law08OpEventC2 (Op.mk (0 : Int) true o.At o.ID o.Kind) = law08OpEventC2 (Op.mk (0 : Int) true o.At o.ID o.Kind)) ∧ True))) ∧ ((((0 : Int) = (0 : Int)) ∧ (((0 : Int) = (0 : Int)) ∧ (((0 : Int) = (0 : Int)) ∧ True))) ∧ (((dueA x2 (99 : Int)).fst = (dueA x2 (99 : Int)).fst) ∧ (((dueA x2 (99 : Int)).snd.fst = (dueA x2 (99 : Int)).snd.fst) ∧ True)))))))))))))) | false => (∃ x' : Nat, ((x'.le (dueA x2 (99 : Int)).fst.length) ∧ (((60 : Nat) - x' < (60 : Nat) - x3) ∧ ((True ∧ (True ∧ ((true = true) ∧ (True ∧ (True ∧ (True ∧ (True ∧ (True ∧ (((↑(cntN (dueA x2 (99 : Int)).fst (nearE o) x') : Int) = (↑(cntN (dueA x2 (99 : Int)).fst (nearE o) x3) : Int)) ∧ (((↑x' : Int) = IntKind.i64.wrap ((↑x3 : Int) + (1 : Int))) ∧ True)))))))))) ∧ ((l = l) ∧ (((o.At = o.At) ∧ ((o.ID = o.ID) ∧ ((o.Kind = o.Kind) ∧ True))) ∧ ((True ∧ True) ∧ ((True ∧ (True ∧ (True ∧ True))) ∧ (((dueA x2 (99 : Int)).snd.snd = (dueA x2 (99 : Int)).snd.snd) ∧ ((((0 : Int) = (0 : Int)) ∧ ((true = true) ∧ ((o.At = o.At) ∧ ((o.ID = o.ID) ∧ ((o.Kind = o.Kind) ∧ True))))) ∧ (((law08OpEventC0 (Op.mk (0 : Int) true o.At o.ID o.Kind) = law08OpEventC0 (Op.mk (0 : Int) true o.At o.ID o.Kind)) ∧ ((law08OpEventC1 (Op.mk (0 : Int) true o.At o.ID o.Kind) = law08OpEventC1 (Op.mk (0 : Int) true o.At o.ID o.Kind)) ∧ ((law08OpEventC2 (Op.mk (0 : Int) true o.At o.ID o.Kind) = law08OpEventC2 (Op.mk (0 : Int) true o.At o.ID o.Kind)) ∧ True))) ∧ ((((0 : Int) = (0 : Int)) ∧ (((0 : Int) = (0 : Int)) ∧ (((0 : Int) = (0 : Int)) ∧ True))) ∧ (((dueA x2 (99 : Int)).fst = (dueA x2 (99 : Int)).fst) ∧ (((dueA x2 (99 : Int)).snd.fst = (dueA x2 (99 : Int)).snd.fst) ∧ True))))))))))))))) | false => False) | false => False) | false => (∃ x' : Nat, ((x'.le (dueA x2 (99 : Int)).fst.length) ∧ (((60 : Nat) - x' < (60 : Nat) - x3) ∧ ((True ∧ (True ∧ ((true = true) ∧ (True ∧ (True ∧ (True ∧ (True ∧ (True ∧ (((↑(cntN (dueA x2 (99 : Int)).fst (nearE o) x') : Int) = (↑(cntN (dueA x2 (99 : Int)).fst (nearE o) x3) : Int)) ∧ (((↑x' : Int) = IntKind.i64.wrap ((↑x3 : Int) + (1 : Int))) ∧ True)))))))))) ∧ ((l = l) ∧ (((o.At = o.At) ∧ ((o.ID = o.ID) ∧ ((o.Kind = o.Kind) ∧ True))) ∧ ((True ∧ True) ∧ ((True ∧ (True ∧ (True ∧ True))) ∧ (((dueA x2 (99 : Int)).snd.snd = (dueA x2 (99 : Int)).snd.snd) ∧ ((((0 : Int) = (0 : Int)) ∧ ((true = true) ∧ ((o.At = o.At) ∧ ((o.ID = o.ID) ∧ ((o.Kind = o.Kind) ∧ True))))) ∧ (((law08OpEventC0 (Op.mk (0 : Int) true o.At o.ID o.Kind) = law08OpEventC0 (Op.mk (0 : Int) true o.At o.ID o.Kind)) ∧ ((law08OpEventC1 (Op.mk (0 : Int) true o.At o.ID o.Kind) = law08OpEventC1 (Op.mk (0 : Int) true o.At o.ID o.Kind)) ∧ ((law08OpEventC2 (Op.mk (0 : Int) true o.At o.ID o.Kind) = law08OpEventC2 (Op.mk (0 : Int) true o.At o.ID o.Kind)) ∧ True))) ∧ ((((0 : Int) = (0 : Int)) ∧ (((0 : Int) = (0 : Int)) ∧ (((0 : Int) = (0 : Int)) ∧ True))) ∧ (((dueA x2 (99 : Int)).fst = (dueA x2 (99 : Int)).fst) ∧ (((dueA x2 (99 : Int)).snd.fst = (dueA x2 (99 : Int)).snd.fst) ∧ True))))))))))))))) | false => False) | false => False) | false => (((true = ((↑(cntN (dueA x2 (99 : Int)).fst (nearE o) x3) : Int) == (1 : Int))) ∧ True) ∧ ((l = l) ∧ True)))))) | false => False)))))))) | false => False) | false => False))))
theorem law08CalendarDropVc (l : List Ev) (o : Ev) : fnX X14 ({ (annOf (T := T) (O := O) [(6, { σ := Nat × HS, st := fun S x => (atP (atP (((S.keep [0, 3, 5, 6]).int 7 x.1)) 6 [0, 1] (.vec 2 (x.2).1 74)) 6 [0, 2] (.map 0 (x.2).2)), inv := fun _ x => x.1 ≤ 30 ∧ FillH x.1 x.2, m := fun x => 30 - x.1 }),
  (22, { σ := Nat, st := fun S x => ((S.keep [0, 3, 5, 6, 9, 10, 14, 16]).int 18 x).int 17 (cntN (S.gv 16 3) (nearE o) x), inv := fun S x => x ≤ (S.gv 16 3).length, m := fun x => 60 - x })] [] : Ann T O) with
  join := fun i =>
    match decide (i = 10) with
    | true => some { σ := HS, st := fun S x => (atP (atP ((S.keep [0, 3, 5, 6])) 6 [0, 1] (.vec 2 (x).1 74)) 6 [0, 2] (.map 0 (x).2)), inv := fun x => NearH x }
    | false => match decide (i = 17) with
      | true => some { σ := HS, st := fun S x => (atP (atP ((S.keep [0, 3, 5, 6, 9, 10, 14])) 6 [0, 1] (.vec 2 (x).1 74)) 6 [0, 2] (.map 0 (x).2)), inv := fun x => GoneH (nearE o) x }
      | false => match decide (i = 19) with
        | true => some { σ := HS, st := fun S x => (atP (atP ((S.keep [0, 3, 5, 6, 9, 10, 14])) 6 [0, 1] (.vec 2 (x).1 74)) 6 [0, 2] (.map 0 (x).2)), inv := fun x => OneH (nearE o) x }
        | false => none }) Try.f5 [.own 0, .agg [.raw (.int .i64 o.At), .raw (.int .i64 o.ID), .raw (.int .i64 o.Kind)]] [.ro 3 l] (ends [.ro 3 l] ⟨some (.raw (.bool true)), []⟩) = law08CalendarDropText l o := by kernel_rfl
theorem law08CalendarDropHolds (l : List Ev) (o : Ev) : law08CalendarDropText l o := by
  unfold law08CalendarDropText
  have n0 : law08OpEventC0 ⟨0, true, o.At, o.ID, o.Kind⟩ = (nearE o).At := evC0 _ _ _ _
  have n1 : law08OpEventC1 ⟨0, true, o.At, o.ID, o.Kind⟩ = (nearE o).ID := evC1 _ _ _ _
  have n2 : law08OpEventC2 ⟨0, true, o.At, o.ID, o.Kind⟩ = (nearE o).Kind := evC2 _ _ _ _
  rw [n0, n1, n2]
  have hE := nearE_near o
  generalize nearE o = e at hE ⊢
  clear n0 n1 n2
  refine ⟨⟨⟨(0, noThings, noPlaces), ⟨Nat.zero_le _, ⟨_, PutOk.start⟩⟩, by repeat' first | trivial | rfl | apply And.intro⟩, ?_⟩, ?_⟩
  · rintro ⟨i, L1, M1⟩ ⟨h2, hF⟩
    obtain ⟨P, h3⟩ := hF.ex
    dsimp only at h2 h3 ⊢
    have hs := h3.size
    have hlen := h3.len
    dsimp only at hs
    by_cases c1 : i < l.length
    · rw [dec_lt c1]
      by_cases c2 : i < 30
      · have hw : ((i + 1 : Nat) : Int) = IntKind.i64.wrap ((i : Int) + (1 : Int)) := by rw [wrap_id (by omega) (by omega)]; rfl
        rw [show decide ((i : Int) < 30) = true from decide_eq_true (by omega), inb_nat c1, evC0, evC1, evC2]
        rw [show decide (L1.length ≤ 1000) = true from decide_eq_true (by omega)]
        have hn := nearE_near (at' evE.zero l (i : Int))
        have hr : calendarRight ((at' evE.zero l (i : Int)).ID % 8) ((at' evE.zero l (i : Int)).Kind % 4) = true := right_near hn
        rw [hr, show decide (0 ≤ (at' evE.zero l (i : Int)).At % 16) = true from decide_eq_true hn.1]
        cases ht : thereB (calendarNumber ((at' evE.zero l (i : Int)).ID % 8) ((at' evE.zero l (i : Int)).Kind % 4)) M1
        · refine ⟨(i + 1, pushH (L1, M1) _ (nearE (at' evE.zero l (i : Int)))), ⟨by dsimp only; omega, ⟨_, h3.add hn ht⟩⟩, by dsimp only; omega, ?_⟩
          repeat' first | exact hw | trivial | rfl | apply And.intro
        · refine ⟨(i + 1, L1, M1), ⟨by dsimp only; omega, ⟨_, h3.skip⟩⟩, by dsimp only; omega, ?_⟩
          repeat' first | exact hw | trivial | rfl | apply And.intro
      · rw [show decide ((i : Int) < 30) = false from decide_eq_false (by omega)]
        exact ⟨(L1, M1), ⟨P, h3.ok, h3.near, by omega⟩, by repeat' first | trivial | rfl | apply And.intro⟩
    · rw [dec_ge (by omega)]
      exact ⟨(L1, M1), ⟨P, h3.ok, h3.near, by omega⟩, by repeat' first | trivial | rfl | apply And.intro⟩
  rintro ⟨L1, M1⟩ hN
  obtain ⟨P, h3⟩ := hN.ex
  have hs := h3.size
  have hlen := h3.len
  have hr : calendarRight e.ID e.Kind = true := right_near hE
  have a0 : decide (0 ≤ e.At) = true := decide_eq_true hE.1
  have hpl : thereB (calendarNumber e.ID e.Kind) M1 = true → 0 ≤ whereI (calendarNumber e.ID e.Kind) M1 ∧ whereI (calendarNumber e.ID e.Kind) M1 < L1.length := by
    intro ht
    obtain ⟨w, p, P', e1, e2, _⟩ := h3.out hE ht
    dsimp only at e1 e2
    rw [e1]
    omega
  dsimp only at hs ⊢
  rw [decide_eq_true hpl, decide_eq_true (⟨by omega, hpl⟩ : L1.length ≤ 1000 ∧ (thereB (calendarNumber e.ID e.Kind) M1 = true → 0 ≤ whereI (calendarNumber e.ID e.Kind) M1 ∧ whereI (calendarNumber e.ID e.Kind) M1 < L1.length)), hr]
  cases ht : thereB (calendarNumber e.ID e.Kind) M1
  · rw [Bool.and_false, bne_self_eq_false]
    refine ⟨⟨(L1, M1), ⟨P, h3, fun p hp => ?_⟩, by repeat' first | trivial | rfl | apply And.intro⟩, ?_⟩
    · cases hk : key e p
      · rfl
      · have := (h3.there hE).2 ⟨p, hp, hk⟩
        rw [ht] at this
        cases this
    rintro ⟨L2, M2⟩ hG
    obtain ⟨g1, g2, g3, g4, g5⟩ := hG.add hE
    dsimp only at g1 g2 ⊢
    rw [show decide (L2.length ≤ 1000) = true from decide_eq_true (by omega), a0, g1]
    generalize pushH (L2, M2) (calendarNumber e.ID e.Kind) e = s2 at g3 g4 g5 ⊢
    obtain ⟨L3, M3⟩ := s2
    dsimp only at g4 g5 ⊢
    rw [show decide (L3.length ≤ 1000) = true from decide_eq_true (by omega), g4]
    dsimp only [Bool.true_and, Bool.and_true, Bool.not_true, Bool.not_false, Bool.and_false, bne_self_eq_false, cond_true]
    refine ⟨⟨(L3, M3), g3, by repeat' first | trivial | rfl | apply And.intro⟩, ?_⟩
    rintro ⟨L4, M4⟩ h1
    obtain ⟨k1, k2, k3⟩ := h1.all
    dsimp only at k3 ⊢
    rw [show decide (L4.length ≤ 1000) = true from decide_eq_true (by omega)]
    generalize dueA (L4, M4) 99 = d at k1 k2 ⊢
    obtain ⟨a, s5⟩ := d
    dsimp only at k1 k2 ⊢
    refine ⟨⟨0, Nat.zero_le _, by repeat' first | trivial | rfl | apply And.intro⟩, ?_⟩
    intro x (hx : x ≤ a.length)
    by_cases c : x < a.length
    · have hw : ((x + 1 : Nat) : Int) = IntKind.i64.wrap ((x : Int) + (1 : Int)) := by rw [wrap_id (by omega) (by omega)]; rfl
      have hs := cntN_succ (e := e) c
      have hle : cntN a e x ≤ x := Nat.le_trans List.countP_le_length (by rw [List.length_take]; omega)
      have hat : at' ez a (x : Int) = a[x] := at_nat c
      rw [dec_lt c, inb_nat c, hat]
      unfold key at hs
      cases q1 : a[x].ID == e.ID
      · rw [q1] at hs
        have hs2 : ((cntN a e (x + 1) : Nat) : Int) = (cntN a e x : Int) := by
            have h9 : cntN a e (x + 1) = cntN a e x := by simpa using hs
            rw [h9]
        refine ⟨x + 1, c, by omega, ?_⟩
        repeat' first | exact hw | exact hs2 | trivial | rfl | apply And.intro
      · cases q2 : a[x].Kind == e.Kind
        · rw [q1, q2] at hs
          have hs2 : ((cntN a e (x + 1) : Nat) : Int) = (cntN a e x : Int) := by
            have h9 : cntN a e (x + 1) = cntN a e x := by simpa using hs
            rw [h9]
          refine ⟨x + 1, c, by omega, ?_⟩
          repeat' first | exact hw | exact hs2 | trivial | rfl | apply And.intro
        · rw [q1, q2] at hs
          have hs2 : ((cntN a e (x + 1) : Nat) : Int) = IntKind.i64.wrap ((cntN a e x : Int) + (1 : Int)) := by
            rw [wrap_id (by omega) (by omega), hs]
            rfl
          refine ⟨x + 1, c, by omega, ?_⟩
          repeat' first | exact hw | exact hs2 | trivial | rfl | apply And.intro
    · have e1 : x = a.length := by omega
      subst e1
      rw [dec_ge (Nat.le_refl _), k1]
      repeat' first | trivial | rfl | apply And.intro
  · obtain ⟨w, p, P', e1, e2, e3, e4, e5, e6, e7⟩ := h3.out hE ht
    dsimp only at e1 e2 e3
    obtain ⟨e8, e9⟩ := (key_iff _ _).1 e4
    rw [Bool.and_true, bne_self_eq_false, e1, Int.toNat_natCast, e3, show (tE p).XID = p.ID from rfl, show (tE p).XKind = p.Kind from rfl, e8, e9]
    have hl : (((takeH (L1, M1) w).1.length : Int) != IntKind.i64.wrap ((L1.length : Int) - 1)) = false := by
      rw [takeH_length, wrap_id (by omega) (by omega)]
      dsimp only
      rw [bne_eq_false_iff_eq]
      omega
    dsimp only [cond_true]
    rw [bne_self_eq_false, bne_self_eq_false, bne_self_eq_false, hl]
    refine ⟨⟨takeH (L1, M1) w, ⟨P', e6, e7⟩, by repeat' first | trivial | rfl | apply And.intro⟩, ?_⟩
    rintro ⟨L2, M2⟩ hG
    obtain ⟨g1, g2, g3, g4, g5⟩ := hG.add hE
    dsimp only at g1 g2 ⊢
    rw [show decide (L2.length ≤ 1000) = true from decide_eq_true (by omega), a0, g1]
    generalize pushH (L2, M2) (calendarNumber e.ID e.Kind) e = s2 at g3 g4 g5 ⊢
    obtain ⟨L3, M3⟩ := s2
    dsimp only at g4 g5 ⊢
    rw [show decide (L3.length ≤ 1000) = true from decide_eq_true (by omega), g4]
    dsimp only [Bool.true_and, Bool.and_true, Bool.not_true, Bool.not_false, Bool.and_false, bne_self_eq_false, cond_true]
    refine ⟨⟨(L3, M3), g3, by repeat' first | trivial | rfl | apply And.intro⟩, ?_⟩
    rintro ⟨L4, M4⟩ h1
    obtain ⟨k1, k2, k3⟩ := h1.all
    dsimp only at k3 ⊢
    rw [show decide (L4.length ≤ 1000) = true from decide_eq_true (by omega)]
    generalize dueA (L4, M4) 99 = d at k1 k2 ⊢
    obtain ⟨a, s5⟩ := d
    dsimp only at k1 k2 ⊢
    refine ⟨⟨0, Nat.zero_le _, by repeat' first | trivial | rfl | apply And.intro⟩, ?_⟩
    intro x (hx : x ≤ a.length)
    by_cases c : x < a.length
    · have hw : ((x + 1 : Nat) : Int) = IntKind.i64.wrap ((x : Int) + (1 : Int)) := by rw [wrap_id (by omega) (by omega)]; rfl
      have hs := cntN_succ (e := e) c
      have hle : cntN a e x ≤ x := Nat.le_trans List.countP_le_length (by rw [List.length_take]; omega)
      have hat : at' ez a (x : Int) = a[x] := at_nat c
      rw [dec_lt c, inb_nat c, hat]
      unfold key at hs
      cases q1 : a[x].ID == e.ID
      · rw [q1] at hs
        have hs2 : ((cntN a e (x + 1) : Nat) : Int) = (cntN a e x : Int) := by
            have h9 : cntN a e (x + 1) = cntN a e x := by simpa using hs
            rw [h9]
        refine ⟨x + 1, c, by omega, ?_⟩
        repeat' first | exact hw | exact hs2 | trivial | rfl | apply And.intro
      · cases q2 : a[x].Kind == e.Kind
        · rw [q1, q2] at hs
          have hs2 : ((cntN a e (x + 1) : Nat) : Int) = (cntN a e x : Int) := by
            have h9 : cntN a e (x + 1) = cntN a e x := by simpa using hs
            rw [h9]
          refine ⟨x + 1, c, by omega, ?_⟩
          repeat' first | exact hw | exact hs2 | trivial | rfl | apply And.intro
        · rw [q1, q2] at hs
          have hs2 : ((cntN a e (x + 1) : Nat) : Int) = IntKind.i64.wrap ((cntN a e x : Int) + (1 : Int)) := by
            rw [wrap_id (by omega) (by omega), hs]
            rfl
          refine ⟨x + 1, c, by omega, ?_⟩
          repeat' first | exact hw | exact hs2 | trivial | rfl | apply And.intro
    · have e1 : x = a.length := by omega
      subst e1
      rw [dec_ge (Nat.le_refl _), k1]
      repeat' first | trivial | rfl | apply And.intro
noncomputable def law08CalendarDropCon : Con T O := fun args cs => match args, cs with
  | [.own 0, .agg [.raw (.int .i64 _), .raw (.int .i64 _), .raw (.int .i64 _)]], [.ro 3 _] => .ret ⟨some (.raw (.bool true)), []⟩
  | _, _ => .fail
theorem law08CalendarDropOk : ConOk R Try.prog 5 law08CalendarDropCon := con_of_fn R (X14) (TabOk.con R X14Ok) mixed Try.call5 Try.func5 law08CalendarDropCon (by
  intro args cs K h
  unfold law08CalendarDropCon at h
  split at h
  · rename_i o_0 o_1 o_2 l
    refine ⟨{ (annOf (T := T) (O := O) [(6, { σ := Nat × HS, st := fun S x => (atP (atP (((S.keep [0, 3, 5, 6]).int 7 x.1)) 6 [0, 1] (.vec 2 (x.2).1 74)) 6 [0, 2] (.map 0 (x.2).2)), inv := fun _ x => x.1 ≤ 30 ∧ FillH x.1 x.2, m := fun x => 30 - x.1 }),
  (22, { σ := Nat, st := fun S x => ((S.keep [0, 3, 5, 6, 9, 10, 14, 16]).int 18 x).int 17 (cntN (S.gv 16 3) (nearE (⟨o_0, o_1, o_2⟩ : Ev)) x), inv := fun S x => x ≤ (S.gv 16 3).length, m := fun x => 60 - x })] [] : Ann T O) with
  join := fun i =>
    match decide (i = 10) with
    | true => some { σ := HS, st := fun S x => (atP (atP ((S.keep [0, 3, 5, 6])) 6 [0, 1] (.vec 2 (x).1 74)) 6 [0, 2] (.map 0 (x).2)), inv := fun x => NearH x }
    | false => match decide (i = 17) with
      | true => some { σ := HS, st := fun S x => (atP (atP ((S.keep [0, 3, 5, 6, 9, 10, 14])) 6 [0, 1] (.vec 2 (x).1 74)) 6 [0, 2] (.map 0 (x).2)), inv := fun x => GoneH (nearE (⟨o_0, o_1, o_2⟩ : Ev)) x }
      | false => match decide (i = 19) with
        | true => some { σ := HS, st := fun S x => (atP (atP ((S.keep [0, 3, 5, 6, 9, 10, 14])) 6 [0, 1] (.vec 2 (x).1 74)) 6 [0, 2] (.map 0 (x).2)), inv := fun x => OneH (nearE (⟨o_0, o_1, o_2⟩ : Ev)) x }
        | false => none }, _, fun v S hv => ⟨_, h, hv⟩, ?_⟩
    rw [law08CalendarDropVc l (⟨o_0, o_1, o_2⟩ : Ev)]
    exact law08CalendarDropHolds l (⟨o_0, o_1, o_2⟩ : Ev)
  · exact h.elim)
noncomputable def tab15 : Tab T O := (5, law08CalendarDropCon) :: tab14
theorem tabOk15 : TabOk R Try.prog tab15 := TabOk.cons R law08CalendarDropOk <| tabOk14
noncomputable def X15 : Ctx T O := { X0 with con := conOf tab15 }
theorem X15Ok : TabOk R X15.P tab15 := tabOk15
end Go.Proofs.Ythihpebdcamilaa
