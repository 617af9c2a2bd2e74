/-
  Part of a proof over the seat Ytkcnocigkblbiaa: printed by a small program or typed by hand.
-/
import Derived.Test.YtkcnocigkblbiaaFairS17
import Derived.KernelRfl
namespace Go.Proofs.Ytkcnocigkblbiaa
open Go.Sx Go.Proofs Classical
/-! ### notes of windows that follow one another -/
def fairP (b : Int) : Int := IntKind.i64.wrap (1 + (IntKind.i64.wrap (b.tmod 40 + 40)).tmod 40)
def fairE (a b : Int) : Int := IntKind.i64.wrap (1 + (IntKind.i64.wrap (a.tmod (fairP b) + fairP b)).tmod (fairP b))
theorem fair_wt (a b : Int) : Wt (fairE a b) (fairP b) ∧ fairP b ≤ 40 := by
  have m1 := Int.tmod_lt_of_pos b (b := 40) (by omega)
  have m2 := Int.lt_tmod_of_pos b (b := 40) (by omega)
  have m3 := Int.tmod_nonneg (40 : Int) (a := b.tmod 40 + 40) (by omega)
  have m4 := Int.tmod_lt_of_pos (b.tmod 40 + 40) (b := 40) (by omega)
  have hp : 1 ≤ fairP b ∧ fairP b ≤ 40 := by
    unfold fairP
    rw [wrap_id (n := b.tmod 40 + 40) (by omega) (by omega), wrap_id (by omega) (by omega)]
    omega
  unfold fairE
  generalize fairP b = p at hp
  have n1 := Int.tmod_lt_of_pos a (b := p) (by omega)
  have n2 := Int.lt_tmod_of_pos a (b := p) (by omega)
  rw [wrap_id (n := a.tmod p + p) (by omega) (by omega)]
  have n3 := Int.tmod_nonneg p (a := a.tmod p + p) (by omega)
  have n4 := Int.tmod_lt_of_pos (a.tmod p + p) (b := p) (by omega)
  rw [wrap_id (by omega) (by omega)]
  exact ⟨⟨by omega, by omega, by omega⟩, hp.2⟩
def noteF (e p i t : Int) : Note := ⟨7, 0, i, ref04Release e p i, ref04Deadline e p i, ref04Bit e p i, ref04Group e p i, ref04Release e p i, t, 0⟩
structure FairOk (e p : Int) (i : Nat) (last : Int) (l : List Note) : Prop where
  len : l.length = i
  some : i ≤ 20
  note : ∀ k (h : k < l.length), ∃ t, l[k] = noteF e p (k + 1 : Nat) t ∧ ref04Release e p (k + 1 : Nat) ≤ t ∧ t < ref04Deadline e p (k + 1 : Nat) ∧ t ≤ last
  up : l.Pairwise (fun a b => a.At < b.At)
  ahead : last = -1 ∧ i = 0 ∨ 0 < i ∧ last < ref04Deadline e p i ∧ 0 ≤ last
theorem num_small {k : Nat} (h : 1 ≤ k) (h2 : k ≤ 21) : Num (k : Int) := ⟨by omega, by omega⟩
section
variable {e p : Int} (hw : Wt e p)
include hw
theorem dead_up {i j : Int} (hi : Num i) (hj : Num j) (h : i < j) : ref04Deadline e p i < ref04Deadline e p j := by
  obtain ⟨h1, h2, h3⟩ := id hw
  obtain ⟨a1, a2⟩ := deadline_of hw hi
  obtain ⟨b1, b2⟩ := deadline_of hw hj
  refine Int.not_le.1 fun hn => ?_
  have m1 := Int.mul_le_mul_of_nonneg_left hn (show 0 ≤ e by omega)
  have m2 := Int.mul_le_mul_of_nonneg_right (show i + 1 ≤ j by omega) (show 0 ≤ p by omega)
  rw [Int.add_mul, Int.one_mul] at m2
  omega
theorem rel_up {i j : Int} (hi : Num i) (hj : Num j) (h : i ≤ j) : ref04Release e p i ≤ ref04Release e p j := by
  obtain ⟨h1, h2, h3⟩ := id hw
  obtain ⟨a1, a2⟩ := release_of hw hi
  obtain ⟨b1, b2⟩ := release_of hw hj
  refine Int.not_lt.1 fun hn => ?_
  have m1 := Int.mul_le_mul_of_nonneg_left (show ref04Release e p j + 1 ≤ ref04Release e p i by omega) (show 0 ≤ e by omega)
  have m2 := Int.mul_le_mul_of_nonneg_right h (show 0 ≤ p by omega)
  rw [Int.mul_add, Int.mul_one] at m1
  omega
theorem rel_dead {i : Int} (hi : Num i) : ref04Release e p i < ref04Deadline e p i := by
  obtain ⟨h1, h2, h3⟩ := id hw
  obtain ⟨a1, a2⟩ := release_of hw hi
  obtain ⟨b1, b2⟩ := deadline_of hw hi
  refine Int.not_le.1 fun hn => ?_
  have m1 := Int.mul_le_mul_of_nonneg_left hn (show 0 ≤ e by omega)
  omega
theorem dead_small {i : Int} (hi : Num i) (h : i ≤ 21) (hp : p ≤ 40) : ref04Deadline e p i ≤ 1000 := by
  obtain ⟨h1, h2, h3⟩ := id hw
  obtain ⟨b1, b2⟩ := deadline_of hw hi
  have hi1 := hi.1
  refine Int.not_lt.1 fun hn => ?_
  have m1 := Int.mul_le_mul_of_nonneg_left (show 1001 ≤ ref04Deadline e p i by omega) (show 0 ≤ e by omega)
  have m2 := Int.mul_le_mul h hp (by omega) (by omega)
  omega
/-- one more -/
theorem FairOk.add {i : Nat} {last t : Int} {l : List Note} (h : FairOk e p i last l) (hi : i < 20) (h1 : ref04Release e p (i + 1 : Nat) ≤ t) (h2 : t < ref04Deadline e p (i + 1 : Nat)) (h3 : last < t) : FairOk e p (i + 1) t (l ++ [noteF e p (i + 1 : Nat) t]) := by
  have r0 := (release_bound hw (num_small (k := i + 1) (by omega) (by omega))).1
  refine ⟨by rw [List.length_append, h.len]; rfl, by omega, fun k hk => ?_, ?_, .inr ⟨by omega, h2, by omega⟩⟩
  · rw [List.length_append, h.len, List.length_singleton] at hk
    by_cases hki : k < i
    · obtain ⟨s, a1, a2, a3, a4⟩ := h.note k (by rw [h.len]; exact hki)
      refine ⟨s, by rw [List.getElem_append_left (by rw [h.len]; exact hki)]; exact a1, a2, a3, by omega⟩
    · have e : k = i := by omega
      subst e
      refine ⟨t, ?_, h1, h2, Int.le_refl _⟩
      rw [List.getElem_append_right (by rw [h.len]; exact Nat.le_refl _)]
      simp
  · rw [List.pairwise_append]
    refine ⟨h.up, List.pairwise_singleton _ _, fun a ha b hb => ?_⟩
    rw [List.mem_singleton] at hb
    subst hb
    obtain ⟨k, hk, rfl⟩ := List.getElem_of_mem ha
    obtain ⟨s, a1, a2, a3, a4⟩ := h.note k hk
    rw [a1]
    show s < t
    omega
/-- there is room -/
theorem FairOk.room {i : Nat} {last : Int} {l : List Note} (h : FairOk e p i last l) (hi : i < 20) : last + 1 < ref04Deadline e p (i + 1 : Nat) ∧ -1 ≤ last := by
  have r0 := (release_bound hw (num_small (k := i + 1) (by omega) (by omega))).1
  have r1 := rel_dead hw (num_small (k := i + 1) (by omega) (by omega))
  rcases h.ahead with ⟨a, b⟩ | ⟨a, b, c⟩
  · omega
  · have := dead_up hw (num_small (k := i) a (by omega)) (num_small (k := i + 1) (by omega) (by omega)) (by omega)
    omega
end
theorem firstI_none {α : Type} {q : α → Bool} : ∀ {l : List α} {i : Int}, (∀ a ∈ l, q a = false) → firstI q l i = -1
  | [], _, _ => rfl
  | a :: l, i, h => by
    simp only [firstI]
    rw [h a (by simp)]
    exact firstI_none fun b hb => h b (List.mem_cons_of_mem _ hb)
theorem orderGo_ok : ∀ (l : List Note) (M : List (Int × Note)) (i : Int), (∀ n ∈ l, n.ID = 7) → (match l with
    | [] => True
    | n :: _ => match mget 7 M with
      | some a => auditFollows n a = true
      | none => n.SubIndex = 1) → (∀ k (h : k + 1 < l.length), auditFollows l[k + 1] l[k] = true) → orderGo M l i = -1
  | [], _, _, _, _, _ => rfl
  | n :: l, M, i, h1, h2, h3 => by
    have hid := h1 n (by simp)
    have hr : orderRight M n = true := by
      unfold orderRight
      rw [hid]
      dsimp only at h2
      cases hm : mget 7 M with
      | none => rw [hm] at h2; exact beq_iff_eq.2 h2
      | some a => rw [hm] at h2; exact h2
    simp only [orderGo]
    rw [hr]
    simp only [cond_true]
    refine orderGo_ok l (mput n.ID n M) (i + 1) (fun a ha => h1 a (List.mem_cons_of_mem _ ha)) ?_ fun k hk => h3 (k + 1) (by simp only [List.length_cons]; omega)
    cases l with
    | nil => trivial
    | cons b l =>
      dsimp only
      rw [mget_put, if_pos hid.symm]
      exact h3 0 (by simp)
theorem slotsGo_ok : ∀ (l : List Note) (q : Option Int) (I C : List (Int × Bool)) (i : Int), (∀ n ∈ l, n.Core = 0) → (∀ n ∈ l, match q with
    | some a => a < n.At
    | none => True) → (q = none → I = [] ∧ C = []) → l.Pairwise (fun a b => a.At < b.At) → slotsGo 1 q I C l i = -1
  | [], _, _, _, _, _, _, _, _ => rfl
  | n :: l, q, I, C, i, h1, h2, h3, h4 => by
    rw [List.pairwise_cons] at h4
    have hq := h2 n (by simp)
    have hb : back? q n = false := by
      unfold back?
      cases q with
      | none => rfl
      | some a => exact decide_eq_false (by dsimp only at hq; omega)
    have hf : (bif fresh? q n then [] else I) = [] ∧ (bif fresh? q n then [] else C) = [] := by
      cases q with
      | none => obtain ⟨rfl, rfl⟩ := h3 rfl; exact ⟨rfl, rfl⟩
      | some a =>
        have : fresh? (some a) n = true := bne_iff_ne.2 (by dsimp only at hq; omega)
        rw [this]
        exact ⟨rfl, rfl⟩
    simp only [slotsGo]
    rw [hb, hf.1, hf.2]
    have hs : slotsBad 1 [] [] n = false := by
      unfold slotsBad
      rw [h1 n (by simp)]
      rfl
    rw [hs]
    simp only [cond_false]
    exact slotsGo_ok l (some n.At) _ _ (i + 1) (fun a ha => h1 a (List.mem_cons_of_mem _ ha)) (fun a ha => h4.1 a ha) (fun h => by cases h) h4.2
section
variable {e p : Int} (hw : Wt e p) {i : Nat} {last : Int} {l : List Note} (h : FairOk e p i last l)
include hw h
omit hw in
theorem FairOk.check : checkK l 1 = 0 ∧ checkAt l 1 = -1 := by
  have mem : ∀ n ∈ l, ∃ (k : Nat) (t : Int), k < 20 ∧ n = noteF e p (k + 1 : Nat) t ∧ ref04Release e p (k + 1 : Nat) ≤ t ∧ t < ref04Deadline e p (k + 1 : Nat) := by
    intro n hn
    obtain ⟨k, hk, rfl⟩ := List.getElem_of_mem hn
    obtain ⟨t, a1, a2, a3, a4⟩ := h.note k hk
    exact ⟨k, t, by have := h.len; have := h.some; omega, a1, a2, a3⟩
  have e1 : firstI auditLate1 l 0 = -1 := firstI_none fun n hn => by
    obtain ⟨k, t, _, rfl, a2, a3⟩ := mem n hn
    unfold auditLate1 auditTimely noteF
    dsimp only
    rw [decide_eq_true a2, decide_eq_true a3]
    rfl
  have e2 : orderGo [] l 0 = -1 := by
    refine orderGo_ok l [] 0 (fun n hn => ?_) ?_ fun k hk => ?_
    · obtain ⟨k, t, _, rfl, _⟩ := mem n hn
      rfl
    · cases l with
      | nil => trivial
      | cons n l =>
        obtain ⟨t, a1, _⟩ := h.note 0 (by simp)
        show n.SubIndex = 1
        have : n = noteF e p 1 t := a1
        rw [this]
        rfl
    · obtain ⟨t, a1, a2, a3, a4⟩ := h.note k (by omega)
      obtain ⟨s, b1, b2, b3, b4⟩ := h.note (k + 1) hk
      have hlt := List.pairwise_iff_getElem.1 h.up k (k + 1) (by omega) hk (by omega)
      rw [a1, b1] at hlt
      have hlt : t < s := hlt
      have hk20 : k + 1 < 20 := by have := h.len; have := h.some; omega
      rw [a1, b1]
      unfold auditFollows noteF
      dsimp only
      rw [show decide ((0 : Int) > 0) = false from rfl, wrap_id (by omega) (by omega), show ((((k + 1 + 1 : Nat) : Int) - 1 == ((k + 1 : Nat) : Int))) = true from beq_iff_eq.2 (by omega), show decide (s > t) = true from decide_eq_true hlt]
      rfl
  have e3 : slotsGo 1 none [] [] l 0 = -1 := by
    refine slotsGo_ok l none [] [] 0 (fun n hn => ?_) (fun n hn => trivial) (fun _ => ⟨rfl, rfl⟩) h.up
    obtain ⟨k, t, _, rfl, _⟩ := mem n hn
    rfl
  unfold checkK checkAt
  rw [e1, e2, e3]
  exact ⟨rfl, rfl⟩
theorem FairOk.windows : firstI (notOf e p) l 0 = -1 := by
  refine firstI_none fun n hn => ?_
  obtain ⟨k, hk, rfl⟩ := List.getElem_of_mem hn
  obtain ⟨t, a1, a2, a3, a4⟩ := h.note k hk
  have hnum := num_small (k := k + 1) (by omega) (by have := h.len; have := h.some; omega)
  obtain ⟨b1, b2, c0, c1, c2, c3, c4, c5, _⟩ := wOf_of hw (k + 1 : Nat) 0
  obtain ⟨_, d0, d1, d2, d3, d4, d5⟩ := of_of hw hnum
  rw [a1]
  unfold notOf auditOf noteF
  dsimp only
  rw [b1, c0, c1, c2, c3, c4, c5, d0, d1, d2, d3, d4, d5]
  simp
theorem FairOk.ran {x : Nat} (hx : x < l.length) (hl : x + 1 = l.length ∨ x + 1 < l.length ∧ ref04Deadline e p (x + 1 : Nat) ≤ ref04Release e p (x + 2 : Nat)) : ranN 7 0 0 (ref04Deadline e p (x + 1 : Nat)) l = x + 1 := by
  have hlen := h.len
  have hsome := h.some
  have hsplit : l = l.take (x + 1) ++ l.drop (x + 1) := (List.take_append_drop _ _).symm
  unfold ranN
  rw [hsplit, List.countP_append]
  have c1 : (l.take (x + 1)).countP (ranOf 7 0 0 (ref04Deadline e p (x + 1 : Nat))) = x + 1 := by
    have : (l.take (x + 1)).countP (ranOf 7 0 0 (ref04Deadline e p (x + 1 : Nat))) = (l.take (x + 1)).length := by
      rw [List.countP_eq_length]
      intro n hn
      obtain ⟨k, hk, rfl⟩ := List.getElem_of_mem hn
      rw [List.length_take] at hk
      rw [List.getElem_take]
      obtain ⟨t, a1, a2, a3, a4⟩ := h.note k (by omega)
      have r0 := (release_bound hw (num_small (k := k + 1) (by omega) (by omega))).1
      have hd : ref04Deadline e p (k + 1 : Nat) ≤ ref04Deadline e p (x + 1 : Nat) := by
        by_cases hkx : k = x
        · subst hkx; exact Int.le_refl _
        · exact Int.le_of_lt (dead_up hw (num_small (k := k + 1) (by omega) (by omega)) (num_small (k := x + 1) (by omega) (by omega)) (by omega))
      rw [a1]
      unfold ranOf noteF
      dsimp only
      rw [decide_eq_true (show (0 : Int) ≤ t by omega), decide_eq_true (show t < ref04Deadline e p (x + 1 : Nat) by omega)]
      rfl
    rw [this, List.length_take]
    omega
  have c2 : (l.drop (x + 1)).countP (ranOf 7 0 0 (ref04Deadline e p (x + 1 : Nat))) = 0 := by
    rw [List.countP_eq_zero]
    intro n hn
    obtain ⟨k, hk, rfl⟩ := List.getElem_of_mem hn
    rw [List.length_drop] at hk
    rw [List.getElem_drop]
    obtain ⟨t, a1, a2, a3, a4⟩ := h.note (x + 1 + k) (by omega)
    rcases hl with hl | ⟨_, hl⟩
    · omega
    · have hr := rel_up hw (num_small (k := x + 2) (by omega) (by omega)) (num_small (k := x + 1 + k + 1) (by omega) (by omega)) (by omega)
      rw [a1]
      unfold ranOf noteF
      dsimp only
      rw [decide_eq_false (show ¬ t < ref04Deadline e p (x + 1 : Nat) by omega)]
      simp
  rw [c1, c2]
end
theorem fair_lag {e p : Int} (hw : Wt e p) (hp : p ≤ 40) {k : Nat} (h1 : 1 ≤ k) (h2 : k ≤ 20) : ref09Fair e p (ref04Deadline e p k) k = true := by
  have hn := num_small (k := k) h1 (by omega)
  obtain ⟨q1, q2⟩ := deadline_of hw hn
  obtain ⟨d1, d2⟩ := deadline_bound hw hn
  have d3 := dead_small hw hn (by omega) hp
  obtain ⟨w1, w2, w3⟩ := id hw
  have hr : ref09Right e p (ref04Deadline e p k) k = true := by
    unfold ref09Right
    rw [check_of hw, show decide (ref04Deadline e p k ≥ 0) = true from decide_eq_true (by omega), show decide (ref04Deadline e p k ≤ 1099511627776) = true from decide_eq_true (by omega), show decide ((k : Int) ≥ 0) = true from decide_eq_true (by omega), show decide ((k : Int) ≤ 1099511627776) = true from decide_eq_true (by omega)]
  have m1 := mul_le (a := e) (b := ref04Deadline e p k) (A := 40) (B := 1000) (by omega) (by omega) (by omega) d3
  have m2 := mul_le (a := p) (b := (k : Int)) (A := 40) (B := 20) (by omega) (by omega) hp (by omega)
  have hl : IntKind.i64.wrap (IntKind.i64.wrap (e * ref04Deadline e p k) - IntKind.i64.wrap (p * k)) = e * ref04Deadline e p k - p * k := by
    rw [wrap_id (n := e * ref04Deadline e p k) (by omega) (by omega), wrap_id (n := p * k) (by omega) (by omega), wrap_id (by omega) (by omega)]
  have hc : (k : Int) * p = p * k := Int.mul_comm _ _
  have c0 : ref09LagC0 e p (ref04Deadline e p k) k = e * ref04Deadline e p k - p * k := by
    unfold ref09LagC0
    rw [hr, hl]
    rfl
  have c1 : ref09LagC1 e p (ref04Deadline e p k) k = 0 := by
    unfold ref09LagC1
    rw [hr]
    rfl
  unfold ref09Fair
  rw [c0, c1, wrap_id (n := 0 - p) (by omega) (by omega), show decide (e * ref04Deadline e p k - p * k > 0 - p) = true from decide_eq_true (by omega), show decide (e * ref04Deadline e p k - p * k < p) = true from decide_eq_true (by omega)]
  rfl
theorem slot_in (w : Int) {f room : Int} (h1 : 1 ≤ room) (h2 : room ≤ 1000) (h3 : 0 ≤ f) (h4 : f ≤ 1000) : ∃ t, IntKind.i64.wrap (f + (IntKind.i64.wrap (w.tmod room + room)).tmod room) = t ∧ f ≤ t ∧ t < f + room := by
  have n1 := Int.tmod_lt_of_pos w (b := room) (by omega)
  have n2 := Int.lt_tmod_of_pos w (b := room) (by omega)
  rw [wrap_id (n := w.tmod room + room) (by omega) (by omega)]
  have n3 := Int.tmod_nonneg room (a := w.tmod room + room) (by omega)
  have n4 := Int.tmod_lt_of_pos (w.tmod room + room) (b := room) (by omega)
  rw [wrap_id (by omega) (by omega)]
  exact ⟨_, rfl, by omega, by omega⟩
theorem auditPre_all {e p : Int} (hw : Wt e p) (n : Note) : auditOfPre n e p = true := by
  unfold auditOfPre
  rw [(wOf_of hw n.SubIndex n.Since).1]
  dsimp only
  split
  · split <;> rfl
  · rfl

/-! ### regatta/regattalaw20.AuditFair -/
def law20AuditFairText (a b : Int) (wh : List Int) : Prop := (match (IntKind.i64.wrap ((1 : Int) + (IntKind.i64.wrap (b.tmod (40 : Int) + (40 : Int))).tmod (40 : Int)) != (0 : Int)) with | true => (match (IntKind.i64.wrap ((1 : Int) + (IntKind.i64.wrap (b.tmod (40 : Int) + (40 : Int))).tmod (40 : Int)) != (0 : Int)) with | true => (((∃ x : Nat × Int × List Note, (((x.fst ≤ wh.length) ∧ (FairOk (fairE a b) (fairP b) x.fst x.snd.fst x.snd.snd)) ∧ ((True ∧ (True ∧ ((true = true) ∧ (True ∧ (True ∧ ((x.snd.fst = (-1 : Int)) ∧ (((↑x.fst : Int) = (0 : Int)) ∧ True))))))) ∧ ((wh = wh) ∧ (((a = a) ∧ ((b = b) ∧ True)) ∧ (((IntKind.i64.wrap ((1 : Int) + (IntKind.i64.wrap (a.tmod (IntKind.i64.wrap ((1 : Int) + (IntKind.i64.wrap (b.tmod (40 : Int) + (40 : Int))).tmod (40 : Int))) + IntKind.i64.wrap ((1 : Int) + (IntKind.i64.wrap (b.tmod (40 : Int) + (40 : Int))).tmod (40 : Int)))).tmod (IntKind.i64.wrap ((1 : Int) + (IntKind.i64.wrap (b.tmod (40 : Int) + (40 : Int))).tmod (40 : Int)))) = IntKind.i64.wrap ((1 : Int) + (IntKind.i64.wrap (a.tmod (IntKind.i64.wrap ((1 : Int) + (IntKind.i64.wrap (b.tmod (40 : Int) + (40 : Int))).tmod (40 : Int))) + IntKind.i64.wrap ((1 : Int) + (IntKind.i64.wrap (b.tmod (40 : Int) + (40 : Int))).tmod (40 : Int)))).tmod (IntKind.i64.wrap ((1 : Int) + (IntKind.i64.wrap (b.tmod (40 : Int) + (40 : Int))).tmod (40 : Int))))) ∧ ((IntKind.i64.wrap ((1 : Int) + (IntKind.i64.wrap (b.tmod (40 : Int) + (40 : Int))).tmod (40 : Int)) = IntKind.i64.wrap ((1 : Int) + (IntKind.i64.wrap (b.tmod (40 : Int) + (40 : Int))).tmod (40 : Int))) ∧ True)) ∧ ((x.snd.snd = []) ∧ True))))))) ∧ (∀ x : Nat × Int × List Note, (((x.fst ≤ wh.length) ∧ (FairOk (fairE a b) (fairP b) x.fst x.snd.fst x.snd.snd)) → (match (decide ((↑x.fst : Int) < (↑wh.length : Int))) with | true => (match (decide ((↑x.fst : Int) < (20 : Int))) with | true => (match (ref04OfPre (IntKind.i64.wrap ((1 : Int) + (IntKind.i64.wrap (a.tmod (IntKind.i64.wrap ((1 : Int) + (IntKind.i64.wrap (b.tmod (40 : Int) + (40 : Int))).tmod (40 : Int))) + IntKind.i64.wrap ((1 : Int) + (IntKind.i64.wrap (b.tmod (40 : Int) + (40 : Int))).tmod (40 : Int)))).tmod (IntKind.i64.wrap ((1 : Int) + (IntKind.i64.wrap (b.tmod (40 : Int) + (40 : Int))).tmod (40 : Int))))) (IntKind.i64.wrap ((1 : Int) + (IntKind.i64.wrap (b.tmod (40 : Int) + (40 : Int))).tmod (40 : Int))) (IntKind.i64.wrap ((1 : Int) + (↑x.fst : Int))) (0 : Int)) with | true => (match (decide (ref04OfC1 (IntKind.i64.wrap ((1 : Int) + (IntKind.i64.wrap (a.tmod (IntKind.i64.wrap ((1 : Int) + (IntKind.i64.wrap (b.tmod (40 : Int) + (40 : Int))).tmod (40 : Int))) + IntKind.i64.wrap ((1 : Int) + (IntKind.i64.wrap (b.tmod (40 : Int) + (40 : Int))).tmod (40 : Int)))).tmod (IntKind.i64.wrap ((1 : Int) + (IntKind.i64.wrap (b.tmod (40 : Int) + (40 : Int))).tmod (40 : Int))))) (IntKind.i64.wrap ((1 : Int) + (IntKind.i64.wrap (b.tmod (40 : Int) + (40 : Int))).tmod (40 : Int))) (IntKind.i64.wrap ((1 : Int) + (↑x.fst : Int))) (0 : Int) ≤ x.snd.fst)) with | true => (match (decide (IntKind.i64.wrap (ref04OfC2 (IntKind.i64.wrap ((1 : Int) + (IntKind.i64.wrap (a.tmod (IntKind.i64.wrap ((1 : Int) + (IntKind.i64.wrap (b.tmod (40 : Int) + (40 : Int))).tmod (40 : Int))) + IntKind.i64.wrap ((1 : Int) + (IntKind.i64.wrap (b.tmod (40 : Int) + (40 : Int))).tmod (40 : Int)))).tmod (IntKind.i64.wrap ((1 : Int) + (IntKind.i64.wrap (b.tmod (40 : Int) + (40 : Int))).tmod (40 : Int))))) (IntKind.i64.wrap ((1 : Int) + (IntKind.i64.wrap (b.tmod (40 : Int) + (40 : Int))).tmod (40 : Int))) (IntKind.i64.wrap ((1 : Int) + (↑x.fst : Int))) (0 : Int) - IntKind.i64.wrap (x.snd.fst + (1 : Int))) < (1 : Int))) with | true => (((true = false) ∧ True) ∧ ((wh = wh) ∧ True)) | false => (match (inb (↑x.fst : Int) wh.length) with | true => (match (inb (↑x.fst : Int) wh.length) with | true => (match (IntKind.i64.wrap (ref04OfC2 (IntKind.i64.wrap ((1 : Int) + (IntKind.i64.wrap (a.tmod (IntKind.i64.wrap ((1 : Int) + (IntKind.i64.wrap (b.tmod (40 : Int) + (40 : Int))).tmod (40 : Int))) + IntKind.i64.wrap ((1 : Int) + (IntKind.i64.wrap (b.tmod (40 : Int) + (40 : Int))).tmod (40 : Int)))).tmod (IntKind.i64.wrap ((1 : Int) + (IntKind.i64.wrap (b.tmod (40 : Int) + (40 : Int))).tmod (40 : Int))))) (IntKind.i64.wrap ((1 : Int) + (IntKind.i64.wrap (b.tmod (40 : Int) + (40 : Int))).tmod (40 : Int))) (IntKind.i64.wrap ((1 : Int) + (↑x.fst : Int))) (0 : Int) - IntKind.i64.wrap (x.snd.fst + (1 : Int))) != (0 : Int)) with | true => (match (IntKind.i64.wrap (ref04OfC2 (IntKind.i64.wrap ((1 : Int) + (IntKind.i64.wrap (a.tmod (IntKind.i64.wrap ((1 : Int) + (IntKind.i64.wrap (b.tmod (40 : Int) + (40 : Int))).tmod (40 : Int))) + IntKind.i64.wrap ((1 : Int) + (IntKind.i64.wrap (b.tmod (40 : Int) + (40 : Int))).tmod (40 : Int)))).tmod (IntKind.i64.wrap ((1 : Int) + (IntKind.i64.wrap (b.tmod (40 : Int) + (40 : Int))).tmod (40 : Int))))) (IntKind.i64.wrap ((1 : Int) + (IntKind.i64.wrap (b.tmod (40 : Int) + (40 : Int))).tmod (40 : Int))) (IntKind.i64.wrap ((1 : Int) + (↑x.fst : Int))) (0 : Int) - IntKind.i64.wrap (x.snd.fst + (1 : Int))) != (0 : Int)) with | true => (match (roomy (x.snd.snd.length + (1 : Nat)) (nat_lit 80)) with | true => (∃ x' : Nat × Int × List Note, (((x'.fst ≤ wh.length) ∧ (FairOk (fairE a b) (fairP b) x'.fst x'.snd.fst x'.snd.snd)) ∧ (((20 : Nat) - x'.fst < (20 : Nat) - x.fst) ∧ ((True ∧ (True ∧ ((true = true) ∧ (True ∧ (True ∧ ((x'.snd.fst = IntKind.i64.wrap (IntKind.i64.wrap (x.snd.fst + (1 : Int)) + (IntKind.i64.wrap (Int.tmod (at' (0 : Int) wh (↑x.fst : Int)) (IntKind.i64.wrap (ref04OfC2 (IntKind.i64.wrap ((1 : Int) + (IntKind.i64.wrap (a.tmod (IntKind.i64.wrap ((1 : Int) + (IntKind.i64.wrap (b.tmod (40 : Int) + (40 : Int))).tmod (40 : Int))) + IntKind.i64.wrap ((1 : Int) + (IntKind.i64.wrap (b.tmod (40 : Int) + (40 : Int))).tmod (40 : Int)))).tmod (IntKind.i64.wrap ((1 : Int) + (IntKind.i64.wrap (b.tmod (40 : Int) + (40 : Int))).tmod (40 : Int))))) (IntKind.i64.wrap ((1 : Int) + (IntKind.i64.wrap (b.tmod (40 : Int) + (40 : Int))).tmod (40 : Int))) (IntKind.i64.wrap ((1 : Int) + (↑x.fst : Int))) (0 : Int) - IntKind.i64.wrap (x.snd.fst + (1 : Int)))) + IntKind.i64.wrap (ref04OfC2 (IntKind.i64.wrap ((1 : Int) + (IntKind.i64.wrap (a.tmod (IntKind.i64.wrap ((1 : Int) + (IntKind.i64.wrap (b.tmod (40 : Int) + (40 : Int))).tmod (40 : Int))) + IntKind.i64.wrap ((1 : Int) + (IntKind.i64.wrap (b.tmod (40 : Int) + (40 : Int))).tmod (40 : Int)))).tmod (IntKind.i64.wrap ((1 : Int) + (IntKind.i64.wrap (b.tmod (40 : Int) + (40 : Int))).tmod (40 : Int))))) (IntKind.i64.wrap ((1 : Int) + (IntKind.i64.wrap (b.tmod (40 : Int) + (40 : Int))).tmod (40 : Int))) (IntKind.i64.wrap ((1 : Int) + (↑x.fst : Int))) (0 : Int) - IntKind.i64.wrap (x.snd.fst + (1 : Int))))).tmod (IntKind.i64.wrap (ref04OfC2 (IntKind.i64.wrap ((1 : Int) + (IntKind.i64.wrap (a.tmod (IntKind.i64.wrap ((1 : Int) + (IntKind.i64.wrap (b.tmod (40 : Int) + (40 : Int))).tmod (40 : Int))) + IntKind.i64.wrap ((1 : Int) + (IntKind.i64.wrap (b.tmod (40 : Int) + (40 : Int))).tmod (40 : Int)))).tmod (IntKind.i64.wrap ((1 : Int) + (IntKind.i64.wrap (b.tmod (40 : Int) + (40 : Int))).tmod (40 : Int))))) (IntKind.i64.wrap ((1 : Int) + (IntKind.i64.wrap (b.tmod (40 : Int) + (40 : Int))).tmod (40 : Int))) (IntKind.i64.wrap ((1 : Int) + (↑x.fst : Int))) (0 : Int) - IntKind.i64.wrap (x.snd.fst + (1 : Int)))))) ∧ (((↑x'.fst : Int) = IntKind.i64.wrap ((↑x.fst : Int) + (1 : Int))) ∧ True))))))) ∧ ((wh = wh) ∧ (((a = a) ∧ ((b = b) ∧ True)) ∧ (((IntKind.i64.wrap ((1 : Int) + (IntKind.i64.wrap (a.tmod (IntKind.i64.wrap ((1 : Int) + (IntKind.i64.wrap (b.tmod (40 : Int) + (40 : Int))).tmod (40 : Int))) + IntKind.i64.wrap ((1 : Int) + (IntKind.i64.wrap (b.tmod (40 : Int) + (40 : Int))).tmod (40 : Int)))).tmod (IntKind.i64.wrap ((1 : Int) + (IntKind.i64.wrap (b.tmod (40 : Int) + (40 : Int))).tmod (40 : Int)))) = IntKind.i64.wrap ((1 : Int) + (IntKind.i64.wrap (a.tmod (IntKind.i64.wrap ((1 : Int) + (IntKind.i64.wrap (b.tmod (40 : Int) + (40 : Int))).tmod (40 : Int))) + IntKind.i64.wrap ((1 : Int) + (IntKind.i64.wrap (b.tmod (40 : Int) + (40 : Int))).tmod (40 : Int)))).tmod (IntKind.i64.wrap ((1 : Int) + (IntKind.i64.wrap (b.tmod (40 : Int) + (40 : Int))).tmod (40 : Int))))) ∧ ((IntKind.i64.wrap ((1 : Int) + (IntKind.i64.wrap (b.tmod (40 : Int) + (40 : Int))).tmod (40 : Int)) = IntKind.i64.wrap ((1 : Int) + (IntKind.i64.wrap (b.tmod (40 : Int) + (40 : Int))).tmod (40 : Int))) ∧ True)) ∧ ((x'.snd.snd = x.snd.snd ++ [Note.mk (7 : Int) (0 : Int) (ref04OfC0 (IntKind.i64.wrap ((1 : Int) + (IntKind.i64.wrap (a.tmod (IntKind.i64.wrap ((1 : Int) + (IntKind.i64.wrap (b.tmod (40 : Int) + (40 : Int))).tmod (40 : Int))) + IntKind.i64.wrap ((1 : Int) + (IntKind.i64.wrap (b.tmod (40 : Int) + (40 : Int))).tmod (40 : Int)))).tmod (IntKind.i64.wrap ((1 : Int) + (IntKind.i64.wrap (b.tmod (40 : Int) + (40 : Int))).tmod (40 : Int))))) (IntKind.i64.wrap ((1 : Int) + (IntKind.i64.wrap (b.tmod (40 : Int) + (40 : Int))).tmod (40 : Int))) (IntKind.i64.wrap ((1 : Int) + (↑x.fst : Int))) (0 : Int)) (ref04OfC1 (IntKind.i64.wrap ((1 : Int) + (IntKind.i64.wrap (a.tmod (IntKind.i64.wrap ((1 : Int) + (IntKind.i64.wrap (b.tmod (40 : Int) + (40 : Int))).tmod (40 : Int))) + IntKind.i64.wrap ((1 : Int) + (IntKind.i64.wrap (b.tmod (40 : Int) + (40 : Int))).tmod (40 : Int)))).tmod (IntKind.i64.wrap ((1 : Int) + (IntKind.i64.wrap (b.tmod (40 : Int) + (40 : Int))).tmod (40 : Int))))) (IntKind.i64.wrap ((1 : Int) + (IntKind.i64.wrap (b.tmod (40 : Int) + (40 : Int))).tmod (40 : Int))) (IntKind.i64.wrap ((1 : Int) + (↑x.fst : Int))) (0 : Int)) (ref04OfC2 (IntKind.i64.wrap ((1 : Int) + (IntKind.i64.wrap (a.tmod (IntKind.i64.wrap ((1 : Int) + (IntKind.i64.wrap (b.tmod (40 : Int) + (40 : Int))).tmod (40 : Int))) + IntKind.i64.wrap ((1 : Int) + (IntKind.i64.wrap (b.tmod (40 : Int) + (40 : Int))).tmod (40 : Int)))).tmod (IntKind.i64.wrap ((1 : Int) + (IntKind.i64.wrap (b.tmod (40 : Int) + (40 : Int))).tmod (40 : Int))))) (IntKind.i64.wrap ((1 : Int) + (IntKind.i64.wrap (b.tmod (40 : Int) + (40 : Int))).tmod (40 : Int))) (IntKind.i64.wrap ((1 : Int) + (↑x.fst : Int))) (0 : Int)) (ref04OfC3 (IntKind.i64.wrap ((1 : Int) + (IntKind.i64.wrap (a.tmod (IntKind.i64.wrap ((1 : Int) + (IntKind.i64.wrap (b.tmod (40 : Int) + (40 : Int))).tmod (40 : Int))) + IntKind.i64.wrap ((1 : Int) + (IntKind.i64.wrap (b.tmod (40 : Int) + (40 : Int))).tmod (40 : Int)))).tmod (IntKind.i64.wrap ((1 : Int) + (IntKind.i64.wrap (b.tmod (40 : Int) + (40 : Int))).tmod (40 : Int))))) (IntKind.i64.wrap ((1 : Int) + (IntKind.i64.wrap (b.tmod (40 : Int) + (40 : Int))).tmod (40 : Int))) (IntKind.i64.wrap ((1 : Int) + (↑x.fst : Int))) (0 : Int)) (ref04OfC4 (IntKind.i64.wrap ((1 : Int) + (IntKind.i64.wrap (a.tmod (IntKind.i64.wrap ((1 : Int) + (IntKind.i64.wrap (b.tmod (40 : Int) + (40 : Int))).tmod (40 : Int))) + IntKind.i64.wrap ((1 : Int) + (IntKind.i64.wrap (b.tmod (40 : Int) + (40 : Int))).tmod (40 : Int)))).tmod (IntKind.i64.wrap ((1 : Int) + (IntKind.i64.wrap (b.tmod (40 : Int) + (40 : Int))).tmod (40 : Int))))) (IntKind.i64.wrap ((1 : Int) + (IntKind.i64.wrap (b.tmod (40 : Int) + (40 : Int))).tmod (40 : Int))) (IntKind.i64.wrap ((1 : Int) + (↑x.fst : Int))) (0 : Int)) (ref04OfC1 (IntKind.i64.wrap ((1 : Int) + (IntKind.i64.wrap (a.tmod (IntKind.i64.wrap ((1 : Int) + (IntKind.i64.wrap (b.tmod (40 : Int) + (40 : Int))).tmod (40 : Int))) + IntKind.i64.wrap ((1 : Int) + (IntKind.i64.wrap (b.tmod (40 : Int) + (40 : Int))).tmod (40 : Int)))).tmod (IntKind.i64.wrap ((1 : Int) + (IntKind.i64.wrap (b.tmod (40 : Int) + (40 : Int))).tmod (40 : Int))))) (IntKind.i64.wrap ((1 : Int) + (IntKind.i64.wrap (b.tmod (40 : Int) + (40 : Int))).tmod (40 : Int))) (IntKind.i64.wrap ((1 : Int) + (↑x.fst : Int))) (0 : Int)) (IntKind.i64.wrap (IntKind.i64.wrap (x.snd.fst + (1 : Int)) + (IntKind.i64.wrap (Int.tmod (at' (0 : Int) wh (↑x.fst : Int)) (IntKind.i64.wrap (ref04OfC2 (IntKind.i64.wrap ((1 : Int) + (IntKind.i64.wrap (a.tmod (IntKind.i64.wrap ((1 : Int) + (IntKind.i64.wrap (b.tmod (40 : Int) + (40 : Int))).tmod (40 : Int))) + IntKind.i64.wrap ((1 : Int) + (IntKind.i64.wrap (b.tmod (40 : Int) + (40 : Int))).tmod (40 : Int)))).tmod (IntKind.i64.wrap ((1 : Int) + (IntKind.i64.wrap (b.tmod (40 : Int) + (40 : Int))).tmod (40 : Int))))) (IntKind.i64.wrap ((1 : Int) + (IntKind.i64.wrap (b.tmod (40 : Int) + (40 : Int))).tmod (40 : Int))) (IntKind.i64.wrap ((1 : Int) + (↑x.fst : Int))) (0 : Int) - IntKind.i64.wrap (x.snd.fst + (1 : Int)))) + IntKind.i64.wrap (ref04OfC2 (IntKind.i64.wrap ((1 : Int) + (IntKind.i64.wrap (a.tmod (IntKind.i64.wrap ((1 : Int) + (IntKind.i64.wrap (b.tmod (40 : Int) + (40 : Int))).tmod (40 : Int))) + IntKind.i64.wrap ((1 : Int) + (IntKind.i64.wrap (b.tmod (40 : Int) + (40 : Int))).tmod (40 : Int)))).tmod (IntKind.i64.wrap ((1 : Int) + (IntKind.i64.wrap (b.tmod (40 : Int) + (40 : Int))).tmod (40 : Int))))) (IntKind.i64.wrap ((1 : Int) + (IntKind.i64.wrap (b.tmod (40 : Int) + (40 : Int))).tmod (40 : Int))) (IntKind.i64.wrap ((1 : Int) + (↑x.fst : Int))) (0 : Int) - IntKind.i64.wrap (x.snd.fst + (1 : Int))))).tmod (IntKind.i64.wrap (ref04OfC2 (IntKind.i64.wrap ((1 : Int) + (IntKind.i64.wrap (a.tmod (IntKind.i64.wrap ((1 : Int) + (IntKind.i64.wrap (b.tmod (40 : Int) + (40 : Int))).tmod (40 : Int))) + IntKind.i64.wrap ((1 : Int) + (IntKind.i64.wrap (b.tmod (40 : Int) + (40 : Int))).tmod (40 : Int)))).tmod (IntKind.i64.wrap ((1 : Int) + (IntKind.i64.wrap (b.tmod (40 : Int) + (40 : Int))).tmod (40 : Int))))) (IntKind.i64.wrap ((1 : Int) + (IntKind.i64.wrap (b.tmod (40 : Int) + (40 : Int))).tmod (40 : Int))) (IntKind.i64.wrap ((1 : Int) + (↑x.fst : Int))) (0 : Int) - IntKind.i64.wrap (x.snd.fst + (1 : Int)))))) (0 : Int)]) ∧ True)))))))) | false => False) | false => False) | false => False) | false => False) | false => False)) | false => (match (decide (IntKind.i64.wrap (ref04OfC2 (IntKind.i64.wrap ((1 : Int) + (IntKind.i64.wrap (a.tmod (IntKind.i64.wrap ((1 : Int) + (IntKind.i64.wrap (b.tmod (40 : Int) + (40 : Int))).tmod (40 : Int))) + IntKind.i64.wrap ((1 : Int) + (IntKind.i64.wrap (b.tmod (40 : Int) + (40 : Int))).tmod (40 : Int)))).tmod (IntKind.i64.wrap ((1 : Int) + (IntKind.i64.wrap (b.tmod (40 : Int) + (40 : Int))).tmod (40 : Int))))) (IntKind.i64.wrap ((1 : Int) + (IntKind.i64.wrap (b.tmod (40 : Int) + (40 : Int))).tmod (40 : Int))) (IntKind.i64.wrap ((1 : Int) + (↑x.fst : Int))) (0 : Int) - ref04OfC1 (IntKind.i64.wrap ((1 : Int) + (IntKind.i64.wrap (a.tmod (IntKind.i64.wrap ((1 : Int) + (IntKind.i64.wrap (b.tmod (40 : Int) + (40 : Int))).tmod (40 : Int))) + IntKind.i64.wrap ((1 : Int) + (IntKind.i64.wrap (b.tmod (40 : Int) + (40 : Int))).tmod (40 : Int)))).tmod (IntKind.i64.wrap ((1 : Int) + (IntKind.i64.wrap (b.tmod (40 : Int) + (40 : Int))).tmod (40 : Int))))) (IntKind.i64.wrap ((1 : Int) + (IntKind.i64.wrap (b.tmod (40 : Int) + (40 : Int))).tmod (40 : Int))) (IntKind.i64.wrap ((1 : Int) + (↑x.fst : Int))) (0 : Int)) < (1 : Int))) with | true => (((true = false) ∧ True) ∧ ((wh = wh) ∧ True)) | false => (match (inb (↑x.fst : Int) wh.length) with | true => (match (inb (↑x.fst : Int) wh.length) with | true => (match (IntKind.i64.wrap (ref04OfC2 (IntKind.i64.wrap ((1 : Int) + (IntKind.i64.wrap (a.tmod (IntKind.i64.wrap ((1 : Int) + (IntKind.i64.wrap (b.tmod (40 : Int) + (40 : Int))).tmod (40 : Int))) + IntKind.i64.wrap ((1 : Int) + (IntKind.i64.wrap (b.tmod (40 : Int) + (40 : Int))).tmod (40 : Int)))).tmod (IntKind.i64.wrap ((1 : Int) + (IntKind.i64.wrap (b.tmod (40 : Int) + (40 : Int))).tmod (40 : Int))))) (IntKind.i64.wrap ((1 : Int) + (IntKind.i64.wrap (b.tmod (40 : Int) + (40 : Int))).tmod (40 : Int))) (IntKind.i64.wrap ((1 : Int) + (↑x.fst : Int))) (0 : Int) - ref04OfC1 (IntKind.i64.wrap ((1 : Int) + (IntKind.i64.wrap (a.tmod (IntKind.i64.wrap ((1 : Int) + (IntKind.i64.wrap (b.tmod (40 : Int) + (40 : Int))).tmod (40 : Int))) + IntKind.i64.wrap ((1 : Int) + (IntKind.i64.wrap (b.tmod (40 : Int) + (40 : Int))).tmod (40 : Int)))).tmod (IntKind.i64.wrap ((1 : Int) + (IntKind.i64.wrap (b.tmod (40 : Int) + (40 : Int))).tmod (40 : Int))))) (IntKind.i64.wrap ((1 : Int) + (IntKind.i64.wrap (b.tmod (40 : Int) + (40 : Int))).tmod (40 : Int))) (IntKind.i64.wrap ((1 : Int) + (↑x.fst : Int))) (0 : Int)) != (0 : Int)) with | true => (match (IntKind.i64.wrap (ref04OfC2 (IntKind.i64.wrap ((1 : Int) + (IntKind.i64.wrap (a.tmod (IntKind.i64.wrap ((1 : Int) + (IntKind.i64.wrap (b.tmod (40 : Int) + (40 : Int))).tmod (40 : Int))) + IntKind.i64.wrap ((1 : Int) + (IntKind.i64.wrap (b.tmod (40 : Int) + (40 : Int))).tmod (40 : Int)))).tmod (IntKind.i64.wrap ((1 : Int) + (IntKind.i64.wrap (b.tmod (40 : Int) + (40 : Int))).tmod (40 : Int))))) (IntKind.i64.wrap ((1 : Int) + (IntKind.i64.wrap (b.tmod (40 : Int) + (40 : Int))).tmod (40 : Int))) (IntKind.i64.wrap ((1 : Int) + (↑x.fst : Int))) (0 : Int) - ref04OfC1 (IntKind.i64.wrap ((1 : Int) + (IntKind.i64.wrap (a.tmod (IntKind.i64.wrap ((1 : Int) + (IntKind.i64.wrap (b.tmod (40 : Int) + (40 : Int))).tmod (40 : Int))) + IntKind.i64.wrap ((1 : Int) + (IntKind.i64.wrap (b.tmod (40 : Int) + (40 : Int))).tmod (40 : Int)))).tmod (IntKind.i64.wrap ((1 : Int) + (IntKind.i64.wrap (b.tmod (40 : Int) + (40 : Int))).tmod (40 : Int))))) (IntKind.i64.wrap ((1 : Int) + (IntKind.i64.wrap (b.tmod (40 : Int) + (40 : Int))).tmod (40 : Int))) (IntKind.i64.wrap ((1 : Int) + (↑x.fst : Int))) (0 : Int)) != (0 : Int)) with | true => (match (roomy (x.snd.snd.length + (1 : Nat)) (nat_lit 80)) with | true => (∃ x' : Nat × Int × List Note, (((x'.fst ≤ wh.length) ∧ (FairOk (fairE a b) (fairP b) x'.fst x'.snd.fst x'.snd.snd)) ∧ (((20 : Nat) - x'.fst < (20 : Nat) - x.fst) ∧ ((True ∧ (True ∧ ((true = true) ∧ (True ∧ (True ∧ ((x'.snd.fst = IntKind.i64.wrap (ref04OfC1 (IntKind.i64.wrap ((1 : Int) + (IntKind.i64.wrap (a.tmod (IntKind.i64.wrap ((1 : Int) + (IntKind.i64.wrap (b.tmod (40 : Int) + (40 : Int))).tmod (40 : Int))) + IntKind.i64.wrap ((1 : Int) + (IntKind.i64.wrap (b.tmod (40 : Int) + (40 : Int))).tmod (40 : Int)))).tmod (IntKind.i64.wrap ((1 : Int) + (IntKind.i64.wrap (b.tmod (40 : Int) + (40 : Int))).tmod (40 : Int))))) (IntKind.i64.wrap ((1 : Int) + (IntKind.i64.wrap (b.tmod (40 : Int) + (40 : Int))).tmod (40 : Int))) (IntKind.i64.wrap ((1 : Int) + (↑x.fst : Int))) (0 : Int) + (IntKind.i64.wrap (Int.tmod (at' (0 : Int) wh (↑x.fst : Int)) (IntKind.i64.wrap (ref04OfC2 (IntKind.i64.wrap ((1 : Int) + (IntKind.i64.wrap (a.tmod (IntKind.i64.wrap ((1 : Int) + (IntKind.i64.wrap (b.tmod (40 : Int) + (40 : Int))).tmod (40 : Int))) + IntKind.i64.wrap ((1 : Int) + (IntKind.i64.wrap (b.tmod (40 : Int) + (40 : Int))).tmod (40 : Int)))).tmod (IntKind.i64.wrap ((1 : Int) + (IntKind.i64.wrap (b.tmod (40 : Int) + (40 : Int))).tmod (40 : Int))))) (IntKind.i64.wrap ((1 : Int) + (IntKind.i64.wrap (b.tmod (40 : Int) + (40 : Int))).tmod (40 : Int))) (IntKind.i64.wrap ((1 : Int) + (↑x.fst : Int))) (0 : Int) - ref04OfC1 (IntKind.i64.wrap ((1 : Int) + (IntKind.i64.wrap (a.tmod (IntKind.i64.wrap ((1 : Int) + (IntKind.i64.wrap (b.tmod (40 : Int) + (40 : Int))).tmod (40 : Int))) + IntKind.i64.wrap ((1 : Int) + (IntKind.i64.wrap (b.tmod (40 : Int) + (40 : Int))).tmod (40 : Int)))).tmod (IntKind.i64.wrap ((1 : Int) + (IntKind.i64.wrap (b.tmod (40 : Int) + (40 : Int))).tmod (40 : Int))))) (IntKind.i64.wrap ((1 : Int) + (IntKind.i64.wrap (b.tmod (40 : Int) + (40 : Int))).tmod (40 : Int))) (IntKind.i64.wrap ((1 : Int) + (↑x.fst : Int))) (0 : Int))) + IntKind.i64.wrap (ref04OfC2 (IntKind.i64.wrap ((1 : Int) + (IntKind.i64.wrap (a.tmod (IntKind.i64.wrap ((1 : Int) + (IntKind.i64.wrap (b.tmod (40 : Int) + (40 : Int))).tmod (40 : Int))) + IntKind.i64.wrap ((1 : Int) + (IntKind.i64.wrap (b.tmod (40 : Int) + (40 : Int))).tmod (40 : Int)))).tmod (IntKind.i64.wrap ((1 : Int) + (IntKind.i64.wrap (b.tmod (40 : Int) + (40 : Int))).tmod (40 : Int))))) (IntKind.i64.wrap ((1 : Int) + (IntKind.i64.wrap (b.tmod (40 : Int) + (40 : Int))).tmod (40 : Int))) (IntKind.i64.wrap ((1 : Int) + (↑x.fst : Int))) (0 : Int) - ref04OfC1 (IntKind.i64.wrap ((1 : Int) + (IntKind.i64.wrap (a.tmod (IntKind.i64.wrap ((1 : Int) + (IntKind.i64.wrap (b.tmod (40 : Int) + (40 : Int))).tmod (40 : Int))) + IntKind.i64.wrap ((1 : Int) + (IntKind.i64.wrap (b.tmod (40 : Int) + (40 : Int))).tmod (40 : Int)))).tmod (IntKind.i64.wrap ((1 : Int) + (IntKind.i64.wrap (b.tmod (40 : Int) + (40 : Int))).tmod (40 : Int))))) (IntKind.i64.wrap ((1 : Int) + (IntKind.i64.wrap (b.tmod (40 : Int) + (40 : Int))).tmod (40 : Int))) (IntKind.i64.wrap ((1 : Int) + (↑x.fst : Int))) (0 : Int)))).tmod (IntKind.i64.wrap (ref04OfC2 (IntKind.i64.wrap ((1 : Int) + (IntKind.i64.wrap (a.tmod (IntKind.i64.wrap ((1 : Int) + (IntKind.i64.wrap (b.tmod (40 : Int) + (40 : Int))).tmod (40 : Int))) + IntKind.i64.wrap ((1 : Int) + (IntKind.i64.wrap (b.tmod (40 : Int) + (40 : Int))).tmod (40 : Int)))).tmod (IntKind.i64.wrap ((1 : Int) + (IntKind.i64.wrap (b.tmod (40 : Int) + (40 : Int))).tmod (40 : Int))))) (IntKind.i64.wrap ((1 : Int) + (IntKind.i64.wrap (b.tmod (40 : Int) + (40 : Int))).tmod (40 : Int))) (IntKind.i64.wrap ((1 : Int) + (↑x.fst : Int))) (0 : Int) - ref04OfC1 (IntKind.i64.wrap ((1 : Int) + (IntKind.i64.wrap (a.tmod (IntKind.i64.wrap ((1 : Int) + (IntKind.i64.wrap (b.tmod (40 : Int) + (40 : Int))).tmod (40 : Int))) + IntKind.i64.wrap ((1 : Int) + (IntKind.i64.wrap (b.tmod (40 : Int) + (40 : Int))).tmod (40 : Int)))).tmod (IntKind.i64.wrap ((1 : Int) + (IntKind.i64.wrap (b.tmod (40 : Int) + (40 : Int))).tmod (40 : Int))))) (IntKind.i64.wrap ((1 : Int) + (IntKind.i64.wrap (b.tmod (40 : Int) + (40 : Int))).tmod (40 : Int))) (IntKind.i64.wrap ((1 : Int) + (↑x.fst : Int))) (0 : Int))))) ∧ (((↑x'.fst : Int) = IntKind.i64.wrap ((↑x.fst : Int) + (1 : Int))) ∧ True))))))) ∧ ((wh = wh) ∧ (((a = a) ∧ ((b = b) ∧ True)) ∧ (((IntKind.i64.wrap ((1 : Int) + (IntKind.i64.wrap (a.tmod (IntKind.i64.wrap ((1 : Int) + (IntKind.i64.wrap (b.tmod (40 : Int) + (40 : Int))).tmod (40 : Int))) + IntKind.i64.wrap ((1 : Int) + (IntKind.i64.wrap (b.tmod (40 : Int) + (40 : Int))).tmod (40 : Int)))).tmod (IntKind.i64.wrap ((1 : Int) + (IntKind.i64.wrap (b.tmod (40 : Int) + (40 : Int))).tmod (40 : Int)))) = IntKind.i64.wrap ((1 : Int) + (IntKind.i64.wrap (a.tmod (IntKind.i64.wrap ((1 : Int) + (IntKind.i64.wrap (b.tmod (40 : Int) + (40 : Int))).tmod (40 : Int))) + IntKind.i64.wrap ((1 : Int) + (IntKind.i64.wrap (b.tmod (40 : Int) + (40 : Int))).tmod (40 : Int)))).tmod (IntKind.i64.wrap ((1 : Int) + (IntKind.i64.wrap (b.tmod (40 : Int) + (40 : Int))).tmod (40 : Int))))) ∧ ((IntKind.i64.wrap ((1 : Int) + (IntKind.i64.wrap (b.tmod (40 : Int) + (40 : Int))).tmod (40 : Int)) = IntKind.i64.wrap ((1 : Int) + (IntKind.i64.wrap (b.tmod (40 : Int) + (40 : Int))).tmod (40 : Int))) ∧ True)) ∧ ((x'.snd.snd = x.snd.snd ++ [Note.mk (7 : Int) (0 : Int) (ref04OfC0 (IntKind.i64.wrap ((1 : Int) + (IntKind.i64.wrap (a.tmod (IntKind.i64.wrap ((1 : Int) + (IntKind.i64.wrap (b.tmod (40 : Int) + (40 : Int))).tmod (40 : Int))) + IntKind.i64.wrap ((1 : Int) + (IntKind.i64.wrap (b.tmod (40 : Int) + (40 : Int))).tmod (40 : Int)))).tmod (IntKind.i64.wrap ((1 : Int) + (IntKind.i64.wrap (b.tmod (40 : Int) + (40 : Int))).tmod (40 : Int))))) (IntKind.i64.wrap ((1 : Int) + (IntKind.i64.wrap (b.tmod (40 : Int) + (40 : Int))).tmod (40 : Int))) (IntKind.i64.wrap ((1 : Int) + (↑x.fst : Int))) (0 : Int)) (ref04OfC1 (IntKind.i64.wrap ((1 : Int) + (IntKind.i64.wrap (a.tmod (IntKind.i64.wrap ((1 : Int) + (IntKind.i64.wrap (b.tmod (40 : Int) + (40 : Int))).tmod (40 : Int))) + IntKind.i64.wrap ((1 : Int) + (IntKind.i64.wrap (b.tmod (40 : Int) + (40 : Int))).tmod (40 : Int)))).tmod (IntKind.i64.wrap ((1 : Int) + (IntKind.i64.wrap (b.tmod (40 : Int) + (40 : Int))).tmod (40 : Int))))) (IntKind.i64.wrap ((1 : Int) + (IntKind.i64.wrap (b.tmod (40 : Int) + (40 : Int))).tmod (40 : Int))) (IntKind.i64.wrap ((1 : Int) + (↑x.fst : Int))) (0 : Int)) (ref04OfC2 (IntKind.i64.wrap ((1 : Int) + (IntKind.i64.wrap (a.tmod (IntKind.i64.wrap ((1 : Int) + (IntKind.i64.wrap (b.tmod (40 : Int) + (40 : Int))).tmod (40 : Int))) + IntKind.i64.wrap ((1 : Int) + (IntKind.i64.wrap (b.tmod (40 : Int) + (40 : Int))).tmod (40 : Int)))).tmod (IntKind.i64.wrap ((1 : Int) + (IntKind.i64.wrap (b.tmod (40 : Int) + (40 : Int))).tmod (40 : Int))))) (IntKind.i64.wrap ((1 : Int) + (IntKind.i64.wrap (b.tmod (40 : Int) + (40 : Int))).tmod (40 : Int))) (IntKind.i64.wrap ((1 : Int) + (↑x.fst : Int))) (0 : Int)) (ref04OfC3 (IntKind.i64.wrap ((1 : Int) + (IntKind.i64.wrap (a.tmod (IntKind.i64.wrap ((1 : Int) + (IntKind.i64.wrap (b.tmod (40 : Int) + (40 : Int))).tmod (40 : Int))) + IntKind.i64.wrap ((1 : Int) + (IntKind.i64.wrap (b.tmod (40 : Int) + (40 : Int))).tmod (40 : Int)))).tmod (IntKind.i64.wrap ((1 : Int) + (IntKind.i64.wrap (b.tmod (40 : Int) + (40 : Int))).tmod (40 : Int))))) (IntKind.i64.wrap ((1 : Int) + (IntKind.i64.wrap (b.tmod (40 : Int) + (40 : Int))).tmod (40 : Int))) (IntKind.i64.wrap ((1 : Int) + (↑x.fst : Int))) (0 : Int)) (ref04OfC4 (IntKind.i64.wrap ((1 : Int) + (IntKind.i64.wrap (a.tmod (IntKind.i64.wrap ((1 : Int) + (IntKind.i64.wrap (b.tmod (40 : Int) + (40 : Int))).tmod (40 : Int))) + IntKind.i64.wrap ((1 : Int) + (IntKind.i64.wrap (b.tmod (40 : Int) + (40 : Int))).tmod (40 : Int)))).tmod (IntKind.i64.wrap ((1 : Int) + (IntKind.i64.wrap (b.tmod (40 : Int) + (40 : Int))).tmod (40 : Int))))) (IntKind.i64.wrap ((1 : Int) + (IntKind.i64.wrap (b.tmod (40 : Int) + (40 : Int))).tmod (40 : Int))) (IntKind.i64.wrap ((1 : Int) + (↑x.fst : Int))) (0 : Int)) (ref04OfC1 (IntKind.i64.wrap ((1 : Int) + (IntKind.i64.wrap (a.tmod (IntKind.i64.wrap ((1 : Int) + (IntKind.i64.wrap (b.tmod (40 : Int) + (40 : Int))).tmod (40 : Int))) + IntKind.i64.wrap ((1 : Int) + (IntKind.i64.wrap (b.tmod (40 : Int) + (40 : Int))).tmod (40 : Int)))).tmod (IntKind.i64.wrap ((1 : Int) + (IntKind.i64.wrap (b.tmod (40 : Int) + (40 : Int))).tmod (40 : Int))))) (IntKind.i64.wrap ((1 : Int) + (IntKind.i64.wrap (b.tmod (40 : Int) + (40 : Int))).tmod (40 : Int))) (IntKind.i64.wrap ((1 : Int) + (↑x.fst : Int))) (0 : Int)) (IntKind.i64.wrap (ref04OfC1 (IntKind.i64.wrap ((1 : Int) + (IntKind.i64.wrap (a.tmod (IntKind.i64.wrap ((1 : Int) + (IntKind.i64.wrap (b.tmod (40 : Int) + (40 : Int))).tmod (40 : Int))) + IntKind.i64.wrap ((1 : Int) + (IntKind.i64.wrap (b.tmod (40 : Int) + (40 : Int))).tmod (40 : Int)))).tmod (IntKind.i64.wrap ((1 : Int) + (IntKind.i64.wrap (b.tmod (40 : Int) + (40 : Int))).tmod (40 : Int))))) (IntKind.i64.wrap ((1 : Int) + (IntKind.i64.wrap (b.tmod (40 : Int) + (40 : Int))).tmod (40 : Int))) (IntKind.i64.wrap ((1 : Int) + (↑x.fst : Int))) (0 : Int) + (IntKind.i64.wrap (Int.tmod (at' (0 : Int) wh (↑x.fst : Int)) (IntKind.i64.wrap (ref04OfC2 (IntKind.i64.wrap ((1 : Int) + (IntKind.i64.wrap (a.tmod (IntKind.i64.wrap ((1 : Int) + (IntKind.i64.wrap (b.tmod (40 : Int) + (40 : Int))).tmod (40 : Int))) + IntKind.i64.wrap ((1 : Int) + (IntKind.i64.wrap (b.tmod (40 : Int) + (40 : Int))).tmod (40 : Int)))).tmod (IntKind.i64.wrap ((1 : Int) + (IntKind.i64.wrap (b.tmod (40 : Int) + (40 : Int))).tmod (40 : Int))))) (IntKind.i64.wrap ((1 : Int) + (IntKind.i64.wrap (b.tmod (40 : Int) + (40 : Int))).tmod (40 : Int))) (IntKind.i64.wrap ((1 : Int) + (↑x.fst : Int))) (0 : Int) - ref04OfC1 (IntKind.i64.wrap ((1 : Int) + (IntKind.i64.wrap (a.tmod (IntKind.i64.wrap ((1 : Int) + (IntKind.i64.wrap (b.tmod (40 : Int) + (40 : Int))).tmod (40 : Int))) + IntKind.i64.wrap ((1 : Int) + (IntKind.i64.wrap (b.tmod (40 : Int) + (40 : Int))).tmod (40 : Int)))).tmod (IntKind.i64.wrap ((1 : Int) + (IntKind.i64.wrap (b.tmod (40 : Int) + (40 : Int))).tmod (40 : Int))))) (IntKind.i64.wrap ((1 : Int) + (IntKind.i64.wrap (b.tmod (40 : Int) + (40 : Int))).tmod (40 : Int))) (IntKind.i64.wrap ((1 : Int) + (↑x.fst : Int))) (0 : Int))) + IntKind.i64.wrap (ref04OfC2 (IntKind.i64.wrap ((1 : Int) + (IntKind.i64.wrap (a.tmod (IntKind.i64.wrap ((1 : Int) + (IntKind.i64.wrap (b.tmod (40 : Int) + (40 : Int))).tmod (40 : Int))) + IntKind.i64.wrap ((1 : Int) + (IntKind.i64.wrap (b.tmod (40 : Int) + (40 : Int))).tmod (40 : Int)))).tmod (IntKind.i64.wrap ((1 : Int) + (IntKind.i64.wrap (b.tmod (40 : Int) + (40 : Int))).tmod (40 : Int))))) (IntKind.i64.wrap ((1 : Int) + (IntKind.i64.wrap (b.tmod (40 : Int) + (40 : Int))).tmod (40 : Int))) (IntKind.i64.wrap ((1 : Int) + (↑x.fst : Int))) (0 : Int) - ref04OfC1 (IntKind.i64.wrap ((1 : Int) + (IntKind.i64.wrap (a.tmod (IntKind.i64.wrap ((1 : Int) + (IntKind.i64.wrap (b.tmod (40 : Int) + (40 : Int))).tmod (40 : Int))) + IntKind.i64.wrap ((1 : Int) + (IntKind.i64.wrap (b.tmod (40 : Int) + (40 : Int))).tmod (40 : Int)))).tmod (IntKind.i64.wrap ((1 : Int) + (IntKind.i64.wrap (b.tmod (40 : Int) + (40 : Int))).tmod (40 : Int))))) (IntKind.i64.wrap ((1 : Int) + (IntKind.i64.wrap (b.tmod (40 : Int) + (40 : Int))).tmod (40 : Int))) (IntKind.i64.wrap ((1 : Int) + (↑x.fst : Int))) (0 : Int)))).tmod (IntKind.i64.wrap (ref04OfC2 (IntKind.i64.wrap ((1 : Int) + (IntKind.i64.wrap (a.tmod (IntKind.i64.wrap ((1 : Int) + (IntKind.i64.wrap (b.tmod (40 : Int) + (40 : Int))).tmod (40 : Int))) + IntKind.i64.wrap ((1 : Int) + (IntKind.i64.wrap (b.tmod (40 : Int) + (40 : Int))).tmod (40 : Int)))).tmod (IntKind.i64.wrap ((1 : Int) + (IntKind.i64.wrap (b.tmod (40 : Int) + (40 : Int))).tmod (40 : Int))))) (IntKind.i64.wrap ((1 : Int) + (IntKind.i64.wrap (b.tmod (40 : Int) + (40 : Int))).tmod (40 : Int))) (IntKind.i64.wrap ((1 : Int) + (↑x.fst : Int))) (0 : Int) - ref04OfC1 (IntKind.i64.wrap ((1 : Int) + (IntKind.i64.wrap (a.tmod (IntKind.i64.wrap ((1 : Int) + (IntKind.i64.wrap (b.tmod (40 : Int) + (40 : Int))).tmod (40 : Int))) + IntKind.i64.wrap ((1 : Int) + (IntKind.i64.wrap (b.tmod (40 : Int) + (40 : Int))).tmod (40 : Int)))).tmod (IntKind.i64.wrap ((1 : Int) + (IntKind.i64.wrap (b.tmod (40 : Int) + (40 : Int))).tmod (40 : Int))))) (IntKind.i64.wrap ((1 : Int) + (IntKind.i64.wrap (b.tmod (40 : Int) + (40 : Int))).tmod (40 : Int))) (IntKind.i64.wrap ((1 : Int) + (↑x.fst : Int))) (0 : Int))))) (0 : Int)]) ∧ True)))))))) | false => False) | false => False) | false => False) | false => False) | false => False))) | false => False) | false => (∃ x1 : Nat × Int × List Note, ((FairOk (fairE a b) (fairP b) x1.fst x1.snd.fst x1.snd.snd) ∧ ((True ∧ (True ∧ ((true = true) ∧ (True ∧ (True ∧ True))))) ∧ ((wh = wh) ∧ (((a = a) ∧ ((b = b) ∧ True)) ∧ (((IntKind.i64.wrap ((1 : Int) + (IntKind.i64.wrap (a.tmod (IntKind.i64.wrap ((1 : Int) + (IntKind.i64.wrap (b.tmod (40 : Int) + (40 : Int))).tmod (40 : Int))) + IntKind.i64.wrap ((1 : Int) + (IntKind.i64.wrap (b.tmod (40 : Int) + (40 : Int))).tmod (40 : Int)))).tmod (IntKind.i64.wrap ((1 : Int) + (IntKind.i64.wrap (b.tmod (40 : Int) + (40 : Int))).tmod (40 : Int)))) = IntKind.i64.wrap ((1 : Int) + (IntKind.i64.wrap (a.tmod (IntKind.i64.wrap ((1 : Int) + (IntKind.i64.wrap (b.tmod (40 : Int) + (40 : Int))).tmod (40 : Int))) + IntKind.i64.wrap ((1 : Int) + (IntKind.i64.wrap (b.tmod (40 : Int) + (40 : Int))).tmod (40 : Int)))).tmod (IntKind.i64.wrap ((1 : Int) + (IntKind.i64.wrap (b.tmod (40 : Int) + (40 : Int))).tmod (40 : Int))))) ∧ ((IntKind.i64.wrap ((1 : Int) + (IntKind.i64.wrap (b.tmod (40 : Int) + (40 : Int))).tmod (40 : Int)) = IntKind.i64.wrap ((1 : Int) + (IntKind.i64.wrap (b.tmod (40 : Int) + (40 : Int))).tmod (40 : Int))) ∧ True)) ∧ ((x1.snd.snd = x.snd.snd) ∧ True)))))))) | false => (∃ x1 : Nat × Int × List Note, ((FairOk (fairE a b) (fairP b) x1.fst x1.snd.fst x1.snd.snd) ∧ ((True ∧ (True ∧ ((true = true) ∧ (True ∧ (True ∧ True))))) ∧ ((wh = wh) ∧ (((a = a) ∧ ((b = b) ∧ True)) ∧ (((IntKind.i64.wrap ((1 : Int) + (IntKind.i64.wrap (a.tmod (IntKind.i64.wrap ((1 : Int) + (IntKind.i64.wrap (b.tmod (40 : Int) + (40 : Int))).tmod (40 : Int))) + IntKind.i64.wrap ((1 : Int) + (IntKind.i64.wrap (b.tmod (40 : Int) + (40 : Int))).tmod (40 : Int)))).tmod (IntKind.i64.wrap ((1 : Int) + (IntKind.i64.wrap (b.tmod (40 : Int) + (40 : Int))).tmod (40 : Int)))) = IntKind.i64.wrap ((1 : Int) + (IntKind.i64.wrap (a.tmod (IntKind.i64.wrap ((1 : Int) + (IntKind.i64.wrap (b.tmod (40 : Int) + (40 : Int))).tmod (40 : Int))) + IntKind.i64.wrap ((1 : Int) + (IntKind.i64.wrap (b.tmod (40 : Int) + (40 : Int))).tmod (40 : Int)))).tmod (IntKind.i64.wrap ((1 : Int) + (IntKind.i64.wrap (b.tmod (40 : Int) + (40 : Int))).tmod (40 : Int))))) ∧ ((IntKind.i64.wrap ((1 : Int) + (IntKind.i64.wrap (b.tmod (40 : Int) + (40 : Int))).tmod (40 : Int)) = IntKind.i64.wrap ((1 : Int) + (IntKind.i64.wrap (b.tmod (40 : Int) + (40 : Int))).tmod (40 : Int))) ∧ True)) ∧ ((x1.snd.snd = x.snd.snd) ∧ True))))))))))) ∧ (∀ x : Nat × Int × List Note, ((FairOk (fairE a b) (fairP b) x.fst x.snd.fst x.snd.snd) → (match (decide (x.snd.snd.length ≤ (140737488355328 : Nat))) with | true => (match (checkK x.snd.snd (1 : Int) != (0 : Int)) with | true => (((true = false) ∧ True) ∧ ((wh = wh) ∧ True)) | false => (match (checkAt x.snd.snd (1 : Int) != (-1 : Int)) with | true => (((true = false) ∧ True) ∧ ((wh = wh) ∧ True)) | false => (match (decide (x.snd.snd.length ≤ (140737488355328 : Nat) ∧ ∀ (n : Note), auditOfPre n (IntKind.i64.wrap ((1 : Int) + (IntKind.i64.wrap (a.tmod (IntKind.i64.wrap ((1 : Int) + (IntKind.i64.wrap (b.tmod (40 : Int) + (40 : Int))).tmod (40 : Int))) + IntKind.i64.wrap ((1 : Int) + (IntKind.i64.wrap (b.tmod (40 : Int) + (40 : Int))).tmod (40 : Int)))).tmod (IntKind.i64.wrap ((1 : Int) + (IntKind.i64.wrap (b.tmod (40 : Int) + (40 : Int))).tmod (40 : Int))))) (IntKind.i64.wrap ((1 : Int) + (IntKind.i64.wrap (b.tmod (40 : Int) + (40 : Int))).tmod (40 : Int))) = true)) with | true => (match (firstI (notOf (IntKind.i64.wrap ((1 : Int) + (IntKind.i64.wrap (a.tmod (IntKind.i64.wrap ((1 : Int) + (IntKind.i64.wrap (b.tmod (40 : Int) + (40 : Int))).tmod (40 : Int))) + IntKind.i64.wrap ((1 : Int) + (IntKind.i64.wrap (b.tmod (40 : Int) + (40 : Int))).tmod (40 : Int)))).tmod (IntKind.i64.wrap ((1 : Int) + (IntKind.i64.wrap (b.tmod (40 : Int) + (40 : Int))).tmod (40 : Int))))) (IntKind.i64.wrap ((1 : Int) + (IntKind.i64.wrap (b.tmod (40 : Int) + (40 : Int))).tmod (40 : Int)))) x.snd.snd (0 : Int) != (-1 : Int)) with | true => (((true = false) ∧ True) ∧ ((wh = wh) ∧ True)) | false => ((∃ x1 : Nat, ((x1.le x.snd.snd.length) ∧ ((True ∧ (True ∧ ((true = true) ∧ (True ∧ (True ∧ (((↑x1 : Int) = (0 : Int)) ∧ True)))))) ∧ ((wh = wh) ∧ (((a = a) ∧ ((b = b) ∧ True)) ∧ (((IntKind.i64.wrap ((1 : Int) + (IntKind.i64.wrap (a.tmod (IntKind.i64.wrap ((1 : Int) + (IntKind.i64.wrap (b.tmod (40 : Int) + (40 : Int))).tmod (40 : Int))) + IntKind.i64.wrap ((1 : Int) + (IntKind.i64.wrap (b.tmod (40 : Int) + (40 : Int))).tmod (40 : Int)))).tmod (IntKind.i64.wrap ((1 : Int) + (IntKind.i64.wrap (b.tmod (40 : Int) + (40 : Int))).tmod (40 : Int)))) = IntKind.i64.wrap ((1 : Int) + (IntKind.i64.wrap (a.tmod (IntKind.i64.wrap ((1 : Int) + (IntKind.i64.wrap (b.tmod (40 : Int) + (40 : Int))).tmod (40 : Int))) + IntKind.i64.wrap ((1 : Int) + (IntKind.i64.wrap (b.tmod (40 : Int) + (40 : Int))).tmod (40 : Int)))).tmod (IntKind.i64.wrap ((1 : Int) + (IntKind.i64.wrap (b.tmod (40 : Int) + (40 : Int))).tmod (40 : Int))))) ∧ ((IntKind.i64.wrap ((1 : Int) + (IntKind.i64.wrap (b.tmod (40 : Int) + (40 : Int))).tmod (40 : Int)) = IntKind.i64.wrap ((1 : Int) + (IntKind.i64.wrap (b.tmod (40 : Int) + (40 : Int))).tmod (40 : Int))) ∧ True)) ∧ ((x.snd.snd = x.snd.snd) ∧ True))))))) ∧ (∀ x1 : Nat, ((x1.le x.snd.snd.length) → (match (decide ((↑x1 : Int) < (↑x.snd.snd.length : Int))) with | true => (match (inb (↑x1 : Int) x.snd.snd.length) with | true => (match (inb (↑x1 : Int) x.snd.snd.length) with | true => (match (decide (x.snd.snd.length ≤ (140737488355328 : Nat))) with | true => (match (IntKind.i64.wrap ((↑x1 : Int) + (1 : Int)) == (↑x.snd.snd.length : Int)) with | true => (match (!ref09Fair (IntKind.i64.wrap ((1 : Int) + (IntKind.i64.wrap (a.tmod (IntKind.i64.wrap ((1 : Int) + (IntKind.i64.wrap (b.tmod (40 : Int) + (40 : Int))).tmod (40 : Int))) + IntKind.i64.wrap ((1 : Int) + (IntKind.i64.wrap (b.tmod (40 : Int) + (40 : Int))).tmod (40 : Int)))).tmod (IntKind.i64.wrap ((1 : Int) + (IntKind.i64.wrap (b.tmod (40 : Int) + (40 : Int))).tmod (40 : Int))))) (IntKind.i64.wrap ((1 : Int) + (IntKind.i64.wrap (b.tmod (40 : Int) + (40 : Int))).tmod (40 : Int))) (at' noteE.zero x.snd.snd (↑x1 : Int)).SubDeadline (↑(ranN (7 : Int) (0 : Int) (0 : Int) (at' noteE.zero x.snd.snd (↑x1 : Int)).SubDeadline x.snd.snd) : Int)) with | true => (((true = false) ∧ True) ∧ ((wh = wh) ∧ True)) | false => (∃ x' : Nat, ((x'.le x.snd.snd.length) ∧ (((30 : Nat) - x' < (30 : Nat) - x1) ∧ ((True ∧ (True ∧ ((true = true) ∧ (True ∧ (True ∧ (((↑x' : Int) = IntKind.i64.wrap ((↑x1 : Int) + (1 : Int))) ∧ True)))))) ∧ ((wh = wh) ∧ (((a = a) ∧ ((b = b) ∧ True)) ∧ (((IntKind.i64.wrap ((1 : Int) + (IntKind.i64.wrap (a.tmod (IntKind.i64.wrap ((1 : Int) + (IntKind.i64.wrap (b.tmod (40 : Int) + (40 : Int))).tmod (40 : Int))) + IntKind.i64.wrap ((1 : Int) + (IntKind.i64.wrap (b.tmod (40 : Int) + (40 : Int))).tmod (40 : Int)))).tmod (IntKind.i64.wrap ((1 : Int) + (IntKind.i64.wrap (b.tmod (40 : Int) + (40 : Int))).tmod (40 : Int)))) = IntKind.i64.wrap ((1 : Int) + (IntKind.i64.wrap (a.tmod (IntKind.i64.wrap ((1 : Int) + (IntKind.i64.wrap (b.tmod (40 : Int) + (40 : Int))).tmod (40 : Int))) + IntKind.i64.wrap ((1 : Int) + (IntKind.i64.wrap (b.tmod (40 : Int) + (40 : Int))).tmod (40 : Int)))).tmod (IntKind.i64.wrap ((1 : Int) + (IntKind.i64.wrap (b.tmod (40 : Int) + (40 : Int))).tmod (40 : Int))))) ∧ ((IntKind.i64.wrap ((1 : Int) + (IntKind.i64.wrap (b.tmod (40 : Int) + (40 : Int))).tmod (40 : Int)) = IntKind.i64.wrap ((1 : Int) + (IntKind.i64.wrap (b.tmod (40 : Int) + (40 : Int))).tmod (40 : Int))) ∧ True)) ∧ ((x.snd.snd = x.snd.snd) ∧ True))))))))) | false => (match (inb (IntKind.i64.wrap ((↑x1 : Int) + (1 : Int))) x.snd.snd.length) with | true => (match (inb (IntKind.i64.wrap ((↑x1 : Int) + (1 : Int))) x.snd.snd.length) with | true => (match (decide ((at' noteE.zero x.snd.snd (IntKind.i64.wrap ((↑x1 : Int) + (1 : Int)))).SubRelease ≥ (at' noteE.zero x.snd.snd (↑x1 : Int)).SubDeadline)) with | true => (match (!ref09Fair (IntKind.i64.wrap ((1 : Int) + (IntKind.i64.wrap (a.tmod (IntKind.i64.wrap ((1 : Int) + (IntKind.i64.wrap (b.tmod (40 : Int) + (40 : Int))).tmod (40 : Int))) + IntKind.i64.wrap ((1 : Int) + (IntKind.i64.wrap (b.tmod (40 : Int) + (40 : Int))).tmod (40 : Int)))).tmod (IntKind.i64.wrap ((1 : Int) + (IntKind.i64.wrap (b.tmod (40 : Int) + (40 : Int))).tmod (40 : Int))))) (IntKind.i64.wrap ((1 : Int) + (IntKind.i64.wrap (b.tmod (40 : Int) + (40 : Int))).tmod (40 : Int))) (at' noteE.zero x.snd.snd (↑x1 : Int)).SubDeadline (↑(ranN (7 : Int) (0 : Int) (0 : Int) (at' noteE.zero x.snd.snd (↑x1 : Int)).SubDeadline x.snd.snd) : Int)) with | true => (((true = false) ∧ True) ∧ ((wh = wh) ∧ True)) | false => (∃ x' : Nat, ((x'.le x.snd.snd.length) ∧ (((30 : Nat) - x' < (30 : Nat) - x1) ∧ ((True ∧ (True ∧ ((true = true) ∧ (True ∧ (True ∧ (((↑x' : Int) = IntKind.i64.wrap ((↑x1 : Int) + (1 : Int))) ∧ True)))))) ∧ ((wh = wh) ∧ (((a = a) ∧ ((b = b) ∧ True)) ∧ (((IntKind.i64.wrap ((1 : Int) + (IntKind.i64.wrap (a.tmod (IntKind.i64.wrap ((1 : Int) + (IntKind.i64.wrap (b.tmod (40 : Int) + (40 : Int))).tmod (40 : Int))) + IntKind.i64.wrap ((1 : Int) + (IntKind.i64.wrap (b.tmod (40 : Int) + (40 : Int))).tmod (40 : Int)))).tmod (IntKind.i64.wrap ((1 : Int) + (IntKind.i64.wrap (b.tmod (40 : Int) + (40 : Int))).tmod (40 : Int)))) = IntKind.i64.wrap ((1 : Int) + (IntKind.i64.wrap (a.tmod (IntKind.i64.wrap ((1 : Int) + (IntKind.i64.wrap (b.tmod (40 : Int) + (40 : Int))).tmod (40 : Int))) + IntKind.i64.wrap ((1 : Int) + (IntKind.i64.wrap (b.tmod (40 : Int) + (40 : Int))).tmod (40 : Int)))).tmod (IntKind.i64.wrap ((1 : Int) + (IntKind.i64.wrap (b.tmod (40 : Int) + (40 : Int))).tmod (40 : Int))))) ∧ ((IntKind.i64.wrap ((1 : Int) + (IntKind.i64.wrap (b.tmod (40 : Int) + (40 : Int))).tmod (40 : Int)) = IntKind.i64.wrap ((1 : Int) + (IntKind.i64.wrap (b.tmod (40 : Int) + (40 : Int))).tmod (40 : Int))) ∧ True)) ∧ ((x.snd.snd = x.snd.snd) ∧ True))))))))) | false => (∃ x' : Nat, ((x'.le x.snd.snd.length) ∧ (((30 : Nat) - x' < (30 : Nat) - x1) ∧ ((True ∧ (True ∧ ((true = true) ∧ (True ∧ (True ∧ (((↑x' : Int) = IntKind.i64.wrap ((↑x1 : Int) + (1 : Int))) ∧ True)))))) ∧ ((wh = wh) ∧ (((a = a) ∧ ((b = b) ∧ True)) ∧ (((IntKind.i64.wrap ((1 : Int) + (IntKind.i64.wrap (a.tmod (IntKind.i64.wrap ((1 : Int) + (IntKind.i64.wrap (b.tmod (40 : Int) + (40 : Int))).tmod (40 : Int))) + IntKind.i64.wrap ((1 : Int) + (IntKind.i64.wrap (b.tmod (40 : Int) + (40 : Int))).tmod (40 : Int)))).tmod (IntKind.i64.wrap ((1 : Int) + (IntKind.i64.wrap (b.tmod (40 : Int) + (40 : Int))).tmod (40 : Int)))) = IntKind.i64.wrap ((1 : Int) + (IntKind.i64.wrap (a.tmod (IntKind.i64.wrap ((1 : Int) + (IntKind.i64.wrap (b.tmod (40 : Int) + (40 : Int))).tmod (40 : Int))) + IntKind.i64.wrap ((1 : Int) + (IntKind.i64.wrap (b.tmod (40 : Int) + (40 : Int))).tmod (40 : Int)))).tmod (IntKind.i64.wrap ((1 : Int) + (IntKind.i64.wrap (b.tmod (40 : Int) + (40 : Int))).tmod (40 : Int))))) ∧ ((IntKind.i64.wrap ((1 : Int) + (IntKind.i64.wrap (b.tmod (40 : Int) + (40 : Int))).tmod (40 : Int)) = IntKind.i64.wrap ((1 : Int) + (IntKind.i64.wrap (b.tmod (40 : Int) + (40 : Int))).tmod (40 : Int))) ∧ True)) ∧ ((x.snd.snd = x.snd.snd) ∧ True))))))))) | false => False) | false => False)) | false => False) | false => False) | false => False) | false => (((true = true) ∧ True) ∧ ((wh = wh) ∧ True))))))) | false => False))) | false => False)))) | false => False) | false => False)
theorem law20AuditFairVc (a b : Int) (wh : List Int) : fnX X17 ({ (annOf (T := T) (O := O) [(7, { σ := Nat × Int × List Note, st := fun S x => (((S.keep [1, 2, 5, 7]).int 10 x.1).int 9 x.2.1).new 8 (.vec 2 x.2.2 49), inv := fun _ x => x.1 ≤ wh.length ∧ FairOk (fairE a b) (fairP b) x.1 x.2.1 x.2.2, m := fun x => 20 - x.1 }),
  (24, { σ := Nat, st := fun S x => (S.keep [1, 2, 5, 7, 8]).int 19 x, inv := fun S x => x ≤ (S.gv 8 2).length, m := fun x => 30 - x })] [] [(19, [8])] : Ann T O) with
  join := fun i => match decide (i = 19) with
    | true => some { σ := Nat × Int × List Note, st := fun S x => (S.keep [1, 2, 5, 7]).new 8 (.vec 2 x.2.2 49), inv := fun x => FairOk (fairE a b) (fairP b) x.1 x.2.1 x.2.2 }
    | false => none }) Try.f7 [.agg [.raw (.int .i64 a), .raw (.int .i64 b)], .own 0] [.ro 0 wh] (ends [.ro 0 wh] ⟨some (.raw (.bool true)), []⟩) = law20AuditFairText a b wh := by kernel_rfl
theorem law20AuditFairHolds (a b : Int) (wh : List Int) : law20AuditFairText a b wh := by
  unfold law20AuditFairText
  obtain ⟨hw, hp40⟩ := fair_wt a b
  rw [show IntKind.i64.wrap (1 + (IntKind.i64.wrap (b.tmod 40 + 40)).tmod 40) = fairP b from rfl, show IntKind.i64.wrap (1 + (IntKind.i64.wrap (a.tmod (fairP b) + fairP b)).tmod (fairP b)) = fairE a b from rfl]
  generalize fairE a b = e at hw ⊢
  generalize fairP b = p at hw hp40 ⊢
  rw [show (p != 0) = true from bne_iff_ne.2 (by have := hw.1; have := hw.2.1; omega)]
  refine ⟨⟨⟨(0, -1, []), ⟨Nat.zero_le _, ⟨rfl, by dsimp only; omega, fun k h => absurd h (by simp), List.Pairwise.nil, .inl ⟨rfl, rfl⟩⟩⟩, by repeat' first | trivial | rfl | apply And.intro⟩, ?_⟩, ?_⟩
  · rintro ⟨i, last, l⟩ ⟨h1, h2⟩
    dsimp only at h1 h2 ⊢
    by_cases c1 : i < wh.length
    · rw [dec_lt c1]
      by_cases c2 : i < 20
      · have hnum := num_small (k := i + 1) (by omega) (by omega)
        obtain ⟨r1, r2⟩ := release_bound hw hnum
        have r3 := rel_dead hw hnum
        have r4 := dead_small hw hnum (by omega) hp40
        obtain ⟨r5, r6⟩ := h2.room hw c2
        have hadd := fun t => h2.add hw (t := t) c2
        have hwi : ((i + 1 : Nat) : Int) = IntKind.i64.wrap ((i : Int) + (1 : Int)) := by rw [wrap_id (by omega) (by omega)]; rfl
        obtain ⟨p0, o0, o1, o2, o3, o4, o5⟩ := of_of hw hnum
        rw [show decide ((i : Int) < 20) = true from decide_eq_true (by omega), show IntKind.i64.wrap (1 + (i : Int)) = ((i + 1 : Nat) : Int) by rw [wrap_id (by omega) (by omega)]; omega, p0, o0, o1, o2, o3, o4, inb_nat c1]
        unfold noteF at hadd
        generalize ref04Release e p (i + 1 : Nat) = r at *
        generalize ref04Deadline e p (i + 1 : Nat) = d at *
        have hlen := h2.len
        by_cases hr : r ≤ last
        · rw [decide_eq_true hr, wrap_id (n := last + 1) (by omega) (by omega), wrap_id (n := d - (last + 1)) (by omega) (by omega), show decide (d - (last + 1) < 1) = false from decide_eq_false (by omega), show (d - (last + 1) != 0) = true from bne_iff_ne.2 (by omega)]
          obtain ⟨t, e1, e2, e3⟩ := slot_in (at' (0 : Int) wh (i : Int)) (f := last + 1) (room := d - (last + 1)) (by omega) (by omega) (by omega) (by omega)
          rw [e1, show roomy (l.length + 1) 80 = true by simp [roomy]; omega]
          refine ⟨(i + 1, t, _), ⟨by dsimp only; omega, hadd t (by omega) (by omega) (by omega)⟩, by dsimp only; omega, ?_⟩
          repeat' first | exact hwi | trivial | rfl | apply And.intro
        · rw [decide_eq_false hr, wrap_id (n := d - r) (by omega) (by omega), show decide (d - r < 1) = false from decide_eq_false (by omega), show (d - r != 0) = true from bne_iff_ne.2 (by omega)]
          obtain ⟨t, e1, e2, e3⟩ := slot_in (at' (0 : Int) wh (i : Int)) (f := r) (room := d - r) (by omega) (by omega) (by omega) (by omega)
          rw [e1, show roomy (l.length + 1) 80 = true by simp [roomy]; omega]
          refine ⟨(i + 1, t, _), ⟨by dsimp only; omega, hadd t (by omega) (by omega) (by omega)⟩, by dsimp only; omega, ?_⟩
          repeat' first | exact hwi | trivial | rfl | apply And.intro
      · rw [show decide ((i : Int) < 20) = false from decide_eq_false (by omega)]
        exact ⟨(i, last, l), h2, by repeat' first | trivial | rfl | apply And.intro⟩
    · rw [dec_ge (by omega)]
      exact ⟨(i, last, l), h2, by repeat' first | trivial | rfl | apply And.intro⟩
  rintro ⟨i, last, l⟩ h2
  dsimp only at h2 ⊢
  have hlen := h2.len
  have hsome := h2.some
  obtain ⟨k1, k2⟩ := h2.check
  rw [show decide (l.length ≤ 140737488355328) = true from decide_eq_true (by omega), k1, k2, decide_eq_true (⟨by omega, auditPre_all hw⟩ : l.length ≤ 140737488355328 ∧ ∀ n : Note, auditOfPre n e p = true), h2.windows hw]
  refine ⟨⟨0, Nat.zero_le _, by repeat' first | trivial | rfl | apply And.intro⟩, ?_⟩
  intro x (hx : x ≤ l.length)
  by_cases c : x < l.length
  · have hwx : ((x + 1 : Nat) : Int) = IntKind.i64.wrap ((x : Int) + (1 : Int)) := by rw [wrap_id (by omega) (by omega)]; rfl
    obtain ⟨t, a1, a2, a3, a4⟩ := h2.note x c
    have hat : at' noteE.zero l (x : Int) = noteF e p (x + 1 : Nat) t := by rw [at_nat c, a1]
    rw [dec_lt c, inb_nat c, hat, show (noteF e p (x + 1 : Nat) t).SubDeadline = ref04Deadline e p (x + 1 : Nat) from rfl]
    rw [← hwx]
    by_cases he : x + 1 = l.length
    · rw [show (((x + 1 : Nat) : Int) == (l.length : Int)) = true from beq_iff_eq.2 (by omega), h2.ran hw c (.inl he), fair_lag hw hp40 (by omega) (by omega)]
      exact ⟨x + 1, c, by omega, by repeat' first | trivial | rfl | apply And.intro⟩
    · have c' : x + 1 < l.length := by omega
      obtain ⟨s, b1, b2, b3, b4⟩ := h2.note (x + 1) c'
      have hat2 : at' noteE.zero l ((x + 1 : Nat) : Int) = noteF e p (x + 2 : Nat) s := by rw [at_nat c', b1]
      rw [show (((x + 1 : Nat) : Int) == (l.length : Int)) = false from beq_eq_false_iff_ne.2 (by omega), inb_nat c', hat2, show (noteF e p (x + 2 : Nat) s).SubRelease = ref04Release e p (x + 2 : Nat) from rfl]
      by_cases hr : ref04Release e p (x + 2 : Nat) ≥ ref04Deadline e p (x + 1 : Nat)
      · rw [decide_eq_true hr, h2.ran hw c (.inr ⟨c', hr⟩), fair_lag hw hp40 (by omega) (by omega)]
        exact ⟨x + 1, c, by omega, by repeat' first | trivial | rfl | apply And.intro⟩
      · rw [decide_eq_false hr]
        exact ⟨x + 1, c, by omega, by repeat' first | trivial | rfl | apply And.intro⟩
  · rw [dec_ge (by omega)]
    repeat' first | trivial | rfl | apply And.intro
noncomputable def law20AuditFairCon : Con T O := fun args cs => match args, cs with
  | [.agg [.raw (.int .i64 _), .raw (.int .i64 _)], .own 0], [.ro 0 _] => .ret ⟨some (.raw (.bool true)), []⟩
  | _, _ => .fail
theorem law20AuditFairOk : ConOk R Try.prog 7 law20AuditFairCon := con_of_fn R (X17) (TabOk.con R X17Ok) mixed Try.call7 Try.func7 law20AuditFairCon (by
  intro args cs K h
  unfold law20AuditFairCon at h
  split at h
  · rename_i a b wh
    refine ⟨{ (annOf (T := T) (O := O) [(7, { σ := Nat × Int × List Note, st := fun S x => (((S.keep [1, 2, 5, 7]).int 10 x.1).int 9 x.2.1).new 8 (.vec 2 x.2.2 49), inv := fun _ x => x.1 ≤ wh.length ∧ FairOk (fairE a b) (fairP b) x.1 x.2.1 x.2.2, m := fun x => 20 - x.1 }),
  (24, { σ := Nat, st := fun S x => (S.keep [1, 2, 5, 7, 8]).int 19 x, inv := fun S x => x ≤ (S.gv 8 2).length, m := fun x => 30 - x })] [] [(19, [8])] : Ann T O) with
  join := fun i => match decide (i = 19) with
    | true => some { σ := Nat × Int × List Note, st := fun S x => (S.keep [1, 2, 5, 7]).new 8 (.vec 2 x.2.2 49), inv := fun x => FairOk (fairE a b) (fairP b) x.1 x.2.1 x.2.2 }
    | false => none }, _, fun v S hv => ⟨_, h, hv⟩, ?_⟩
    rw [law20AuditFairVc a b wh]
    exact law20AuditFairHolds a b wh
  · exact h.elim)
noncomputable def tab18 : Tab T O := (7, law20AuditFairCon) :: tab17
theorem tabOk18 : TabOk R Try.prog tab18 := TabOk.cons R law20AuditFairOk <| tabOk17
noncomputable def X18 : Ctx T O := { X0 with con := conOf tab18 }
theorem X18Ok : TabOk R X18.P tab18 := tabOk18
end Go.Proofs.Ytkcnocigkblbiaa
