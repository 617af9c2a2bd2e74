/-
  Part of a proof over the seat Ytkcnocigkblbiaa: printed by a small program or typed by hand.
-/
import Derived.Test.YtkcnocigkblbiaaAuditS9
import Derived.KernelRfl
namespace Go.Proofs.Ytkcnocigkblbiaa
open Go.Sx Go.Proofs Classical

theorem timely_eq (n : Note) : auditTimely n = ref20Timely n := rfl
theorem late_eq (L : List Note) : firstI (fun n => !ref20Timely n) L 0 = firstI auditLate1 L 0 := rfl
theorem ord_eq {L : List Note} {M : List (Int × Note)} {x : Nat} (hx : x < L.length) (hM : ∀ id, mget id M = if lastK L id x < 0 then none else some (at' noteE.zero L (lastK L id x))) : ordBad L x = !orderRight M L[x] := by
  have ha : at' noteE.zero L (x : Int) = L[x] := at_nat hx
  unfold ordBad orderRight
  rw [ha, hM]
  by_cases h : lastK L L[x].ID x < 0
  · rw [if_pos h, decide_eq_true h]
    rfl
  · rw [if_neg h, decide_eq_false h]
    simp only [Bool.false_or, auditFollows]
    generalize at' noteE.zero L (lastK L L[x].ID x) = b
    by_cases h1 : L[x].Since > b.Since
    · rw [decide_eq_true h1]
      rfl
    · rw [decide_eq_false h1]
      by_cases h2 : L[x].Since = b.Since
      · rw [show decide (L[x].Since < b.Since) = false from decide_eq_false (by omega), show (L[x].Since == b.Since) = true by simpa using h2]
        cases h3 : IntKind.i64.wrap (L[x].SubIndex - 1) == b.SubIndex
        · simp [bne, h3]
        · by_cases h4 : L[x].At ≤ b.At
          · rw [decide_eq_true h4, show decide (L[x].At > b.At) = false from decide_eq_false (by omega)]
            simp [bne, h3]
          · rw [decide_eq_false h4, show decide (L[x].At > b.At) = true from decide_eq_true (by omega)]
            simp [bne, h3]
      · rw [show decide (L[x].Since < b.Since) = true from decide_eq_true (by omega), show (L[x].Since == b.Since) = false by simpa using h2]
        rfl
theorem order_eq (L : List Note) : ∀ (n x : Nat) (M : List (Int × Note)), L.length - x = n → x ≤ L.length → (∀ id, mget id M = if lastK L id x < 0 then none else some (at' noteE.zero L (lastK L id x))) → firstN (ordBad L) n x = orderGo M (L.drop x) x
  | 0, x, M, hn, hx, _ => by
    rw [List.drop_of_length_le (by omega)]
    rfl
  | n + 1, x, M, hn, hx, hM => by
    have h : x < L.length := by omega
    rw [drop_at h]
    simp only [firstN, orderGo]
    rw [ord_eq h hM]
    have ih := order_eq L n (x + 1) (mput L[x].ID L[x] M) (by omega) h (fun id => by
      have ha : at' noteE.zero L (x : Int) = L[x] := at_nat h
      rw [mget_put, hM id]
      simp only [lastK, ha]
      by_cases e : id = L[x].ID
      · subst e
        rw [if_pos rfl, show (L[x].ID == L[x].ID) = true by simp]
        simp only [cond_true]
        rw [if_neg (by omega), ha]
      · rw [if_neg e, show (L[x].ID == id) = false by simp; exact fun h => e h.symm]
        rfl)
    cases orderRight M L[x]
    · rfl
    · simp only [Bool.not_true, cond_false, cond_true]
      rw [ih]
      rfl
theorem order_all (L : List Note) : firstN (ordBad L) L.length 0 = orderGo [] L 0 :=
  order_eq L L.length 0 [] rfl (Nat.zero_le _) fun _ => rfl
/-- what the sets hold of the notes so far, for a slot -/
structure Held (P : List Note) (t : Int) (I C : List (Int × Bool)) : Prop where
  le : ∀ a ∈ P, a.At ≤ t
  ids : ∀ id, mget id I = bif P.any (fun a => a.At == t && a.ID == id) then some true else none
  cores : ∀ c, has C c = P.any fun a => a.At == t && a.Core == c
  num : I.length = P.countP fun a => a.At == t
theorem Held.fresh {P : List Note} {t t' : Int} {I C : List (Int × Bool)} (h : Held P t I C) (ht : t < t') : Held P t' [] [] := by
  have no : ∀ a ∈ P, (a.At == t') = false := fun a ha => by
    have := h.le a ha
    simp
    omega
  refine ⟨fun a ha => by have := h.le a ha; omega, fun id => ?_, fun c => ?_, ?_⟩
  · rw [show (P.any fun a => a.At == t' && a.ID == id) = false by rw [List.any_eq_false]; intro a ha; simp [no a ha]]
    rfl
  · rw [show (P.any fun a => a.At == t' && a.Core == c) = false by rw [List.any_eq_false]; intro a ha; simp [no a ha]]
    rfl
  · rw [show (P.countP fun a => a.At == t') = 0 by rw [List.countP_eq_zero]; intro a ha; simp [no a ha]]
    rfl
theorem Held.add {P : List Note} {n : Note} {I C : List (Int × Bool)} (h : Held P n.At I C) (hi : has I n.ID = false) : Held (P ++ [n]) n.At (mput n.ID true I) (mput n.Core true C) := by
  have hn : mget n.ID I = none := by
    have := h.ids n.ID
    unfold has at hi
    cases hq : P.any (fun a => a.At == n.At && a.ID == n.ID)
    · rw [hq] at this; exact this
    · rw [hq] at this; rw [this] at hi; cases hi
  refine ⟨fun a ha => ?_, fun id => ?_, fun c => ?_, ?_⟩
  · rw [List.mem_append, List.mem_singleton] at ha
    rcases ha with ha | rfl
    · exact h.le a ha
    · exact Int.le_refl _
  · rw [mget_put, h.ids id, List.any_append]
    by_cases e : id = n.ID
    · subst e; simp
    · rw [if_neg e]
      have : (n.ID == id) = false := by simp; exact fun h => e h.symm
      simp [this]
  · unfold has
    rw [mget_put, List.any_append]
    have hc := h.cores c
    unfold has at hc
    by_cases e : c = n.Core
    · subst e; simp
    · rw [if_neg e, hc]
      have : (n.Core == c) = false := by simp; exact fun h => e h.symm
      simp [this]
  · rw [length_mput, hn, h.num, List.countP_append]
    simp [List.countP_cons]
theorem any_or {P : List Note} {p q r : Note → Bool} (h : ∀ a, p a = (q a || r a)) : P.any p = (P.any q || P.any r) := by
  induction P with
  | nil => rfl
  | cons a l ih =>
    simp only [List.any_cons, ih, h]
    cases q a <;> cases r a <;> cases l.any q <;> rfl
theorem slots_eq (L : List Note) (m : Int) : ∀ (k x : Nat) (p : Option Int) (I C : List (Int × Bool)), L.length - x = k → x ≤ L.length → ((x = 0 ∧ p = none ∧ I = [] ∧ C = []) ∨ ∃ t, p = some t ∧ 0 < x ∧ (at' noteE.zero L (x - 1 : Nat)).At = t ∧ Held (L.take x) t I C) →
    firstN (badS L m) k x = slotsGo m p I C (L.drop x) x
  | 0, x, p, I, C, hk, hx, _ => by
    rw [List.drop_of_length_le (by omega)]
    rfl
  | k + 1, x, p, I, C, hk, hx, hI => by
    have h : x < L.length := by clear hI; omega
    have e1 : L.length - (x + 1) = k := by clear hI; omega
    have hpos : 0 < x + 1 := Nat.succ_pos x
    have ha : at' noteE.zero L (x : Int) = L[x] := at_nat h
    rw [drop_at h]
    simp only [firstN, slotsGo]
    have hback : (decide (0 < x) && decide ((at' noteE.zero L x).At < (at' noteE.zero L (x - 1 : Nat)).At)) = back? p L[x] := by
      rcases hI with ⟨rfl, rfl, _⟩ | ⟨t, rfl, h0, h1, _⟩
      · rfl
      · rw [h1, ha, decide_eq_true h0]
        rfl
    have hheld : back? p L[x] = false → Held (L.take x) L[x].At (bif fresh? p L[x] then [] else I) (bif fresh? p L[x] then [] else C) := by
      intro hb
      rcases hI with ⟨rfl, rfl, rfl, rfl⟩ | ⟨t, rfl, h0, h1, h2⟩
      · exact ⟨by simp, fun _ => rfl, fun _ => rfl, rfl⟩
      · simp only [back?, decide_eq_false_iff_not] at hb
        by_cases e : L[x].At = t
        · have : fresh? (some t) L[x] = false := by simp [fresh?, e]
          rw [this]
          rw [e]
          exact h2
        · have : fresh? (some t) L[x] = true := by simp [fresh?, e]
          rw [this]
          exact h2.fresh (by omega)
    have hbad : badS L m x = (back? p L[x] || (decide (L[x].Core < 0) || decide (L[x].Core ≥ m) || clash L x L[x] || decide ((sameN L x L[x] : Int) ≥ m))) := by
      unfold badS
      rw [hback, ha]
      cases back? p L[x] <;> simp
    rw [hbad]
    cases hb : back? p L[x]
    · have H := hheld hb
      have es : slotsBad m (bif fresh? p L[x] then [] else I) (bif fresh? p L[x] then [] else C) L[x] = (decide (L[x].Core < 0) || decide (L[x].Core ≥ m) || clash L x L[x] || decide ((sameN L x L[x] : Int) ≥ m)) := by
        have hc : clash L x L[x] = (has (bif fresh? p L[x] then [] else I) L[x].ID || has (bif fresh? p L[x] then [] else C) L[x].Core) := by
          have e1 : has (bif fresh? p L[x] then [] else I) L[x].ID = (L.take x).any fun a => a.At == L[x].At && a.ID == L[x].ID := by
            unfold has
            rw [H.ids]
            cases (L.take x).any fun a => a.At == L[x].At && a.ID == L[x].ID <;> rfl
          rw [e1, H.cores]
          unfold clash clashOf
          exact any_or fun a => by cases a.At == L[x].At <;> simp
        unfold slotsBad
        rw [hc, H.num]
        unfold sameN
        simp only [Bool.or_assoc]
      rw [es]
      simp only [Bool.false_or, cond_false]
      cases hq : (decide (L[x].Core < 0) || decide (L[x].Core ≥ m) || clash L x L[x] || decide ((sameN L x L[x] : Int) ≥ m))
      · have hi : has (bif fresh? p L[x] then [] else I) L[x].ID = false := by
          rw [← es] at hq
          unfold slotsBad at hq
          simp only [Bool.or_eq_false_iff] at hq
          exact hq.1.1.2
        have ih := slots_eq L m k (x + 1) (some L[x].At) (mput L[x].ID true (bif fresh? p L[x] then [] else I)) (mput L[x].Core true (bif fresh? p L[x] then [] else C)) e1 h (.inr ⟨_, rfl, hpos, by rw [Nat.add_sub_cancel, ha], by rw [take_at h]; exact H.add hi⟩)
        simp only [cond_false]
        rw [ih]
        rfl
      · rfl
    · rfl
theorem slots_all (L : List Note) (m : Int) : firstN (badS L m) L.length 0 = slotsGo m none [] [] L 0 :=
  slots_eq L m L.length 0 none [] [] rfl (Nat.zero_le _) (.inl ⟨rfl, rfl, rfl, rfl⟩)

/-! ### regatta/regattalaw20.tells -/
def law20TellsText (L : List Note) (m id since lo hi : Int) : Prop := (match (decide (L.length ≤ 140737488355328)) with | true => (∀ m1 : Int, ((m1 = firstI (fun n => !ref20Timely n) L 0) → (match (decide (L.length ≤ 140737488355328)) with | true => (∀ m2 : Int, ((m2 = firstN (ordBad L) L.length 0) → (match (decide (L.length ≤ 140737488355328)) with | true => (∀ m3 : Int, ((m3 = firstN (badS L m) L.length 0) → (match (decide (m1 ≥ 0)) with | true => (match (decide (L.length ≤ 140737488355328)) with | true => (∀ m4 : Int, ((m4 = checkK L m) → (∀ m5 : Int, ((m5 = checkAt L m) → ((∃ x : Nat, ((x.le L.length) ∧ ((True ∧ (True ∧ ((m = m) ∧ ((m1 = m1) ∧ ((m2 = m2) ∧ ((m3 = m3) ∧ (((1 : Int) = 1) ∧ ((m1 = m1) ∧ ((m4 = m4) ∧ ((m5 = m5) ∧ (((↑x : Int) = 0) ∧ True))))))))))) ∧ ((L = L) ∧ (((m = m) ∧ ((id = id) ∧ ((since = since) ∧ ((lo = lo) ∧ ((hi = hi) ∧ True))))) ∧ True))))) ∧ (∀ x : Nat, ((x.le L.length) → (match (decide ((↑x : Int) < (↑L.length : Int))) with | true => (match (inb (↑x : Int) L.length) with | true => (match (inb (↑x : Int) L.length) with | true => (match (inb (↑x : Int) L.length) with | true => (match (inb (↑x : Int) L.length) with | true => (match (auditTimely (at' noteE.zero L (↑x : Int)) != ref20Timely (at' noteE.zero L (↑x : Int))) with | true => (((true = false) ∧ True) ∧ ((L = L) ∧ True)) | false => (∃ x' : Nat, ((x'.le L.length) ∧ ((L.length - x' < L.length - x) ∧ ((True ∧ (True ∧ ((m = m) ∧ ((m1 = m1) ∧ ((m2 = m2) ∧ ((m3 = m3) ∧ (((1 : Int) = 1) ∧ ((m1 = m1) ∧ ((m4 = m4) ∧ ((m5 = m5) ∧ (((↑x' : Int) = IntKind.i64.wrap ((↑x : Int) + 1)) ∧ True))))))))))) ∧ ((L = L) ∧ (((m = m) ∧ ((id = id) ∧ ((since = since) ∧ ((lo = lo) ∧ ((hi = hi) ∧ True))))) ∧ True))))))) | false => False) | false => False) | false => False) | false => False) | false => (match (decide (L.length ≤ 140737488355328)) with | true => (∀ m6 : Int, ((m6 = (↑(ranN id since lo hi L) : Int)) → (match (decide (L.length ≤ 140737488355328)) with | true => (∀ m7 : Int, ((m7 = firstI auditLate1 L 0) → (match (m7 == m1) with | true => (match (decide (L.length ≤ 140737488355328)) with | true => (∀ m8 : Int, ((m8 = orderGo [] L 0) → (match (m8 == m2) with | true => (match (decide (L.length ≤ 140737488355328)) with | true => (∀ m9 : Int, ((m9 = slotsGo m none [] [] L 0) → (match (m9 == m3) with | true => (match (m4 == 1) with | true => (match (m5 == m1) with | true => (match (decide (L.length ≤ 140737488355328)) with | true => (∀ m10 : Int, ((m10 = (↑(ranN id since lo hi L) : Int)) → (((true = (m10 == m6)) ∧ True) ∧ ((L = L) ∧ True)))) | false => False) | false => (((true = false) ∧ True) ∧ ((L = L) ∧ True))) | false => (((true = false) ∧ True) ∧ ((L = L) ∧ True))) | false => (((true = false) ∧ True) ∧ ((L = L) ∧ True))))) | false => False) | false => (((true = false) ∧ True) ∧ ((L = L) ∧ True))))) | false => False) | false => (((true = false) ∧ True) ∧ ((L = L) ∧ True))))) | false => False))) | false => False))))))))) | false => False) | false => (match (decide (m2 ≥ 0)) with | true => (match (decide (L.length ≤ 140737488355328)) with | true => (∀ m4 : Int, ((m4 = checkK L m) → (∀ m5 : Int, ((m5 = checkAt L m) → ((∃ x : Nat, ((x.le L.length) ∧ ((True ∧ (True ∧ ((m = m) ∧ ((m1 = m1) ∧ ((m2 = m2) ∧ ((m3 = m3) ∧ (((2 : Int) = 2) ∧ ((m2 = m2) ∧ ((m4 = m4) ∧ ((m5 = m5) ∧ (((↑x : Int) = 0) ∧ True))))))))))) ∧ ((L = L) ∧ (((m = m) ∧ ((id = id) ∧ ((since = since) ∧ ((lo = lo) ∧ ((hi = hi) ∧ True))))) ∧ True))))) ∧ (∀ x : Nat, ((x.le L.length) → (match (decide ((↑x : Int) < (↑L.length : Int))) with | true => (match (inb (↑x : Int) L.length) with | true => (match (inb (↑x : Int) L.length) with | true => (match (inb (↑x : Int) L.length) with | true => (match (inb (↑x : Int) L.length) with | true => (match (auditTimely (at' noteE.zero L (↑x : Int)) != ref20Timely (at' noteE.zero L (↑x : Int))) with | true => (((true = false) ∧ True) ∧ ((L = L) ∧ True)) | false => (∃ x' : Nat, ((x'.le L.length) ∧ ((L.length - x' < L.length - x) ∧ ((True ∧ (True ∧ ((m = m) ∧ ((m1 = m1) ∧ ((m2 = m2) ∧ ((m3 = m3) ∧ (((2 : Int) = 2) ∧ ((m2 = m2) ∧ ((m4 = m4) ∧ ((m5 = m5) ∧ (((↑x' : Int) = IntKind.i64.wrap ((↑x : Int) + 1)) ∧ True))))))))))) ∧ ((L = L) ∧ (((m = m) ∧ ((id = id) ∧ ((since = since) ∧ ((lo = lo) ∧ ((hi = hi) ∧ True))))) ∧ True))))))) | false => False) | false => False) | false => False) | false => False) | false => (match (decide (L.length ≤ 140737488355328)) with | true => (∀ m6 : Int, ((m6 = (↑(ranN id since lo hi L) : Int)) → (match (decide (L.length ≤ 140737488355328)) with | true => (∀ m7 : Int, ((m7 = firstI auditLate1 L 0) → (match (m7 == m1) with | true => (match (decide (L.length ≤ 140737488355328)) with | true => (∀ m8 : Int, ((m8 = orderGo [] L 0) → (match (m8 == m2) with | true => (match (decide (L.length ≤ 140737488355328)) with | true => (∀ m9 : Int, ((m9 = slotsGo m none [] [] L 0) → (match (m9 == m3) with | true => (match (m4 == 2) with | true => (match (m5 == m2) with | true => (match (decide (L.length ≤ 140737488355328)) with | true => (∀ m10 : Int, ((m10 = (↑(ranN id since lo hi L) : Int)) → (((true = (m10 == m6)) ∧ True) ∧ ((L = L) ∧ True)))) | false => False) | false => (((true = false) ∧ True) ∧ ((L = L) ∧ True))) | false => (((true = false) ∧ True) ∧ ((L = L) ∧ True))) | false => (((true = false) ∧ True) ∧ ((L = L) ∧ True))))) | false => False) | false => (((true = false) ∧ True) ∧ ((L = L) ∧ True))))) | false => False) | false => (((true = false) ∧ True) ∧ ((L = L) ∧ True))))) | false => False))) | false => False))))))))) | false => False) | false => (match (decide (m3 ≥ 0)) with | true => (match (decide (L.length ≤ 140737488355328)) with | true => (∀ m4 : Int, ((m4 = checkK L m) → (∀ m5 : Int, ((m5 = checkAt L m) → ((∃ x : Nat, ((x.le L.length) ∧ ((True ∧ (True ∧ ((m = m) ∧ ((m1 = m1) ∧ ((m2 = m2) ∧ ((m3 = m3) ∧ (((3 : Int) = 3) ∧ ((m3 = m3) ∧ ((m4 = m4) ∧ ((m5 = m5) ∧ (((↑x : Int) = 0) ∧ True))))))))))) ∧ ((L = L) ∧ (((m = m) ∧ ((id = id) ∧ ((since = since) ∧ ((lo = lo) ∧ ((hi = hi) ∧ True))))) ∧ True))))) ∧ (∀ x : Nat, ((x.le L.length) → (match (decide ((↑x : Int) < (↑L.length : Int))) with | true => (match (inb (↑x : Int) L.length) with | true => (match (inb (↑x : Int) L.length) with | true => (match (inb (↑x : Int) L.length) with | true => (match (inb (↑x : Int) L.length) with | true => (match (auditTimely (at' noteE.zero L (↑x : Int)) != ref20Timely (at' noteE.zero L (↑x : Int))) with | true => (((true = false) ∧ True) ∧ ((L = L) ∧ True)) | false => (∃ x' : Nat, ((x'.le L.length) ∧ ((L.length - x' < L.length - x) ∧ ((True ∧ (True ∧ ((m = m) ∧ ((m1 = m1) ∧ ((m2 = m2) ∧ ((m3 = m3) ∧ (((3 : Int) = 3) ∧ ((m3 = m3) ∧ ((m4 = m4) ∧ ((m5 = m5) ∧ (((↑x' : Int) = IntKind.i64.wrap ((↑x : Int) + 1)) ∧ True))))))))))) ∧ ((L = L) ∧ (((m = m) ∧ ((id = id) ∧ ((since = since) ∧ ((lo = lo) ∧ ((hi = hi) ∧ True))))) ∧ True))))))) | false => False) | false => False) | false => False) | false => False) | false => (match (decide (L.length ≤ 140737488355328)) with | true => (∀ m6 : Int, ((m6 = (↑(ranN id since lo hi L) : Int)) → (match (decide (L.length ≤ 140737488355328)) with | true => (∀ m7 : Int, ((m7 = firstI auditLate1 L 0) → (match (m7 == m1) with | true => (match (decide (L.length ≤ 140737488355328)) with | true => (∀ m8 : Int, ((m8 = orderGo [] L 0) → (match (m8 == m2) with | true => (match (decide (L.length ≤ 140737488355328)) with | true => (∀ m9 : Int, ((m9 = slotsGo m none [] [] L 0) → (match (m9 == m3) with | true => (match (m4 == 3) with | true => (match (m5 == m3) with | true => (match (decide (L.length ≤ 140737488355328)) with | true => (∀ m10 : Int, ((m10 = (↑(ranN id since lo hi L) : Int)) → (((true = (m10 == m6)) ∧ True) ∧ ((L = L) ∧ True)))) | false => False) | false => (((true = false) ∧ True) ∧ ((L = L) ∧ True))) | false => (((true = false) ∧ True) ∧ ((L = L) ∧ True))) | false => (((true = false) ∧ True) ∧ ((L = L) ∧ True))))) | false => False) | false => (((true = false) ∧ True) ∧ ((L = L) ∧ True))))) | false => False) | false => (((true = false) ∧ True) ∧ ((L = L) ∧ True))))) | false => False))) | false => False))))))))) | false => False) | false => (match (decide (L.length ≤ 140737488355328)) with | true => (∀ m4 : Int, ((m4 = checkK L m) → (∀ m5 : Int, ((m5 = checkAt L m) → ((∃ x : Nat, ((x.le L.length) ∧ ((True ∧ (True ∧ ((m = m) ∧ ((m1 = m1) ∧ ((m2 = m2) ∧ ((m3 = m3) ∧ (((0 : Int) = 0) ∧ (((-1 : Int) = -1) ∧ ((m4 = m4) ∧ ((m5 = m5) ∧ (((↑x : Int) = 0) ∧ True))))))))))) ∧ ((L = L) ∧ (((m = m) ∧ ((id = id) ∧ ((since = since) ∧ ((lo = lo) ∧ ((hi = hi) ∧ True))))) ∧ True))))) ∧ (∀ x : Nat, ((x.le L.length) → (match (decide ((↑x : Int) < (↑L.length : Int))) with | true => (match (inb (↑x : Int) L.length) with | true => (match (inb (↑x : Int) L.length) with | true => (match (inb (↑x : Int) L.length) with | true => (match (inb (↑x : Int) L.length) with | true => (match (auditTimely (at' noteE.zero L (↑x : Int)) != ref20Timely (at' noteE.zero L (↑x : Int))) with | true => (((true = false) ∧ True) ∧ ((L = L) ∧ True)) | false => (∃ x' : Nat, ((x'.le L.length) ∧ ((L.length - x' < L.length - x) ∧ ((True ∧ (True ∧ ((m = m) ∧ ((m1 = m1) ∧ ((m2 = m2) ∧ ((m3 = m3) ∧ (((0 : Int) = 0) ∧ (((-1 : Int) = -1) ∧ ((m4 = m4) ∧ ((m5 = m5) ∧ (((↑x' : Int) = IntKind.i64.wrap ((↑x : Int) + 1)) ∧ True))))))))))) ∧ ((L = L) ∧ (((m = m) ∧ ((id = id) ∧ ((since = since) ∧ ((lo = lo) ∧ ((hi = hi) ∧ True))))) ∧ True))))))) | false => False) | false => False) | false => False) | false => False) | false => (match (decide (L.length ≤ 140737488355328)) with | true => (∀ m6 : Int, ((m6 = (↑(ranN id since lo hi L) : Int)) → (match (decide (L.length ≤ 140737488355328)) with | true => (∀ m7 : Int, ((m7 = firstI auditLate1 L 0) → (match (m7 == m1) with | true => (match (decide (L.length ≤ 140737488355328)) with | true => (∀ m8 : Int, ((m8 = orderGo [] L 0) → (match (m8 == m2) with | true => (match (decide (L.length ≤ 140737488355328)) with | true => (∀ m9 : Int, ((m9 = slotsGo m none [] [] L 0) → (match (m9 == m3) with | true => (match (m4 == 0) with | true => (match (m5 == -1) with | true => (match (decide (L.length ≤ 140737488355328)) with | true => (∀ m10 : Int, ((m10 = (↑(ranN id since lo hi L) : Int)) → (((true = (m10 == m6)) ∧ True) ∧ ((L = L) ∧ True)))) | false => False) | false => (((true = false) ∧ True) ∧ ((L = L) ∧ True))) | false => (((true = false) ∧ True) ∧ ((L = L) ∧ True))) | false => (((true = false) ∧ True) ∧ ((L = L) ∧ True))))) | false => False) | false => (((true = false) ∧ True) ∧ ((L = L) ∧ True))))) | false => False) | false => (((true = false) ∧ True) ∧ ((L = L) ∧ True))))) | false => False))) | false => False))))))))) | false => False)))))) | false => False))) | false => False))) | false => False)
theorem law20TellsVc (L : List Note) (m id since lo hi : Int) : fnX { X9 with gen := true } (oneLoop 18 { σ := Nat, st := fun S x => (S.keep [0, 3, 5, 6, 7, 8, 9, 10, 11, 12]).int 13 x, inv := fun _ x => x ≤ L.length, m := fun x => L.length - x }) Try.f14 [.own 0, .agg [.raw (.int .i64 m), .raw (.int .i64 id), .raw (.int .i64 since), .raw (.int .i64 lo), .raw (.int .i64 hi)]] [.ro 2 L] (ends [.ro 2 L] ⟨some (.raw (.bool true)), []⟩) = law20TellsText L m id since lo hi := by kernel_rfl
theorem law20TellsHolds (L : List Note) (m id since lo hi : Int) (hp : L.length ≤ 140737488355328) : law20TellsText L m id since lo hi := by
  unfold law20TellsText
  rw [decide_eq_true hp]
  rintro m1 h1 m2 h2 m3 h3
  rw [late_eq] at h1
  rw [order_all] at h2
  rw [slots_all] at h3
  have r1 : m1 = -1 ∨ 0 ≤ m1 := h1 ▸ (firstI_take auditLate1 L 0 0 (by omega)).1
  have r2 : m2 = -1 ∨ 0 ≤ m2 := h2 ▸ (orderGo_take L [] 0 0 (by omega)).1
  have r3 : m3 = -1 ∨ 0 ≤ m3 := h3 ▸ (slotsGo_take m L none [] [] 0 0 (by omega)).1
  by_cases g1 : 0 ≤ m1
  · rw [show decide (m1 ≥ 0) = true from decide_eq_true g1]
    rintro m4 h4 m5 h5
    have e4 : m4 = 1 := by rw [h4]; unfold checkK; rw [← h1, ← h2, ← h3]; rw [show (m1 != -1) = true by rw [bne_iff_ne]; omega]; rfl
    have e5 : m5 = m1 := by rw [h5]; unfold checkAt; rw [← h1, ← h2, ← h3]; rw [show (m1 != -1) = true by rw [bne_iff_ne]; omega]; rfl
    refine ⟨⟨0, Nat.zero_le _, ⟨trivial, trivial, rfl, rfl, rfl, rfl, rfl, rfl, rfl, rfl, rfl, trivial⟩, rfl, ⟨rfl, rfl, rfl, rfl, rfl, trivial⟩, trivial⟩, ?_⟩
    intro x hx
    have hx : x ≤ L.length := hx
    by_cases h : x < L.length
    · rw [dec_lt h, inb_nat h, show (auditTimely (at' noteE.zero L (x : Int)) != ref20Timely (at' noteE.zero L (x : Int))) = false by rw [timely_eq]; simp]
      exact ⟨x + 1, h, by omega, ⟨trivial, trivial, rfl, rfl, rfl, rfl, rfl, rfl, rfl, rfl, (wrap_succ h hp).symm, trivial⟩, rfl, ⟨rfl, rfl, rfl, rfl, rfl, trivial⟩, trivial⟩
    · rw [dec_ge (by omega)]
      rintro m6 h6 m7 h7
      rw [show (m7 == m1) = true by rw [h7, h1]; simp]
      rintro m8 h8
      rw [show (m8 == m2) = true by rw [h8, h2]; simp]
      rintro m9 h9
      rw [show (m9 == m3) = true by rw [h9, h3]; simp, show (m4 == 1) = true by rw [e4]; rfl, show (m5 == m1) = true by rw [e5]; simp]
      rintro m10 h10
      exact ⟨⟨by rw [h10, h6]; simp, trivial⟩, rfl, trivial⟩
  · rw [show decide (m1 ≥ 0) = false from decide_eq_false g1]
    by_cases g2 : 0 ≤ m2
    · rw [show decide (m2 ≥ 0) = true from decide_eq_true g2]
      rintro m4 h4 m5 h5
      have e4 : m4 = 2 := by rw [h4]; unfold checkK; rw [← h1, ← h2, ← h3]; rw [show (m1 != -1) = false by rw [show m1 = -1 by omega]; rfl, show (m2 != -1) = true by rw [bne_iff_ne]; omega]; rfl
      have e5 : m5 = m2 := by rw [h5]; unfold checkAt; rw [← h1, ← h2, ← h3]; rw [show (m1 != -1) = false by rw [show m1 = -1 by omega]; rfl, show (m2 != -1) = true by rw [bne_iff_ne]; omega]; rfl
      refine ⟨⟨0, Nat.zero_le _, ⟨trivial, trivial, rfl, rfl, rfl, rfl, rfl, rfl, rfl, rfl, rfl, trivial⟩, rfl, ⟨rfl, rfl, rfl, rfl, rfl, trivial⟩, trivial⟩, ?_⟩
      intro x hx
      have hx : x ≤ L.length := hx
      by_cases h : x < L.length
      · rw [dec_lt h, inb_nat h, show (auditTimely (at' noteE.zero L (x : Int)) != ref20Timely (at' noteE.zero L (x : Int))) = false by rw [timely_eq]; simp]
        exact ⟨x + 1, h, by omega, ⟨trivial, trivial, rfl, rfl, rfl, rfl, rfl, rfl, rfl, rfl, (wrap_succ h hp).symm, trivial⟩, rfl, ⟨rfl, rfl, rfl, rfl, rfl, trivial⟩, trivial⟩
      · rw [dec_ge (by omega)]
        rintro m6 h6 m7 h7
        rw [show (m7 == m1) = true by rw [h7, h1]; simp]
        rintro m8 h8
        rw [show (m8 == m2) = true by rw [h8, h2]; simp]
        rintro m9 h9
        rw [show (m9 == m3) = true by rw [h9, h3]; simp, show (m4 == 2) = true by rw [e4]; rfl, show (m5 == m2) = true by rw [e5]; simp]
        rintro m10 h10
        exact ⟨⟨by rw [h10, h6]; simp, trivial⟩, rfl, trivial⟩
    · rw [show decide (m2 ≥ 0) = false from decide_eq_false g2]
      by_cases g3 : 0 ≤ m3
      · rw [show decide (m3 ≥ 0) = true from decide_eq_true g3]
        rintro m4 h4 m5 h5
        have e4 : m4 = 3 := by rw [h4]; unfold checkK; rw [← h1, ← h2, ← h3]; rw [show (m1 != -1) = false by rw [show m1 = -1 by omega]; rfl, show (m2 != -1) = false by rw [show m2 = -1 by omega]; rfl, show (m3 != -1) = true by rw [bne_iff_ne]; omega]; rfl
        have e5 : m5 = m3 := by rw [h5]; unfold checkAt; rw [← h1, ← h2, ← h3]; rw [show (m1 != -1) = false by rw [show m1 = -1 by omega]; rfl, show (m2 != -1) = false by rw [show m2 = -1 by omega]; rfl]; rfl
        refine ⟨⟨0, Nat.zero_le _, ⟨trivial, trivial, rfl, rfl, rfl, rfl, rfl, rfl, rfl, rfl, rfl, trivial⟩, rfl, ⟨rfl, rfl, rfl, rfl, rfl, trivial⟩, trivial⟩, ?_⟩
        intro x hx
        have hx : x ≤ L.length := hx
        by_cases h : x < L.length
        · rw [dec_lt h, inb_nat h, show (auditTimely (at' noteE.zero L (x : Int)) != ref20Timely (at' noteE.zero L (x : Int))) = false by rw [timely_eq]; simp]
          exact ⟨x + 1, h, by omega, ⟨trivial, trivial, rfl, rfl, rfl, rfl, rfl, rfl, rfl, rfl, (wrap_succ h hp).symm, trivial⟩, rfl, ⟨rfl, rfl, rfl, rfl, rfl, trivial⟩, trivial⟩
        · rw [dec_ge (by omega)]
          rintro m6 h6 m7 h7
          rw [show (m7 == m1) = true by rw [h7, h1]; simp]
          rintro m8 h8
          rw [show (m8 == m2) = true by rw [h8, h2]; simp]
          rintro m9 h9
          rw [show (m9 == m3) = true by rw [h9, h3]; simp, show (m4 == 3) = true by rw [e4]; rfl, show (m5 == m3) = true by rw [e5]; simp]
          rintro m10 h10
          exact ⟨⟨by rw [h10, h6]; simp, trivial⟩, rfl, trivial⟩
      · rw [show decide (m3 ≥ 0) = false from decide_eq_false g3]
        rintro m4 h4 m5 h5
        have e4 : m4 = 0 := by rw [h4]; unfold checkK; rw [← h1, ← h2, ← h3]; rw [show (m1 != -1) = false by rw [show m1 = -1 by omega]; rfl, show (m2 != -1) = false by rw [show m2 = -1 by omega]; rfl, show (m3 != -1) = false by rw [show m3 = -1 by omega]; rfl]; rfl
        have e5 : m5 = -1 := by rw [h5]; unfold checkAt; rw [← h1, ← h2, ← h3]; rw [show (m1 != -1) = false by rw [show m1 = -1 by omega]; rfl, show (m2 != -1) = false by rw [show m2 = -1 by omega]; rfl]; show m3 = -1; omega
        refine ⟨⟨0, Nat.zero_le _, ⟨trivial, trivial, rfl, rfl, rfl, rfl, rfl, rfl, rfl, rfl, rfl, trivial⟩, rfl, ⟨rfl, rfl, rfl, rfl, rfl, trivial⟩, trivial⟩, ?_⟩
        intro x hx
        have hx : x ≤ L.length := hx
        by_cases h : x < L.length
        · rw [dec_lt h, inb_nat h, show (auditTimely (at' noteE.zero L (x : Int)) != ref20Timely (at' noteE.zero L (x : Int))) = false by rw [timely_eq]; simp]
          exact ⟨x + 1, h, by omega, ⟨trivial, trivial, rfl, rfl, rfl, rfl, rfl, rfl, rfl, rfl, (wrap_succ h hp).symm, trivial⟩, rfl, ⟨rfl, rfl, rfl, rfl, rfl, trivial⟩, trivial⟩
        · rw [dec_ge (by omega)]
          rintro m6 h6 m7 h7
          rw [show (m7 == m1) = true by rw [h7, h1]; simp]
          rintro m8 h8
          rw [show (m8 == m2) = true by rw [h8, h2]; simp]
          rintro m9 h9
          rw [show (m9 == m3) = true by rw [h9, h3]; simp, show (m4 == 0) = true by rw [e4]; rfl, show (m5 == -1) = true by rw [e5]; simp]
          rintro m10 h10
          exact ⟨⟨by rw [h10, h6]; simp, trivial⟩, rfl, trivial⟩
noncomputable def law20TellsCon : Con T O := fun args cs => match args, cs with
  | [.own 0, .agg [.raw (.int .i64 _), .raw (.int .i64 _), .raw (.int .i64 _), .raw (.int .i64 _), .raw (.int .i64 _)]], [.ro 2 L] => chk (decide (L.length ≤ 140737488355328)) (.ret ⟨some (.raw (.bool true)), []⟩)
  | _, _ => .fail
theorem law20TellsOk : ConOk R Try.prog 14 law20TellsCon := con_of_fn R ({ X9 with gen := true }) (TabOk.con R X9Ok) mixed Try.call14 Try.func14 law20TellsCon (by
  intro args cs K h
  unfold law20TellsCon at h
  split at h
  · rename_i m id since lo hi L
    rw [Tree.holds_chk] at h
    obtain ⟨hp, h⟩ := h
    refine ⟨oneLoop 18 { σ := Nat, st := fun S x => (S.keep [0, 3, 5, 6, 7, 8, 9, 10, 11, 12]).int 13 x, inv := fun _ x => x ≤ L.length, m := fun x => L.length - x }, _, fun v S hv => ⟨_, h, hv⟩, ?_⟩
    rw [law20TellsVc L m id since lo hi]
    exact law20TellsHolds L m id since lo hi (of_decide_eq_true hp)
  · exact h.elim)
noncomputable def tab10 : Tab T O := (14, law20TellsCon) :: tab9
theorem tabOk10 : TabOk R Try.prog tab10 := TabOk.cons R law20TellsOk <| tabOk9
noncomputable def X10 : Ctx T O := { X0 with con := conOf tab10 }
theorem X10Ok : TabOk R X10.P tab10 := tabOk10
end Go.Proofs.Ytkcnocigkblbiaa
