/-
  Part of a proof over the seat Ytmnnjclnldaejaa: printed by a small program or typed by hand.
-/
import Derived.Test.YtmnnjclnldaejaaSxKit
/-
  Sx: numbers by their digits, the lowest first, to any base. No program in sight.
-/
namespace Go.Sx

/-- the digits of a number; none of 0 -/
def digs (β : Nat) : Nat → Nat → List Int
  | 0, _ => []
  | f + 1, n => bif n == 0 then [] else ((n % β : Nat) : Int) :: digs β f (n / β)
def limB (β n : Nat) : List Int := digs β n n
def nvB (β : Nat) : List Int → Nat
  | [] => 0
  | x :: l => x.toNat + β * nvB β l
def OkB (β : Nat) (L : List Int) : Prop := ∀ x ∈ L, 0 ≤ x ∧ x < (β : Int)
/-- the k-th digit -/
def dig (β k n : Nat) : Nat := n / β ^ k % β
/-- so many digits -/
def digN (β len n : Nat) : List Int := (List.range len).map fun k => ((dig β k n : Nat) : Int)

theorem digs_fuel (β : Nat) (hβ : 1 < β) : ∀ (f g n : Nat), n ≤ f → n ≤ g → digs β f n = digs β g n
  | 0, 0, _, _, _ => rfl
  | 0, g + 1, n, h, _ => by
    have : n = 0 := by omega
    subst this
    rfl
  | f + 1, 0, n, _, h => by
    have : n = 0 := by omega
    subst this
    rfl
  | f + 1, g + 1, n, h1, h2 => by
    simp only [digs]
    cases hn : n == 0
    · have hn : n ≠ 0 := beq_eq_false_iff_ne.1 hn
      have : n / β < n := Nat.div_lt_self (by omega) hβ
      rw [digs_fuel β hβ f g (n / β) (by omega) (by omega)]
    · rfl
theorem limB_zero (β : Nat) : limB β 0 = [] := rfl
theorem limB_pos {β n : Nat} (hβ : 1 < β) (h : 0 < n) : limB β n = ((n % β : Nat) : Int) :: limB β (n / β) := by
  obtain ⟨m, rfl⟩ : ∃ m, n = m + 1 := ⟨n - 1, by omega⟩
  have hlt : (m + 1) / β < m + 1 := Nat.div_lt_self (by omega) hβ
  unfold limB
  rw [digs, show ((m + 1) == 0) = false from rfl, cond_false, digs_fuel β hβ m ((m + 1) / β) _ (by omega) (by omega)]
theorem nvB_limB {β : Nat} (hβ : 1 < β) : ∀ n, nvB β (limB β n) = n := by
  intro n
  induction n using Nat.strongRecOn with
  | ind n ih =>
    rcases Nat.eq_zero_or_pos n with h | h
    · subst h; rfl
    · have hlt : n / β < n := Nat.div_lt_self h hβ
      rw [limB_pos hβ h, nvB, ih _ hlt, Int.toNat_natCast]
      exact Nat.mod_add_div n β
theorem limB_ok {β : Nat} (hβ : 1 < β) : ∀ n, OkB β (limB β n) := by
  intro n
  induction n using Nat.strongRecOn with
  | ind n ih =>
    rcases Nat.eq_zero_or_pos n with h | h
    · subst h; intro x hx; cases hx
    · have hlt : n / β < n := Nat.div_lt_self h hβ
      rw [limB_pos hβ h]
      intro x hx
      rcases List.mem_cons.1 hx with rfl | hx
      · have := Nat.mod_lt n (show 0 < β by omega)
        omega
      · exact ih _ hlt x hx
theorem OkB.tail {β : Nat} {x : Int} {L : List Int} (h : OkB β (x :: L)) : OkB β L := fun y hy => h y (List.mem_cons_of_mem _ hy)
theorem nvB_lt {β : Nat} (hβ : 1 < β) : ∀ {L : List Int}, OkB β L → nvB β L < β ^ L.length
  | [], _ => by simp [nvB]
  | x :: l, h => by
    have ih := nvB_lt hβ h.tail
    have hx := h x (List.mem_cons_self ..)
    simp only [nvB, List.length_cons, Nat.pow_succ]
    have hx' : x.toNat < β := by omega
    have : β * (nvB β l + 1) ≤ β * β ^ l.length := Nat.mul_le_mul_left β ih
    rw [Nat.mul_add, Nat.mul_one] at this
    rw [Nat.mul_comm (β ^ l.length)]
    omega
theorem nvB_take_drop {β : Nat} : ∀ (k : Nat) (L : List Int), nvB β L = nvB β (L.take k) + β ^ k * nvB β (L.drop k)
  | 0, L => by simp [nvB]
  | k + 1, [] => by simp [nvB]
  | k + 1, x :: l => by
    simp only [List.take_succ_cons, List.drop_succ_cons, nvB]
    rw [nvB_take_drop k l, Nat.mul_add, Nat.pow_succ, Nat.mul_comm (β ^ k) β, Nat.mul_assoc]
    omega
theorem nvB_snoc {β : Nat} (L : List Int) (x : Int) : nvB β (L ++ [x]) = nvB β L + β ^ L.length * x.toNat := by
  rw [nvB_take_drop L.length (L ++ [x]), List.take_left, List.drop_left]
  simp [nvB]
theorem OkB.take {β : Nat} {L : List Int} (h : OkB β L) (k : Nat) : OkB β (L.take k) := fun x hx => h x (List.mem_of_mem_take hx)
theorem OkB.drop {β : Nat} {L : List Int} (h : OkB β L) (k : Nat) : OkB β (L.drop k) := fun x hx => h x (List.mem_of_mem_drop hx)
theorem dig_lt {β k n : Nat} (hβ : 0 < β) : dig β k n < β := Nat.mod_lt _ hβ
theorem digN_length (β len n : Nat) : (digN β len n).length = len := by simp [digN]
theorem digN_ok {β len n : Nat} (hβ : 0 < β) : OkB β (digN β len n) := by
  intro x hx
  simp only [digN, List.mem_map, List.mem_range] at hx
  obtain ⟨k, _, rfl⟩ := hx
  have := dig_lt (k := k) (n := n) hβ
  omega
theorem digN_succ (β len n : Nat) : digN β (len + 1) n = digN β len n ++ [((dig β len n : Nat) : Int)] := by
  simp [digN, List.range_succ]
theorem nvB_digN {β : Nat} (hβ : 0 < β) (n : Nat) : ∀ len, nvB β (digN β len n) = n % β ^ len
  | 0 => by simp [digN, nvB, Nat.mod_one]
  | len + 1 => by
    rw [digN_succ, nvB_snoc, digN_length, nvB_digN hβ n len, Int.toNat_natCast, dig, Nat.pow_succ, Nat.mod_mul]
theorem nvB_inj {β : Nat} (hβ : 1 < β) : ∀ {A B : List Int}, OkB β A → OkB β B → A.length = B.length → nvB β A = nvB β B → A = B
  | [], [], _, _, _, _ => rfl
  | x :: A, y :: B, ha, hb, hl, h => by
    have hx := ha x (List.mem_cons_self ..)
    have hy := hb y (List.mem_cons_self ..)
    simp only [nvB] at h
    have h1 : x.toNat = y.toNat := by
      have a1 : (x.toNat + β * nvB β A) % β = x.toNat := by rw [Nat.add_mul_mod_self_left]; exact Nat.mod_eq_of_lt (by omega)
      have a2 : (y.toNat + β * nvB β B) % β = y.toNat := by rw [Nat.add_mul_mod_self_left]; exact Nat.mod_eq_of_lt (by omega)
      rw [← a1, ← a2, h]
    have h2 : nvB β A = nvB β B := by
      have : β * nvB β A = β * nvB β B := by omega
      exact Nat.eq_of_mul_eq_mul_left (by omega) this
    rw [nvB_inj hβ ha.tail hb.tail (by simpa using hl) h2, show x = y by omega]
/-- a row of digits is the number's digits -/
theorem digN_nvB {β : Nat} (hβ : 1 < β) {L : List Int} (h : OkB β L) : digN β L.length (nvB β L) = L := by
  refine nvB_inj hβ (digN_ok (by omega)) h (digN_length _ _ _) ?_
  rw [nvB_digN (by omega), Nat.mod_eq_of_lt (nvB_lt hβ h)]
/-- without the noughts at the end -/
def cutTo (L : List Int) : Nat → Nat
  | 0 => 0
  | n + 1 => bif at' 0 L (n : Int) == 0 then cutTo L n else n + 1
def cutD (L : List Int) : List Int := L.take (cutTo L L.length)
theorem cutTo_le (L : List Int) : ∀ n, cutTo L n ≤ n
  | 0 => Nat.le_refl _
  | n + 1 => by
    simp only [cutTo]
    have := cutTo_le L n
    cases at' 0 L (n : Int) == 0
    · rw [cond_false]; omega
    · rw [cond_true]; omega
theorem cutTo_zero {β : Nat} (L : List Int) : ∀ n, n ≤ L.length → nvB β (L.take n) = nvB β (L.take (cutTo L n))
  | 0, _ => rfl
  | n + 1, h => by
    simp only [cutTo]
    have hn : n < L.length := by omega
    cases e : at' 0 L (n : Int) == 0
    · rfl
    · rw [cond_true, ← cutTo_zero L n (by omega), take_at hn, nvB_snoc]
      have e := beq_iff_eq.1 e
      rw [at_nat hn] at e
      rw [e]
      simp
theorem cutTo_last (L : List Int) : ∀ n, cutTo L n = 0 ∨ ∃ k, cutTo L n = k + 1 ∧ k < n ∧ at' 0 L (k : Int) ≠ 0
  | 0 => .inl rfl
  | n + 1 => by
    simp only [cutTo]
    cases e : at' 0 L (n : Int) == 0
    · exact .inr ⟨n, rfl, by omega, beq_eq_false_iff_ne.1 e⟩
    · rw [cond_true]
      rcases cutTo_last L n with h | ⟨k, h1, h2, h3⟩
      · exact .inl h
      · exact .inr ⟨k, h1, by omega, h3⟩
/-- a number's digits are those that end with no nought -/
theorem limB_last {β : Nat} (hβ : 1 < β) : ∀ n, 0 < n → ∃ A x, limB β n = A ++ [x] ∧ x ≠ 0 := by
  intro n
  induction n using Nat.strongRecOn with
  | ind n ih =>
    intro h
    have hlt : n / β < n := Nat.div_lt_self h hβ
    rw [limB_pos hβ h]
    rcases Nat.eq_zero_or_pos (n / β) with h0 | h0
    · refine ⟨[], ((n % β : Nat) : Int), by rw [h0]; rfl, ?_⟩
      have hnb : n < β := (Nat.div_eq_zero_iff_lt (by omega)).1 h0
      rw [Nat.mod_eq_of_lt hnb]
      omega
    · obtain ⟨A, x, e, hx⟩ := ih _ hlt h0
      exact ⟨_ :: A, x, by rw [e]; rfl, hx⟩
theorem limB_nvB {β : Nat} (hβ : 1 < β) : ∀ {L : List Int}, OkB β L → (L = [] ∨ ∃ A x, L = A ++ [x] ∧ x ≠ 0) → limB β (nvB β L) = L
  | [], _, _ => rfl
  | y :: l, h, hl => by
    have hy := h y (List.mem_cons_self ..)
    have hl' : l = [] ∨ ∃ A x, l = A ++ [x] ∧ x ≠ 0 := by
      rcases hl with hl | ⟨A, x, e, hx⟩
      · cases hl
      · cases A with
        | nil =>
          simp only [List.nil_append, List.cons.injEq] at e
          exact .inl e.2
        | cons z A =>
          simp only [List.cons_append, List.cons.injEq] at e
          exact .inr ⟨A, x, e.2, hx⟩
    have ih := limB_nvB hβ h.tail hl'
    have hpos : 0 < nvB β (y :: l) := by
      simp only [nvB]
      rcases hl' with rfl | ⟨A, x, rfl, hx⟩
      · rcases hl with hl | ⟨A, x, e, hx⟩
        · cases hl
        · cases A with
          | nil =>
            simp only [List.nil_append, List.cons.injEq, and_true] at e
            subst e
            omega
          | cons z A => simp at e
      · rcases Nat.eq_zero_or_pos (nvB β (A ++ [x])) with h0 | h0
        · rw [h0, limB_zero] at ih
          exact absurd ih.symm (by simp)
        · have := Nat.mul_pos (show 0 < β by omega) h0
          omega
    rw [limB_pos hβ hpos]
    have e1 : nvB β (y :: l) % β = y.toNat := by
      simp only [nvB]
      rw [Nat.add_mul_mod_self_left]
      exact Nat.mod_eq_of_lt (by omega)
    have e2 : nvB β (y :: l) / β = nvB β l := by
      simp only [nvB]
      rw [Nat.add_mul_div_left _ _ (by omega), Nat.div_eq_of_lt (by omega)]
      omega
    rw [e1, e2, ih]
    congr 1
    omega
theorem cutD_ok {β : Nat} {L : List Int} (h : OkB β L) : OkB β (cutD L) := h.take _
theorem cutD_val {β : Nat} (L : List Int) : nvB β (cutD L) = nvB β L := by
  have := cutTo_zero (β := β) L L.length (Nat.le_refl _)
  rw [List.take_length] at this
  exact this.symm
theorem cutD_lim {β : Nat} (hβ : 1 < β) {L : List Int} (h : OkB β L) : cutD L = limB β (nvB β L) := by
  rw [← cutD_val (β := β) L, limB_nvB hβ (cutD_ok h)]
  unfold cutD
  have hle := cutTo_le L L.length
  rcases cutTo_last L L.length with e | ⟨k, e, hk, hx⟩
  · rw [e]; exact .inl (List.take_zero ..)
  · refine .inr ⟨L.take k, L[k], ?_, ?_⟩
    · rw [e, take_at hk]
    · rw [at_nat hk] at hx; exact hx
theorem cutD_digN {β len n : Nat} (hβ : 1 < β) (h : n < β ^ len) : cutD (digN β len n) = limB β n := by
  rw [cutD_lim hβ (digN_ok (by omega)), nvB_digN (by omega), Nat.mod_eq_of_lt h]
theorem limB_lt {β n k : Nat} (hβ : 1 < β) (h : n < β ^ k) : (limB β n).length ≤ k := by
  rw [← cutD_digN hβ h]
  unfold cutD
  rw [List.length_take, digN_length]
  omega
/-- comparing from the top on -/
theorem nvB_lt_of {β : Nat} (hβ : 1 < β) {A B : List Int} (ha : OkB β A) {k : Nat} (hk : k < A.length) (hk2 : k < B.length) (hd : A.drop (k + 1) = B.drop (k + 1)) (hlt : A[k] < B[k]) (hb : OkB β B) : nvB β A < nvB β B := by
  have e : ∀ {L : List Int} (h : k < L.length), nvB β L = nvB β (L.take k) + β ^ k * (L[k].toNat + β * nvB β (L.drop (k + 1))) := by
    intro L h
    rw [nvB_take_drop k L, List.drop_eq_getElem_cons h]
    rfl
  rw [e hk, e hk2, hd]
  have h1 := nvB_lt hβ (ha.take k)
  rw [List.length_take, Nat.min_eq_left (by omega)] at h1
  have ha' := ha _ (List.getElem_mem hk)
  have hb' := hb _ (List.getElem_mem hk2)
  have h2 : A[k].toNat + 1 ≤ B[k].toNat := by omega
  have h3 : β ^ k * (A[k].toNat + β * nvB β (B.drop (k + 1)) + 1) ≤ β ^ k * (B[k].toNat + β * nvB β (B.drop (k + 1))) := Nat.mul_le_mul_left _ (by omega)
  rw [Nat.mul_add, Nat.mul_one] at h3
  omega
theorem nvB_len_lt {β : Nat} (hβ : 1 < β) {m n : Nat} (h : (limB β m).length < (limB β n).length) : m < n := by
  rcases Nat.lt_or_ge m n with h1 | h1
  · exact h1
  · exfalso
    have hn : 0 < n := by
      rcases Nat.eq_zero_or_pos n with h0 | h0
      · rw [h0, limB_zero] at h; simp at h
      · exact h0
    obtain ⟨A, x, e, hx⟩ := limB_last hβ n hn
    have hok := limB_ok hβ n
    have hv := nvB_limB hβ n
    rw [e, nvB_snoc] at hv
    have hx' := hok x (by rw [e]; simp)
    have : β ^ A.length * 1 ≤ β ^ A.length * x.toNat := Nat.mul_le_mul_left _ (by omega)
    have hm := nvB_lt hβ (limB_ok hβ m)
    rw [nvB_limB hβ] at hm
    have hl : (limB β n).length = A.length + 1 := by rw [e]; simp
    have : β ^ (limB β m).length ≤ β ^ A.length := Nat.pow_le_pow_right (by omega) (by omega)
    omega

/-! ### sums, products, differences, digit by digit -/
def gd (L : List Int) (k : Nat) : Nat := (at' 0 L (k : Int)).toNat
theorem gd_lt {L : List Int} {k : Nat} (h : k < L.length) : gd L k = L[k].toNat := by unfold gd; rw [at_nat h]
theorem gd_ge {L : List Int} {k : Nat} (h : L.length ≤ k) : gd L k = 0 := by
  unfold gd at'
  rw [List.getD_eq_getElem?_getD, List.getElem?_eq_none (by omega)]
  rfl
theorem gd_ok {β : Nat} (hβ : 0 < β) {L : List Int} (h : OkB β L) (k : Nat) : gd L k < β := by
  rcases Nat.lt_or_ge k L.length with hk | hk
  · rw [gd_lt hk]
    have := h _ (List.getElem_mem hk)
    omega
  · rw [gd_ge hk]; exact hβ
theorem nvB_take_succ {β : Nat} (L : List Int) (k : Nat) : nvB β (L.take (k + 1)) = nvB β (L.take k) + β ^ k * gd L k := by
  rcases Nat.lt_or_ge k L.length with hk | hk
  · rw [take_at hk, nvB_snoc, List.length_take, Nat.min_eq_left (by omega), gd_lt hk]
  · rw [gd_ge hk, List.take_of_length_le (by omega), List.take_of_length_le hk]
    simp
theorem nvB_drop_at {β : Nat} (L : List Int) (k : Nat) : nvB β (L.drop k) = gd L k + β * nvB β (L.drop (k + 1)) := by
  rcases Nat.lt_or_ge k L.length with hk | hk
  · rw [List.drop_eq_getElem_cons hk, gd_lt hk]; rfl
  · rw [gd_ge hk, List.drop_of_length_le hk, List.drop_of_length_le (by omega)]
    simp [nvB]
theorem nvB_at {β : Nat} (L : List Int) (k : Nat) : nvB β L = nvB β (L.take k) + β ^ k * (gd L k + β * nvB β (L.drop (k + 1))) := by
  rw [nvB_take_drop k L, nvB_drop_at]
theorem nvB_take_lt {β : Nat} (hβ : 1 < β) {L : List Int} (h : OkB β L) (k : Nat) : nvB β (L.take k) < β ^ k := by
  refine Nat.lt_of_lt_of_le (nvB_lt hβ (h.take k)) (Nat.pow_le_pow_right (by omega) ?_)
  rw [List.length_take]; omega
/-- a carry -/
theorem carry_step {β k : Nat} (hβ : 1 < β) (p0 p1 p2 q0 q1 q2 : Nat) :
    dig β k (p0 + β ^ k * (p1 + β * p2) + (q0 + β ^ k * (q1 + β * q2))) = (p1 + q1 + (p0 + q0) / β ^ k) % β ∧
    (p0 + β ^ k * p1 + (q0 + β ^ k * q1)) / β ^ (k + 1) = (p1 + q1 + (p0 + q0) / β ^ k) / β := by
  have hk : 0 < β ^ k := Nat.pow_pos (by omega)
  constructor
  · unfold dig
    rw [show p0 + β ^ k * (p1 + β * p2) + (q0 + β ^ k * (q1 + β * q2)) = p0 + q0 + β ^ k * (p1 + q1 + β * (p2 + q2)) by
      simp only [Nat.mul_add]; omega]
    rw [Nat.add_mul_div_left _ _ hk, ← Nat.add_assoc, Nat.add_mul_mod_self_left]
    congr 1
    omega
  · rw [show p0 + β ^ k * p1 + (q0 + β ^ k * q1) = p0 + q0 + β ^ k * (p1 + q1) by simp only [Nat.mul_add]; omega, Nat.pow_succ, ← Nat.div_div_eq_div_mul, Nat.add_mul_div_left _ _ hk]
    congr 1
    omega
/-- some digits, then noughts -/
def padN (β x len n : Nat) : List Int := digN β x n ++ List.replicate (len - x) 0
theorem padN_length {β x len n : Nat} (h : x ≤ len) : (padN β x len n).length = len := by
  unfold padN
  rw [List.length_append, digN_length, List.length_replicate]
  omega
theorem padN_zero (β len n : Nat) : padN β 0 len n = List.replicate len 0 := rfl
theorem padN_all (β len n : Nat) : padN β len len n = digN β len n := by
  unfold padN
  rw [Nat.sub_self]
  simp
theorem padN_set {β x len n : Nat} (h : x < len) : (padN β x len n).set x ((dig β x n : Nat) : Int) = padN β (x + 1) len n := by
  unfold padN
  rw [digN_succ, List.set_append_right _ _ (by rw [digN_length]; omega), digN_length, Nat.sub_self]
  obtain ⟨m, hm⟩ : ∃ m, len - x = m + 1 := ⟨len - x - 1, by omega⟩
  rw [hm, show len - (x + 1) = m by omega, List.replicate_succ, List.set_cons_zero]
  simp
/-- digits up to x are the one's, the others the other's -/
def mixN (β x len n m : Nat) : List Int := (List.range len).map fun k => ((if k < x then dig β k n else dig β k m : Nat) : Int)
theorem mixN_length (β x len n m : Nat) : (mixN β x len n m).length = len := by simp [mixN]
theorem mixN_set {β x len n m : Nat} (h : x < len) : (mixN β x len n m).set x ((dig β x n : Nat) : Int) = mixN β (x + 1) len n m := by
  apply List.ext_getElem
  · simp [mixN]
  · intro i h1 h2
    simp only [mixN, List.getElem_set, List.getElem_map, List.getElem_range]
    split
    · rename_i e
      subst e
      rw [if_pos (by omega)]
    · by_cases hi : i < x
      · rw [if_pos hi, if_pos (by omega)]
      · rw [if_neg hi, if_neg (by omega)]
theorem mixN_at {β x len n m : Nat} (h : x < len) (k : Nat) (hk : x ≤ k) (hl : k < len) : at' 0 (mixN β x len n m) (k : Int) = ((dig β k m : Nat) : Int) := by
  rw [at_nat (by rw [mixN_length]; exact hl)]
  simp only [mixN, List.getElem_map, List.getElem_range]
  rw [if_neg (by omega)]
theorem mixN_all {β x len n m : Nat} (h : len ≤ x) : mixN β x len n m = digN β len n := by
  unfold mixN digN
  refine List.map_congr_left fun k hk => ?_
  have := List.mem_range.1 hk
  rw [if_pos (by omega)]
theorem mixN_none {β x len n m : Nat} (h : ∀ k, k < x → dig β k n = dig β k m) : mixN β x len n m = digN β len m := by
  unfold mixN digN
  refine List.map_congr_left fun k hk => ?_
  split
  · rename_i hx
    rw [h k hx]
  · rfl
theorem dig_add {β k i v m : Nat} (hβ : 1 < β) (h : k < i) : dig β k (v + β ^ i * m) = dig β k v := by
  unfold dig
  obtain ⟨d, rfl⟩ : ∃ d, i = k + 1 + d := ⟨i - k - 1, by omega⟩
  rw [Nat.pow_add, Nat.pow_succ, Nat.mul_assoc, Nat.mul_assoc, Nat.add_mul_div_left _ _ (Nat.pow_pos (by omega)), Nat.add_mul_mod_self_left]
theorem dig_shift {β i k v : Nat} : dig β (i + k) v = dig β k (v / β ^ i) := by
  unfold dig
  rw [Nat.pow_add, Nat.div_div_eq_div_mul]
theorem digN_zero (β len : Nat) : digN β len 0 = List.replicate len 0 := by
  apply List.ext_getElem
  · rw [digN_length, List.length_replicate]
  · intro i h1 h2
    simp [digN, dig]
theorem digN_more {β x t d : Nat} (hβ : 1 < β) (ht : t < β ^ x) (hd : d < β) : digN β (x + 1) (t + β ^ x * d) = digN β x t ++ [(d : Int)] := by
  rw [digN_succ]
  congr 1
  · unfold digN
    refine List.map_congr_left fun k hk => ?_
    rw [dig_add hβ (List.mem_range.1 hk)]
  · unfold dig
    rw [Nat.add_mul_div_left _ _ (Nat.pow_pos (by omega)), Nat.div_eq_of_lt ht, Nat.zero_add, Nat.mod_eq_of_lt hd]
/-- a row of the product -/
def mulC (β i k v x : Nat) (B : List Int) : Nat := (v / β ^ i % β ^ k + x * nvB β (B.take k)) / β ^ k
theorem mulC_zero (β i v x : Nat) (B : List Int) : mulC β i 0 v x B = 0 := by simp [mulC, nvB, Nat.mod_one]
theorem mul_step {β i k v x : Nat} (hβ : 1 < β) (B : List Int) :
    dig β (i + k) (v + β ^ i * (x * nvB β B)) = (x * gd B k + dig β (i + k) v + mulC β i k v x B) % β ∧ mulC β i (k + 1) v x B = (x * gd B k + dig β (i + k) v + mulC β i k v x B) / β := by
  have hi : 0 < β ^ i := Nat.pow_pos (by omega)
  obtain ⟨h1, h2⟩ := carry_step (k := k) hβ (v / β ^ i % β ^ k) (dig β k (v / β ^ i)) (v / β ^ i / β ^ k / β) (x * nvB β (B.take k)) (x * gd B k) (x * nvB β (B.drop (k + 1)))
  have e1 : v / β ^ i % β ^ k + β ^ k * (dig β k (v / β ^ i) + β * (v / β ^ i / β ^ k / β)) = v / β ^ i := by
    unfold dig
    rw [Nat.mod_add_div, Nat.mod_add_div]
  have e2 : x * nvB β (B.take k) + β ^ k * (x * gd B k + β * (x * nvB β (B.drop (k + 1)))) = x * nvB β B := by
    conv => rhs; rw [nvB_at B k]
    simp only [Nat.mul_add]
    rw [show β ^ k * (x * gd B k) = x * (β ^ k * gd B k) by rw [Nat.mul_left_comm], show β ^ k * (β * (x * nvB β (B.drop (k + 1)))) = x * (β ^ k * (β * nvB β (B.drop (k + 1)))) by
      rw [Nat.mul_left_comm β x, Nat.mul_left_comm (β ^ k) x]]
  rw [e1, e2] at h1
  rw [dig_shift, dig_shift, Nat.add_mul_div_left _ _ hi, h1]
  have e3 : (v / β ^ i % β ^ k + β ^ k * dig β k (v / β ^ i)) = v / β ^ i % β ^ (k + 1) := by
    unfold dig
    rw [Nat.pow_succ, Nat.mod_mul]
  have e4 : x * nvB β (B.take k) + β ^ k * (x * gd B k) = x * nvB β (B.take (k + 1)) := by
    rw [nvB_take_succ, Nat.mul_add, Nat.mul_left_comm]
  rw [e3, e4] at h2
  unfold mulC
  rw [h2]
  refine ⟨?_, ?_⟩ <;> (congr 1; omega)
theorem mulC_lt {β i k v x : Nat} (hβ : 1 < β) {B : List Int} (hb : OkB β B) (hx : x < β) : mulC β i k v x B < β := by
  unfold mulC
  have hk : 0 < β ^ k := Nat.pow_pos (by omega)
  rw [Nat.div_lt_iff_lt_mul hk]
  have h1 := Nat.mod_lt (v / β ^ i) hk
  have h2 := nvB_take_lt hβ hb k
  have h3 : x * nvB β (B.take k) ≤ (β - 1) * nvB β (B.take k) := Nat.mul_le_mul_right _ (by omega)
  have h4 : (β - 1) * nvB β (B.take k) ≤ (β - 1) * (β ^ k - 1) := Nat.mul_le_mul_left _ (by omega)
  have h5 : (β - 1) * (β ^ k - 1) + (β - 1) + β ^ k = β * β ^ k := by
    obtain ⟨b, rfl⟩ : ∃ b, β = b + 1 := ⟨β - 1, by omega⟩
    obtain ⟨p, hp⟩ : ∃ p, (b + 1) ^ k = p + 1 := ⟨(b + 1) ^ k - 1, by omega⟩
    rw [hp]
    simp only [Nat.add_sub_cancel, Nat.add_mul, Nat.mul_add]
    omega
  omega

/-! ### differences -/
def bor (β : Nat) (A B : List Int) (x : Nat) : Nat := if nvB β (A.take x) < nvB β (B.take x) then 1 else 0
def subT (β : Nat) (A B : List Int) (x : Nat) : Nat := nvB β (A.take x) + β ^ x * bor β A B x - nvB β (B.take x)
theorem subT_eq {β : Nat} (hβ : 1 < β) {A B : List Int} (hb : OkB β B) (x : Nat) : subT β A B x + nvB β (B.take x) = nvB β (A.take x) + β ^ x * bor β A B x := by
  unfold subT bor
  have := nvB_take_lt hβ hb x
  split
  · rw [Nat.mul_one]; omega
  · rw [Nat.mul_zero]; omega
theorem subT_lt {β : Nat} (hβ : 1 < β) {A B : List Int} (ha : OkB β A) (hb : OkB β B) (x : Nat) : subT β A B x < β ^ x := by
  have h := subT_eq (A := A) hβ hb x
  have h1 := nvB_take_lt hβ ha x
  unfold bor at h
  split at h
  · rw [Nat.mul_one] at h; omega
  · rw [Nat.mul_zero] at h; omega
theorem bor_le (β : Nat) (A B : List Int) (x : Nat) : bor β A B x ≤ 1 := by unfold bor; split <;> omega
/-- the digit, and what is borrowed -/
theorem sub_step {β : Nat} (hβ : 1 < β) {A B : List Int} (ha : OkB β A) (hb : OkB β B) (x : Nat) :
    bor β A B (x + 1) = (if gd A x < gd B x + bor β A B x then 1 else 0) ∧ subT β A B (x + 1) = subT β A B x + β ^ x * (gd A x + β * bor β A B (x + 1) - gd B x - bor β A B x) ∧ gd A x + β * bor β A B (x + 1) - gd B x - bor β A B x < β ∧ gd B x + bor β A B x ≤ gd A x + β * bor β A B (x + 1) := by
  have p1 := nvB_take_lt hβ ha x
  have q1 := nvB_take_lt hβ hb x
  have ga := gd_ok (by omega) ha x
  have gb := gd_ok (by omega) hb x
  have e0 : bor β A B (x + 1) = (if gd A x < gd B x + bor β A B x then 1 else 0) := by
    unfold bor
    rw [nvB_take_succ, nvB_take_succ]
    by_cases h : nvB β (A.take x) < nvB β (B.take x)
    · rw [if_pos h]
      by_cases g : gd A x < gd B x + 1
      · rw [if_pos g, if_pos]
        have := Nat.mul_le_mul_left (β ^ x) (show gd A x ≤ gd B x by omega)
        omega
      · rw [if_neg g, if_neg]
        have := Nat.mul_le_mul_left (β ^ x) (show gd B x + 1 ≤ gd A x by omega)
        rw [Nat.mul_add, Nat.mul_one] at this
        omega
    · rw [if_neg h]
      by_cases g : gd A x < gd B x + 0
      · rw [if_pos g, if_pos]
        have := Nat.mul_le_mul_left (β ^ x) (show gd A x + 1 ≤ gd B x by omega)
        rw [Nat.mul_add, Nat.mul_one] at this
        omega
      · rw [if_neg g, if_neg]
        have := Nat.mul_le_mul_left (β ^ x) (show gd B x ≤ gd A x by omega)
        omega
  have hle : gd B x + bor β A B x ≤ gd A x + β * bor β A B (x + 1) := by
    rw [e0]
    have := bor_le β A B x
    split
    · rw [Nat.mul_one]; omega
    · rw [Nat.mul_zero]; omega
  refine ⟨e0, ?_, ?_, hle⟩
  · have h1 := subT_eq (A := A) hβ hb x
    have h2 := subT_eq (A := A) hβ hb (x + 1)
    rw [nvB_take_succ, nvB_take_succ] at h2
    obtain ⟨d, hd⟩ : ∃ d, gd A x + β * bor β A B (x + 1) = gd B x + bor β A B x + d := ⟨_, (Nat.add_sub_cancel' hle).symm⟩
    rw [show gd A x + β * bor β A B (x + 1) - gd B x - bor β A B x = d by omega]
    have h3 : β ^ x * gd A x + β ^ (x + 1) * bor β A B (x + 1) = β ^ x * gd B x + β ^ x * bor β A B x + β ^ x * d := by
      rw [Nat.pow_succ, Nat.mul_assoc, ← Nat.mul_add, hd, Nat.mul_add, Nat.mul_add]
    omega
  · rw [e0] at hle ⊢
    have := bor_le β A B x
    split
    · rename_i g; rw [Nat.mul_one]; omega
    · rw [Nat.mul_zero]; omega
theorem padN_push {β x len n d : Nat} (hβ : 1 < β) (h : x < len) (hn : n < β ^ x) (hd : d < β) : (padN β x len n).set x (d : Int) = padN β (x + 1) len (n + β ^ x * d) := by
  unfold padN
  rw [digN_more hβ hn hd, List.set_append_right _ _ (by rw [digN_length]; omega), digN_length, Nat.sub_self]
  obtain ⟨m, hm⟩ : ∃ m, len - x = m + 1 := ⟨len - x - 1, by omega⟩
  rw [hm, show len - (x + 1) = m by omega, List.replicate_succ, List.set_cons_zero]
  simp
end Go.Sx
