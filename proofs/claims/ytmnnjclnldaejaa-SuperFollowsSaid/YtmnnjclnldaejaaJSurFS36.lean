/-
  Part of a proof over the seat Ytmnnjclnldaejaa: printed by a small program or typed by hand.
-/
import Derived.Test.YtmnnjclnldaejaaJSurS33
import Derived.KernelRfl
namespace Go.Proofs.Ytmnnjclnldaejaa
open Go.Sx Go.Proofs Classical
theorem minG_mem : ∀ (l : List Int) (m : Int), minG m l = m ∨ minG m l ∈ l
  | [], _ => .inl rfl
  | a :: l, m => by
    rcases minG_mem l (min m a) with h | h
    · rcases Int.le_total m a with g | g
      · left; show minG (min m a) l = m; rw [h]; omega
      · right; show minG (min m a) l ∈ a :: l; rw [h, show min m a = a by omega]; exact List.mem_cons_self ..
    · right; exact List.mem_cons_of_mem _ h
theorem leastP_mem {L : List Part} (h : PartsOk L) : ∃ a ∈ L, leastP L = a.P := by
  have hl := h.1.1
  cases L with
  | nil => simp at hl
  | cons q l =>
    rcases minG_mem (l.map Part.P) q.P with e | e
    · exact ⟨q, List.mem_cons_self .., e⟩
    · obtain ⟨a, ha, hb⟩ := List.mem_map.1 e
      exact ⟨a, List.mem_cons_of_mem _ ha, hb.symm⟩
theorem use14_eq {M : List Part} (h : PartsOk M) : use14 M = plusSum (M.map asW) := by
  unfold use14
  rw [checkL_iff.2 h]
  rfl
theorem quota14 {M : List Part} (h : PartsOk M) : decide (cmpQ (use14 M) (1, 1) > 0) = quotaQ M := by
  obtain ⟨p, h1, h2⟩ := common M fun a ha => by have := h.2 a ha; omega
  obtain ⟨t, _, s1, s2⟩ := h.share2 h2
  unfold quotaQ
  rw [use14_eq h, cmp_shares h1 s1 isShare.whole, cmp_shares h1 s2 isShare.whole]
theorem weight_cases {M : List Part} (h : PartsOk M) : (weightR M).2 = 16 ∨ ((weightR M).2 = 18 ∧ quotaQ M = true) ∨
    ∃ p t : Nat, 0 < p ∧ p ≤ 1048576 ∧ isShare (use14 M) p t ∧ t ≤ p ∧ quotaQ M = false ∧ leastP M ∣ (p : Int) ∧ sumEP p M = t ∧ (∀ a ∈ M, a.P ∣ (p : Int)) ∧ weightR M = (⟨min ((t : Int) + p / leastP M) p, p⟩, 0) := by
  unfold weightR
  rw [checkL_iff.2 h, cond_true]
  cases hg : lcmG 1 (M.map Part.P) with
  | none => exact .inl rfl
  | some p =>
    dsimp only
    have hp := lcmG_pos _ _ _ (by decide) h.p hg
    obtain ⟨_, hd⟩ := lcmG_dvd _ _ _ (by decide) h.p hg
    by_cases hb : p > 1048576
    · rw [decide_eq_true hb]; exact .inl rfl
    · rw [decide_eq_false hb, cond_false]
      by_cases hq : quotaQ M = true
      · rw [hq]; exact .inr (.inl ⟨rfl, rfl⟩)
      · have hq : quotaQ M = false := by simpa using hq
        have hs := quota_same h hg
        rw [hq] at hs
        obtain ⟨n, rfl⟩ := Int.eq_ofNat_of_zero_le (show 0 ≤ p by omega)
        have hd2 : ∀ a ∈ M, a.P ∣ (n : Int) := fun a ha => hd _ (List.mem_map_of_mem ha)
        obtain ⟨t, e, _, s2⟩ := h.share2 hd2
        obtain ⟨a, ha, hl⟩ := leastP_mem h
        have hs := of_decide_eq_false hs.symm
        rw [e] at hs
        rw [hq, cond_false, e]
        exact .inr (.inr ⟨n, t, by omega, by omega, by rw [use14_eq h]; exact s2, by omega, rfl, by rw [hl]; exact hd2 a ha, e, hd2, rfl⟩)
theorem leastP_le {M : List Part} (h : PartsOk M) : 1 ≤ leastP M ∧ leastP M ≤ 1048576 := by
  obtain ⟨a, ha, e⟩ := leastP_mem h
  have := h.2 a ha
  rw [e]
  omega
theorem want_ok {M : List Part} (h : PartsOk M) : isR (lim (plusQ (use14 M) (1, (leastP M).toNat)).1) (lim (plusQ (use14 M) (1, (leastP M).toNat)).2) ∧ small (lim (plusQ (use14 M) (1, (leastP M).toNat)).1) ∧ small (lim (plusQ (use14 M) (1, (leastP M).toNat)).2) := by
  have e : plusQ (use14 M) (1, (leastP M).toNat) = plusSum (M.map asW ++ [⟨1, leastP M⟩]) := by
    rw [plusSum_snoc, use14_eq h]
    rfl
  have hl := leastP_le h
  rw [e]
  refine plusSum_ok (fun w hw => ?_) (by rw [List.length_append, List.length_map]; have := h.1.2; simp; omega)
  rcases List.mem_append.1 hw with hw | hw
  · exact h.w w hw
  · rw [List.mem_singleton.1 hw]
    exact ⟨Int.le_refl 1, hl.1, hl.2⟩
/-- the weight is as told -/
theorem weight_told {M : List Part} (h : PartsOk M) (h0 : (weightR M).2 = 0) :
    okP (weightR M).1.E (weightR M).1.P = true ∧ (1 ≤ (weightR M).1.E ∧ (weightR M).1.E ≤ (weightR M).1.P ∧ (weightR M).1.P ≤ 1048576) ∧
    (cmpQ (plusQ (use14 M) (1, (leastP M).toNat)) (1, 1) > 0 → cmpQ ((weightR M).1.E.toNat, (weightR M).1.P.toNat) (1, 1) = 0) ∧
    (¬ cmpQ (plusQ (use14 M) (1, (leastP M).toNat)) (1, 1) > 0 → cmpQ ((weightR M).1.E.toNat, (weightR M).1.P.toNat) (plusQ (use14 M) (1, (leastP M).toNat)) = 0) := by
  rcases weight_cases h with g | ⟨g, _⟩ | ⟨p, t, p0, p1, hs, htp, _, hd, _, _, e⟩
  · rw [h0] at g; cases g
  · rw [h0] at g; cases g
  obtain ⟨l1, l2⟩ := leastP_le h
  rw [e]
  dsimp only
  obtain ⟨m, hm⟩ := Int.eq_ofNat_of_zero_le (show 0 ≤ leastP M by omega)
  rw [hm] at hd l1 l2 ⊢
  have hd' : m ∣ p := Int.natCast_dvd_natCast.1 hd
  have hmp : m ≤ p := Nat.le_of_dvd p0 hd'
  have hq : 1 ≤ p / m := (Nat.le_div_iff_mul_le (by omega)).2 (by omega)
  have hw := hs.plus (e := 1) (c := m) (by omega) hd'
  rw [Nat.one_mul] at hw
  have hE : min ((t : Int) + (p : Int) / (m : Int)) (p : Int) = ((min (t + p / m) p : Nat) : Int) := by
    rw [← Int.natCast_ediv]
    omega
  rw [hE, Int.toNat_natCast, Int.toNat_natCast, Int.toNat_natCast]
  have hme : isShare (min (t + p / m) p, p) p (min (t + p / m) p) := ⟨p0, Nat.mul_comm ..⟩
  have b1 : 1 ≤ ((min (t + p / m) p : Nat) : Int) ∧ ((min (t + p / m) p : Nat) : Int) ≤ (p : Int) ∧ (p : Int) ≤ 1048576 := by omega
  refine ⟨okP_iff.2 b1, b1, ?_, ?_⟩
  · intro g
    rw [cmp_shares p0 hw isShare.whole] at g
    have g := cmpN_pos.1 g
    rw [cmp_shares p0 hme isShare.whole, show min (t + p / m) p = p by omega, cmpN_eq]
  · intro g
    rw [cmp_shares p0 hw isShare.whole] at g
    have g : ¬ p < t + p / m := fun k => g (cmpN_pos.2 k)
    rw [cmp_shares p0 hme hw, show min (t + p / m) p = t + p / m by omega, cmpN_eq]
/-! the earliest deadline goes first: what is left of what is due -/
def missedS (t : Int) : List Own → Int
  | [] => 0
  | q :: l => missedO t q + missedS t l
theorem missedG_eq (t : Int) : ∀ (M : List Own) (n : Int), missedG t n M = n + missedS t M
  | [], n => (Int.add_zero n).symm
  | q :: M, n => by
    show missedG t (n + missedO t q) M = n + (missedO t q + missedS t M)
    rw [missedG_eq t M]; omega
theorem missedS_set (t : Int) : ∀ (M : List Own) (k : Nat) (h : k < M.length) (x : Own), missedS t (M.set k x) + missedO t M[k] = missedS t M + missedO t x
  | q :: M, 0, _, x => by
    show missedO t x + missedS t M + missedO t q = missedO t q + missedS t M + missedO t x
    omega
  | q :: M, k + 1, h, x => by
    have hk : k < M.length := by simpa using h
    have ih := missedS_set t M k hk x
    show missedO t q + missedS t (M.set k x) + missedO t M[k] = missedO t q + missedS t M + missedO t x
    omega
/-- quanta of a part's jobs that are released from a slot on and due by another one -/
def demO (a t : Int) (p : Part) : Int := p.E * max 0 (t / p.P - (a + p.P - 1) / p.P)
def demS (a t : Int) : List Part → Int
  | [] => 0
  | p :: l => demO a t p + demS a t l
def partOf (q : Own) : Part := ⟨q.PartE, q.PartP⟩
theorem demO_nn {a t : Int} {p : Part} (h : 1 ≤ p.E) : 0 ≤ demO a t p := Int.mul_nonneg (by omega) (by omega)
theorem missedS_nn {b t : Int} {M : List Own} (ht : t ≤ 1099511627776) (hb : 0 ≤ b) : (∀ q ∈ M, ∃ i, PartOk b i q) → 0 ≤ missedS t M := by
  induction M with
  | nil => intro _; exact Int.le_refl _
  | cons q M ih =>
    intro h
    obtain ⟨i, hi⟩ := h q (List.mem_cons_self ..)
    have h1 := (missedO_ok hi hb ht).1
    have h2 := ih fun x hx => h x (List.mem_cons_of_mem _ hx)
    show 0 ≤ missedO t q + missedS t M
    omega
theorem RowOk.each {b : Int} {M : List Own} (h : RowOk b M) : ∀ q ∈ M, ∃ i, PartOk b i q := by
  intro q hq
  obtain ⟨i, hi, rfl⟩ := List.getElem_of_mem hq
  exact ⟨i, h.all i hi⟩
theorem missedO_zero {t : Int} {q : Own} (h : t < q.JobDeadline) : missedO t q = 0 := by
  unfold missedO
  rw [decide_eq_false (by omega)]; rfl
theorem missedO_pos {t : Int} {q : Own} (h : q.JobDeadline ≤ t) : missedO t q = q.JobLeft + (t - q.JobDeadline) / q.PartP * q.PartE := by
  unfold missedO
  rw [decide_eq_true h]; rfl
/-- a quantum of a job that is due -/
theorem missedO_after {b i t : Int} {q : Own} (h : PartOk b i q) (hd : q.JobDeadline ≤ t) : missedO t (afterO q) = missedO t q - 1 := by
  rw [missedO_pos hd]
  have e1 := h.e1
  have ep := h.ep
  unfold afterO
  by_cases c : q.JobLeft = 1
  · rw [show (q.JobLeft - 1 == 0) = true from by rw [c]; rfl, cond_true]
    by_cases g : q.JobDeadline + q.PartP ≤ t
    · rw [missedO_pos (show (nextO (decO q)).JobDeadline ≤ t from g)]
      show q.PartE + (t - (q.JobDeadline + q.PartP)) / q.PartP * q.PartE = _
      have e : (t - q.JobDeadline) / q.PartP = (t - (q.JobDeadline + q.PartP)) / q.PartP + 1 := by
        rw [show t - q.JobDeadline = t - (q.JobDeadline + q.PartP) + 1 * q.PartP by omega, Int.add_mul_ediv_right _ _ (by omega)]
      rw [e, Int.add_mul, Int.one_mul]
      omega
    · rw [missedO_zero (show t < (nextO (decO q)).JobDeadline from by show t < q.JobDeadline + q.PartP; omega)]
      rw [Int.ediv_eq_zero_of_lt (by omega) (by omega)]
      omega
  · rw [show (q.JobLeft - 1 == 0) = false from beq_eq_false_iff_ne.2 (by omega), cond_false, missedO_pos (show (decO q).JobDeadline ≤ t from hd)]
    show q.JobLeft - 1 + (t - q.JobDeadline) / q.PartP * q.PartE = _
    omega
theorem missedO_after0 {b i t : Int} {q : Own} (h : PartOk b i q) (hd : t < q.JobDeadline) : missedO t (afterO q) = 0 := by
  have e1 := h.e1
  have ep := h.ep
  refine missedO_zero ?_
  unfold afterO
  cases q.JobLeft - 1 == 0
  · exact hd
  · show t < q.JobDeadline + q.PartP
    omega
/-- what is not released yet -/
theorem missedO_dem {i s t : Int} {q : Own} (h : PartOk 0 i q) (hs : 0 ≤ s) (hr : s < q.JobRelease) : missedO t q ≤ demO (s + 1) t (partOf q) := by
  have e1 := h.e1
  have ep := h.ep
  have hrel := h.rel
  have hdead := h.dead
  by_cases c : q.JobDeadline ≤ t
  · rw [missedO_pos c]
    unfold demO partOf
    dsimp only
    have f1 : (s + 1 + q.PartP - 1) / q.PartP ≤ q.JobIndex := by
      have : (s + 1 + q.PartP - 1) / q.PartP < q.JobIndex + 1 := by
        refine (Int.ediv_lt_iff_lt_mul (by omega)).2 ?_
        rw [Int.add_mul, Int.one_mul]; omega
      omega
    have f2 : t / q.PartP = (t - q.JobDeadline) / q.PartP + (q.JobIndex + 1) := by
      rw [← Int.add_mul_ediv_right _ _ (show q.PartP ≠ 0 by omega)]
      congr 1
      rw [Int.add_mul, Int.one_mul]; omega
    have f3 : (t - q.JobDeadline) / q.PartP + 1 ≤ max 0 (t / q.PartP - (s + 1 + q.PartP - 1) / q.PartP) := by omega
    have f4 := Int.mul_le_mul_of_nonneg_left f3 (show 0 ≤ q.PartE by omega)
    have le := h.le
    rw [Int.mul_add, Int.mul_one, Int.mul_comm q.PartE] at f4
    omega
  · rw [missedO_zero (by omega)]
    exact demO_nn e1
theorem missedS_dem {s t : Int} (hs : 0 ≤ s) : ∀ M : List Own, (∀ q ∈ M, ∃ i, PartOk 0 i q) → (∀ q ∈ M, q.JobRelease ≤ s → t < q.JobDeadline) → missedS t M ≤ demS (s + 1) t (M.map partOf)
  | [], _, _ => Int.le_refl _
  | q :: M, h, hd => by
    have ih := missedS_dem hs M (fun x hx => h x (List.mem_cons_of_mem _ hx)) (fun x hx => hd x (List.mem_cons_of_mem _ hx))
    obtain ⟨i, hi⟩ := h q (List.mem_cons_self ..)
    have h1 : missedO t q ≤ demO (s + 1) t (partOf q) := by
      by_cases c : q.JobRelease ≤ s
      · rw [missedO_zero (hd q (List.mem_cons_self ..) c)]
        exact demO_nn hi.e1
      · exact missedO_dem hi hs (by omega)
    show missedO t q + missedS t M ≤ demO (s + 1) t (partOf q) + demS (s + 1) t (M.map partOf)
    omega
theorem partOf_after (q : Own) : partOf (afterO q) = partOf q := by
  unfold afterO
  cases q.JobLeft - 1 == 0 <;> rfl
theorem parts_grant (M : List Own) (last t : Int) : (grantM M last t).map partOf = M.map partOf := by
  unfold grantM
  cases slotOk last t
  · rfl
  · by_cases hb : bestM M t ≥ 0
    · rw [decide_eq_true hb, Bool.and_self, cond_true, List.map_set, partOf_after]
      obtain ⟨k, hk⟩ := Int.eq_ofNat_of_zero_le hb
      have hl := (bestG_lo M t M.length).2
      have eB : bestM M t = bestG M t M.length := rfl
      have hkl : k < M.length := by omega
      rw [hk, Int.toNat_natCast, at_nat hkl]
      have : partOf M[k] = (M.map partOf)[k]'(by rw [List.length_map]; exact hkl) := by rw [List.getElem_map]
      rw [this, List.set_getElem_self]
    · rw [decide_eq_false hb, Bool.and_false, cond_false]
/-- what is bound: all that is left and due by t, of what came behind some quantum -/
def Bd (Sl : Nat → Int → Prop) (M : List Own) (n : Nat) (t : Int) : Prop :=
  missedS t M = 0 ∨ ∃ (q : Nat) (a : Int), q ≤ n ∧ 0 ≤ a ∧ Sl q a ∧ missedS t M + ((n : Int) - q) ≤ demS a t (M.map partOf)
theorem Bd.grant {Sl : Nat → Int → Prop} {M : List Own} {n : Nat} {last s t : Int} (hR : RowOk 0 M) (hs : slotOk last s = true) (h0 : 0 ≤ s) (ht : t ≤ 1099511627776) (hn : Sl (n + 1) (s + 1)) (h : Bd Sl M n t) : Bd Sl (grantM M last s) (n + 1) t := by
  have hns := missedS_nn (t := t) ht (Int.le_refl 0) hR.each
  have hRg : RowOk 0 (grantM M last s) := hR.grant
  have caseB : (∀ q ∈ M, q.JobRelease ≤ s → t < q.JobDeadline) → missedS t (grantM M last s) = missedS t M → Bd Sl (grantM M last s) (n + 1) t := by
    intro h1 h2
    refine .inr ⟨n + 1, s + 1, Nat.le_refl _, by omega, hn, ?_⟩
    rw [h2, parts_grant]
    have := missedS_dem h0 M hR.each h1
    omega
  by_cases hb : 0 ≤ bestM M s
  · obtain ⟨k, hk, ho⟩ := best_some hR hb
    have hg := (grantM_some hs hk ho.lt).1
    have hset := missedS_set t M k ho.lt (afterO (M[k]'ho.lt))
    have hq := hR.all k ho.lt
    by_cases c : (M[k]'ho.lt).JobDeadline ≤ t
    · have ha := missedO_after hq c
      rcases h with h | ⟨q, a, h1, h2, h3, h4⟩
      · exfalso
        have hm := missedS_nn (t := t) ht (Int.le_refl 0) hRg.each
        rw [hg] at hm
        omega
      · refine .inr ⟨q, a, by omega, h2, h3, ?_⟩
        rw [parts_grant, hg]
        omega
    · have ha := missedO_after0 hq (show t < (M[k]'ho.lt).JobDeadline by omega)
      have hz := missedO_zero (show t < (M[k]'ho.lt).JobDeadline by omega)
      refine caseB ?_ (by rw [hg]; omega)
      intro q hqm hqr
      obtain ⟨i, hi, rfl⟩ := List.getElem_of_mem hqm
      rcases ho.min i hi hqr with e | e
      · subst e; omega
      · have := (ltJ_iff _ _).1 e
        simp only [ownJ] at this
        omega
  · have hg := (grantM_none (M := M) hs hb).1
    refine caseB ?_ (by rw [hg])
    intro q hqm hqr
    obtain ⟨i, hi, rfl⟩ := List.getElem_of_mem hqm
    have := best_none hR hb i hi
    omega
theorem startL_parts {L : List Part} (t : Int) : (startL t L L.length).map partOf = L := by
  apply List.ext_getElem
  · rw [List.length_map, startL_length]
  · intro i h1 h2
    simp only [startL, List.getElem_map, List.getElem_range, at_nat h2]
    rfl
theorem missedS_start : ∀ (l : List Own) (t : Int), 0 ≤ t → (∀ q ∈ l, ∃ (i : Int) (p : Part), 1 ≤ p.E ∧ p.E ≤ p.P ∧ q = startO 0 i p) → missedS t l = demS 0 t (l.map partOf)
  | [], _, _, _ => rfl
  | q :: l, t, ht, h => by
    have ih := missedS_start l t ht fun x hx => h x (List.mem_cons_of_mem _ hx)
    obtain ⟨i, p, p1, p2, rfl⟩ := h q (List.mem_cons_self ..)
    show missedO t (startO 0 i p) + missedS t l = demO 0 t ⟨p.E, p.P⟩ + demS 0 t (l.map partOf)
    have e : missedO t (startO 0 i p) = demO 0 t ⟨p.E, p.P⟩ := by
      unfold demO
      dsimp only
      rw [Int.ediv_eq_zero_of_lt (show 0 ≤ 0 + p.P - 1 by omega) (by omega), Int.sub_zero]
      have q0 : 0 ≤ t / p.P := Int.ediv_nonneg ht (by omega)
      rw [show max 0 (t / p.P) = t / p.P by omega]
      by_cases c : p.P ≤ t
      · rw [missedO_pos (show (startO 0 i p).JobDeadline ≤ t by show 0 + p.P ≤ t; omega)]
        show p.E + (t - (0 + p.P)) / p.P * p.E = _
        have e : t / p.P = (t - (0 + p.P)) / p.P + 1 := by
          rw [← Int.add_mul_ediv_right _ _ (show p.P ≠ 0 by omega)]
          congr 1; omega
        rw [e, Int.mul_add, Int.mul_one, Int.mul_comm p.E]
        omega
      · rw [missedO_zero (show t < (startO 0 i p).JobDeadline by show t < 0 + p.P; omega), Int.ediv_eq_zero_of_lt ht (by omega), Int.mul_zero]
    rw [e, ih]
theorem Bd.start {Sl : Nat → Int → Prop} {L : List Part} (hP : PartsOk L) {t : Int} (ht : 0 ≤ t) (h0 : Sl 0 0) : Bd Sl (startL 0 L L.length) 0 t := by
  refine .inr ⟨0, 0, Nat.le_refl _, Int.le_refl _, h0, ?_⟩
  rw [missedS_start _ t ht ?_]
  · omega
  · intro q hq
    unfold startL at hq
    obtain ⟨i, hi, rfl⟩ := List.mem_map.1 hq
    have hi := List.mem_range.1 hi
    obtain ⟨o1, o2, _⟩ := hP.2 _ (List.getElem_mem hi)
    exact ⟨i, L[i], o1, o2, by rw [at_nat hi]⟩
/-- the demand, by shares of a common period -/
theorem demO_le {a t : Int} {p : Part} (h1 : 1 ≤ p.E) (h2 : p.E ≤ p.P) {A : Int} (hA : 0 ≤ A) (hd : p.P ∣ A) (hat : a ≤ t) : demO a t p * A ≤ p.E * (A / p.P) * (t - a) := by
  obtain ⟨c, rfl⟩ := hd
  have hc : 0 ≤ c := by
    rcases Int.lt_or_le c 0 with g | g
    · have := Int.mul_neg_of_pos_of_neg (show 0 < p.P by omega) g
      omega
    · exact g
  rw [Int.mul_ediv_cancel_left _ (show p.P ≠ 0 by omega)]
  unfold demO
  have key : max 0 (t / p.P - (a + p.P - 1) / p.P) * p.P ≤ t - a := by
    by_cases g : t / p.P - (a + p.P - 1) / p.P ≤ 0
    · rw [show max 0 (t / p.P - (a + p.P - 1) / p.P) = 0 by omega, Int.zero_mul]; omega
    · rw [show max 0 (t / p.P - (a + p.P - 1) / p.P) = t / p.P - (a + p.P - 1) / p.P by omega, Int.sub_mul]
      have k1 := Int.ediv_mul_le t (show p.P ≠ 0 by omega)
      have k2 := Int.lt_ediv_add_one_mul_self (a + p.P - 1) (show 0 < p.P by omega)
      rw [Int.add_mul, Int.one_mul] at k2
      omega
  generalize max 0 (t / p.P - (a + p.P - 1) / p.P) = m at key ⊢
  have k3 := Int.mul_le_mul_of_nonneg_left key (show 0 ≤ p.E * c from Int.mul_nonneg (by omega) hc)
  rw [show p.E * m * (p.P * c) = p.E * c * (m * p.P) by
    rw [Int.mul_assoc, Int.mul_assoc, Int.mul_left_comm m, ← Int.mul_assoc p.P, Int.mul_comm p.P m, Int.mul_comm (m * p.P) c]] 
  exact k3
theorem demO_pos {a t : Int} {p : Part} (h1 : 1 ≤ p.E) (h2 : p.E ≤ p.P) (h : demO a t p ≠ 0) : a + p.P ≤ t := by
  unfold demO at h
  by_cases g : t / p.P - (a + p.P - 1) / p.P ≤ 0
  · rw [show max 0 (t / p.P - (a + p.P - 1) / p.P) = 0 by omega, Int.mul_zero] at h
    exact absurd rfl h
  · have k1 := Int.ediv_mul_le t (show p.P ≠ 0 by omega)
    have k2 := Int.lt_ediv_add_one_mul_self (a + p.P - 1) (show 0 < p.P by omega)
    have k3 : ((a + p.P - 1) / p.P + 1) * p.P ≤ t / p.P * p.P := Int.mul_le_mul_of_nonneg_right (by omega) (by omega)
    omega
theorem demS_le {a t A : Int} (hA : 0 ≤ A) (hat : a ≤ t) : ∀ L : List Part, (∀ p ∈ L, 1 ≤ p.E ∧ p.E ≤ p.P ∧ p.P ∣ A) → demS a t L * A ≤ sumEP A L * (t - a)
  | [], _ => by
    show 0 * A ≤ 0 * (t - a)
    rw [Int.zero_mul, Int.zero_mul]; exact Int.le_refl _
  | p :: L, h => by
    obtain ⟨h1, h2, h3⟩ := h p (List.mem_cons_self ..)
    have ih := demS_le hA hat L fun x hx => h x (List.mem_cons_of_mem _ hx)
    have hp := demO_le h1 h2 hA h3 hat
    have e : sumEP A (p :: L) = p.E * (A / p.P) + sumEP A L := by
      unfold sumEP
      show sumG A (0 + p.E * (A / p.P)) L = _
      rw [sumG_add]; omega
    show (demO a t p + demS a t L) * A ≤ _
    rw [e, Int.add_mul, Int.add_mul]
    omega
theorem demS_pos {a t : Int} : ∀ L : List Part, (∀ p ∈ L, 1 ≤ p.E ∧ p.E ≤ p.P) → demS a t L ≠ 0 → ∃ p ∈ L, a + p.P ≤ t
  | [], _, h => absurd rfl h
  | p :: L, h, hne => by
    obtain ⟨h1, h2⟩ := h p (List.mem_cons_self ..)
    by_cases c : demO a t p = 0
    · obtain ⟨x, hx, hl⟩ := demS_pos L (fun x hx => h x (List.mem_cons_of_mem _ hx)) (by
        intro e
        apply hne
        show demO a t p + demS a t L = 0
        rw [c, e]; rfl)
      exact ⟨x, List.mem_cons_of_mem _ hx, hl⟩
    · exact ⟨p, List.mem_cons_self .., demO_pos h1 h2 c⟩
theorem minG_le : ∀ (l : List Int) (m : Int), minG m l ≤ m ∧ ∀ x ∈ l, minG m l ≤ x
  | [], m => ⟨Int.le_refl _, fun x hx => by cases hx⟩
  | a :: l, m => by
    obtain ⟨h1, h2⟩ := minG_le l (min m a)
    refine ⟨by show minG (min m a) l ≤ m; omega, ?_⟩
    intro x hx
    show minG (min m a) l ≤ x
    rcases List.mem_cons.1 hx with rfl | hx
    · omega
    · exact h2 x hx
theorem leastP_min {L : List Part} : ∀ p ∈ L, leastP L ≤ p.P := by
  intro p hp
  cases L with
  | nil => cases hp
  | cons q l =>
    have h := minG_le (l.map Part.P) q.P
    show minG q.P (l.map Part.P) ≤ p.P
    rcases List.mem_cons.1 hp with rfl | hp
    · exact h.1
    · exact h.2 _ (List.mem_map_of_mem hp)
/-- a weight's quanta: a quantum came not ahead of its window's release -/
def SlW (e p : Int) (q : Nat) (a : Int) : Prop := (q = 0 ∧ a = 0) ∨ (1 ≤ q ∧ p * ((q : Int) - 1) < e * a)
theorem Bd.none {L : List Part} (hP : PartsOk L) (hw : (weightR L).2 = 0) {M : List Own} (hM : M.map partOf = L) (hR : RowOk 0 M) {n : Nat} {t : Int} (ht : t ≤ 1099511627776)
    (h : Bd (SlW (weightR L).1.E (weightR L).1.P) M n t) (hn : (weightR L).1.E * t < (weightR L).1.P * ((n : Int) + 1)) : missedS t M = 0 := by
  rcases h with h | ⟨q, a, h1, h2, h3, h4⟩
  · exact h
  have hnn := missedS_nn (t := t) ht (Int.le_refl 0) hR.each
  by_cases hz : missedS t M = 0
  · exact hz
  exfalso
  rw [hM] at h4
  rcases weight_cases hP with g | ⟨g, _⟩ | ⟨A, u, A0, _, _, hu, _, hlA, hsum, hdiv, e⟩
  · rw [hw] at g; cases g
  · rw [hw] at g; cases g
  rw [e] at hn h3
  dsimp only at hn h3
  obtain ⟨p, hp, hpt⟩ := demS_pos L (fun p hp => ⟨(hP.2 p hp).1, (hP.2 p hp).2.1⟩) (show demS a t L ≠ 0 by omega)
  have hlm := leastP_min p hp
  obtain ⟨l1, _⟩ := leastP_le hP
  have hat : a ≤ t := by have := hP.2 p hp; omega
  have hdem := demS_le (A := (A : Int)) (by omega) hat L fun p hp => ⟨(hP.2 p hp).1, (hP.2 p hp).2.1, hdiv p hp⟩
  rw [hsum] at hdem
  obtain ⟨c, hc⟩ := hlA
  have hdc : (A : Int) / leastP L = c := by rw [hc, Int.mul_ediv_cancel_left _ (by omega)]
  rw [hdc] at hn h3
  obtain ⟨x, hx⟩ : ∃ x, x = t - a := ⟨_, rfl⟩
  have hxl : leastP L ≤ x := by omega
  have hc1 : 0 ≤ c := by
    rcases Int.lt_or_le c 0 with g | g
    · have := Int.mul_neg_of_pos_of_neg (show 0 < leastP L by omega) g
      omega
    · exact g
  have hcx : (A : Int) ≤ c * x := by
    rw [hc, Int.mul_comm]
    exact Int.mul_le_mul_of_nonneg_left hxl hc1
  have hdn : ((n : Int) - q + 1) * A ≤ demS a t L * A := Int.mul_le_mul_of_nonneg_right (by omega) (by omega)
  rw [← hx] at hdem
  have htx : t = x + a := by omega
  rw [htx, Int.mul_add] at hn
  have hux : (u : Int) * x ≤ A * x := Int.mul_le_mul_of_nonneg_right (by omega) (by omega)
  by_cases hcap : (u : Int) + c ≤ A
  · rw [show min ((u : Int) + c) A = (u : Int) + c by omega, Int.add_mul] at hn
    rw [show min ((u : Int) + c) A = (u : Int) + c by omega] at h3
    rcases h3 with ⟨q0, a0⟩ | ⟨q1, hqa⟩
    · subst q0 a0
      rw [Int.mul_zero, Int.mul_comm (A : Int)] at hn
      have := Int.le_refl (u * x)
      simp only [Int.add_mul, Int.sub_mul] at hdn hn
      omega
    · rw [Int.mul_comm (A : Int)] at hqa hn
      simp only [Int.add_mul, Int.sub_mul, Int.one_mul] at hdn hn hqa
      omega
  · rw [show min ((u : Int) + c) A = (A : Int) by omega] at hn h3
    have hn2 : x + a < (n : Int) + 1 := by
      have : (A : Int) * (x + a) < A * ((n : Int) + 1) := by rw [Int.mul_add]; exact hn
      exact Int.lt_of_mul_lt_mul_left this (by omega)
    have hqa : (q : Int) ≤ a := by
      rcases h3 with ⟨q0, a0⟩ | ⟨q1, hqa⟩
      · omega
      · have := Int.lt_of_mul_lt_mul_left hqa (by omega)
        omega
    have : ((n : Int) - q + 1) * A ≤ x * A := by rw [Int.mul_comm x]; omega
    have := Int.le_of_mul_le_mul_right this (by omega)
    omega
theorem missedM_zero {M : List Own} {last t : Int} (h : missedS t M = 0) : missedM M last t = 0 := by
  unfold missedM
  cases slotOk last t
  · rfl
  · rw [cond_true, missedG_eq, h]; rfl
theorem grant_counts (M : List Own) (last s d t : Int) : s ≤ grantServed M last s t ∧ grantServed M last s t ≤ s + 1 ∧ d ≤ grantIdle M last d t ∧ grantIdle M last d t ≤ d + 1 := by
  unfold grantServed grantIdle
  cases slotOk last t <;> cases decide (bestM M t ≥ 0) <;> simp <;> omega
/-! weight 1: a quantum in each slot -/
theorem weight_full {L : List Part} (hP : PartsOk L) (hw : (weightR L).2 = 0) : ∃ A : Int, 1 ≤ A ∧ sumEP A L ≤ A ∧ ∀ a ∈ L, a.P ∣ A := by
  rcases weight_cases hP with g | ⟨g, _⟩ | ⟨A, u, A0, _, _, hu, _, _, hsum, hdiv, _⟩
  · rw [hw] at g; cases g
  · rw [hw] at g; cases g
  · exact ⟨A, by omega, by omega, hdiv⟩
theorem Bd.none1 {L : List Part} (hP : PartsOk L) (hw : (weightR L).2 = 0) {M : List Own} (hM : M.map partOf = L) (hR : RowOk 0 M) {n : Nat} {t : Int} (ht : t ≤ 1099511627776)
    (h : Bd (SlW 1 1) M n t) (hn : t ≤ n) : missedS t M = 0 := by
  rcases h with h | ⟨q, a, h1, h2, h3, h4⟩
  · exact h
  have hnn := missedS_nn (t := t) ht (Int.le_refl 0) hR.each
  by_cases hz : missedS t M = 0
  · exact hz
  exfalso
  rw [hM] at h4
  obtain ⟨A, A0, hu, hdiv⟩ := weight_full hP hw
  obtain ⟨p, hp, hpt⟩ := demS_pos L (fun p hp => ⟨(hP.2 p hp).1, (hP.2 p hp).2.1⟩) (show demS a t L ≠ 0 by omega)
  have hat : a ≤ t := by have := hP.2 p hp; omega
  have hdem := demS_le (A := A) (by omega) hat L fun p hp => ⟨(hP.2 p hp).1, (hP.2 p hp).2.1, hdiv p hp⟩
  have hdn : ((n : Int) - q + 1) * A ≤ demS a t L * A := Int.mul_le_mul_of_nonneg_right (by omega) (by omega)
  have hux : sumEP A L * (t - a) ≤ A * (t - a) := Int.mul_le_mul_of_nonneg_right hu (by omega)
  have hqa : (q : Int) ≤ a := by
    rcases h3 with ⟨q0, a0⟩ | ⟨q1, hqa⟩ <;> omega
  have := Int.le_of_mul_le_mul_right (show ((n : Int) - q + 1) * A ≤ (t - a) * A by rw [Int.mul_comm (t - a)]; omega) (by omega)
  omega
/-- quanta that were handed on -/
def doneO (q : Own) : Int := q.JobIndex * q.PartE + (q.PartE - q.JobLeft)
def doneS : List Own → Int
  | [] => 0
  | q :: l => doneO q + doneS l
theorem doneS_set : ∀ (M : List Own) (k : Nat) (h : k < M.length) (x : Own), doneS (M.set k x) + doneO M[k] = doneS M + doneO x
  | q :: M, 0, _, x => by
    show doneO x + doneS M + doneO q = doneO q + doneS M + doneO x
    omega
  | q :: M, k + 1, h, x => by
    have hk : k < M.length := by simpa using h
    have ih := doneS_set M k hk x
    show doneO q + doneS (M.set k x) + doneO M[k] = doneO q + doneS M + doneO x
    omega
theorem doneO_after (q : Own) : doneO (afterO q) = doneO q + 1 := by
  unfold afterO
  by_cases c : q.JobLeft = 1
  · rw [show (q.JobLeft - 1 == 0) = true from by rw [c]; rfl, cond_true]
    show (q.JobIndex + 1) * q.PartE + (q.PartE - q.PartE) = q.JobIndex * q.PartE + (q.PartE - q.JobLeft) + 1
    rw [Int.add_mul, Int.one_mul]
    omega
  · rw [show (q.JobLeft - 1 == 0) = false from beq_eq_false_iff_ne.2 (by omega), cond_false]
    show q.JobIndex * q.PartE + (q.PartE - (q.JobLeft - 1)) = q.JobIndex * q.PartE + (q.PartE - q.JobLeft) + 1
    omega
def dueS (t : Int) : List Part → Int
  | [] => 0
  | p :: l => t / p.P * p.E + dueS t l
theorem doneO_due {i t : Int} {q : Own} (h : PartOk 0 i q) (ht : 0 ≤ t) (hz : missedO t q = 0) : t / q.PartP * q.PartE ≤ doneO q := by
  have e1 := h.e1
  have ep := h.ep
  have hl := h.l1
  have hle := h.le
  have hrel := h.rel
  have hdead := h.dead
  by_cases c : q.JobDeadline ≤ t
  · rw [missedO_pos c] at hz
    have := Int.mul_nonneg (Int.ediv_nonneg (show 0 ≤ t - q.JobDeadline by omega) (show 0 ≤ q.PartP by omega)) (show 0 ≤ q.PartE by omega)
    omega
  · have f : t / q.PartP < q.JobIndex + 1 := by
      refine (Int.ediv_lt_iff_lt_mul (by omega)).2 ?_
      rw [Int.add_mul, Int.one_mul]; omega
    have := Int.mul_le_mul_of_nonneg_right (show t / q.PartP ≤ q.JobIndex by omega) (show 0 ≤ q.PartE by omega)
    unfold doneO
    omega
theorem doneS_due {t : Int} (h0 : 0 ≤ t) (h1 : t ≤ 1099511627776) : ∀ M : List Own, (∀ q ∈ M, ∃ i, PartOk 0 i q) → missedS t M = 0 → dueS t (M.map partOf) ≤ doneS M
  | [], _, _ => Int.le_refl _
  | q :: M, h, hz => by
    obtain ⟨i, hi⟩ := h q (List.mem_cons_self ..)
    have a1 := (missedO_ok hi (Int.le_refl 0) h1).1
    have a2 := missedS_nn (t := t) h1 (Int.le_refl 0) (fun x hx => h x (List.mem_cons_of_mem _ hx))
    have hz : missedO t q + missedS t M = 0 := hz
    have ih := doneS_due h0 h1 M (fun x hx => h x (List.mem_cons_of_mem _ hx)) (by omega)
    have hq := doneO_due hi h0 (by omega)
    show t / q.PartP * q.PartE + dueS t (M.map partOf) ≤ doneO q + doneS M
    omega
theorem startL_done (L : List Part) : ∀ n : Nat, doneS (startL 0 L n) = 0 := by
  have key : ∀ l : List Own, (∀ q ∈ l, doneO q = 0) → doneS l = 0 := by
    intro l
    induction l with
    | nil => intro _; rfl
    | cons q l ih =>
      intro h
      show doneO q + doneS l = 0
      rw [h q (List.mem_cons_self ..), ih fun x hx => h x (List.mem_cons_of_mem _ hx)]; rfl
  intro n
  refine key _ fun q hq => ?_
  unfold startL at hq
  obtain ⟨i, _, rfl⟩ := List.mem_map.1 hq
  show 0 * (at' partE.zero L (i : Int)).E + ((at' partE.zero L (i : Int)).E - (at' partE.zero L (i : Int)).E) = 0
  rw [Int.zero_mul]; omega
structure followI (L : List Part) (M : List Own) (served idle : Int) (t : Nat) : Prop where
  top : t ≤ 200
  s0 : 0 ≤ served
  d0 : 0 ≤ idle
  all : served + idle = t
  row : RowOk 0 M
  parts : M.map partOf = L
  done : doneS M = served
  bd : ∀ u : Int, 0 ≤ u → u ≤ 1099511627776 → Bd (SlW 1 1) M t u
theorem followI.init {L : List Part} (hP : PartsOk L) : followI L (startL 0 L L.length) 0 0 0 :=
  ⟨by decide, Int.le_refl _, Int.le_refl _, rfl, startL_ok hP (by decide) (by decide), startL_parts 0, startL_done L _, fun u h0 _ => Bd.start hP h0 (.inl ⟨rfl, rfl⟩)⟩
theorem grant_done {M : List Own} {last t : Int} (hR : RowOk 0 M) (hs : slotOk last t = true) (s d : Int) (h : doneS M = s) : doneS (grantM M last t) = grantServed M last s t ∧ grantServed M last s t + grantIdle M last d t = s + d + 1 := by
  by_cases hb : 0 ≤ bestM M t
  · obtain ⟨k, hk, ho⟩ := best_some hR hb
    obtain ⟨g1, g2, g3, g4, g5⟩ := grantM_some hs hk ho.lt
    have hset := doneS_set M k ho.lt (afterO (M[k]'ho.lt))
    have ha := doneO_after (M[k]'ho.lt)
    rw [g1, g4, g5]
    omega
  · obtain ⟨g1, g2, g3, g4, g5⟩ := grantM_none (M := M) hs hb
    rw [g1, g4, g5]
    omega
theorem followI.step {L : List Part} {M : List Own} {s d : Int} {t : Nat} {last : Int} (h : followI L M s d t) (ht : t < 200) (hs : slotOk last t = true) : followI L (grantM M last t) (grantServed M last s t) (grantIdle M last d t) (t + 1) := by
  obtain ⟨c1, c2, c3, c4⟩ := grant_counts M last s d t
  obtain ⟨e1, e2⟩ := grant_done h.row hs s d h.done
  have := h.s0; have := h.d0; have := h.all
  refine ⟨ht, by omega, by omega, by omega, h.row.grant, by rw [parts_grant]; exact h.parts, e1, ?_⟩
  intro u u0 u1
  exact (h.bd u u0 u1).grant h.row hs (by omega) u1 (.inr ⟨by omega, by omega⟩)
def dueG (t : Int) : Int → List Part → Int
  | n, [] => n
  | n, p :: l => dueG t (n + t / p.P * p.E) l
theorem dueG_eq (t : Int) : ∀ (L : List Part) (n : Int), dueG t n L = n + dueS t L
  | [], n => (Int.add_zero n).symm
  | p :: L, n => by
    show dueG t (n + t / p.P * p.E) L = n + (t / p.P * p.E + dueS t L)
    rw [dueG_eq t L]; omega
theorem due_one {t : Int} {p : Part} (h0 : 0 ≤ t) (h1 : 1 ≤ p.E) (h2 : p.E ≤ p.P) : 0 ≤ t / p.P * p.E ∧ t / p.P * p.E ≤ t ∧ 0 ≤ t / p.P ∧ t / p.P ≤ t := by
  have q0 : 0 ≤ t / p.P := Int.ediv_nonneg h0 (by omega)
  have q1 : t / p.P ≤ t := Int.ediv_le_self _ h0
  have q2 := Int.mul_le_mul_of_nonneg_left h2 q0
  have q3 := Int.ediv_mul_le t (show p.P ≠ 0 by omega)
  exact ⟨Int.mul_nonneg q0 (by omega), by omega, q0, q1⟩
structure dueI (L : List Part) (t : Int) (n : Int) (x : Nat) : Prop where
  le : x ≤ L.length
  n0 : 0 ≤ n
  n1 : n ≤ 200 * x
  eq : dueG t 0 L = dueG t n (L.drop x)

/-! ### regatta/regattaref09.right -/
def fluRightText (e p a b : Int) : Prop := (match (okP e p) with | true => (match (decide (a ≥ (0 : Int))) with | true => (match (decide (a ≤ (1099511627776 : Int))) with | true => (match (decide (b ≥ (0 : Int))) with | true => ((((okP e p && decide (a ≥ (0 : Int)) && decide (a ≤ (1099511627776 : Int)) && decide (b ≥ (0 : Int)) && decide (b ≤ (1099511627776 : Int))) = decide (b ≤ (1099511627776 : Int))) ∧ True) ∧ True) | false => ((((okP e p && decide (a ≥ (0 : Int)) && decide (a ≤ (1099511627776 : Int)) && decide (b ≥ (0 : Int)) && decide (b ≤ (1099511627776 : Int))) = false) ∧ True) ∧ True)) | false => ((((okP e p && decide (a ≥ (0 : Int)) && decide (a ≤ (1099511627776 : Int)) && decide (b ≥ (0 : Int)) && decide (b ≤ (1099511627776 : Int))) = false) ∧ True) ∧ True)) | false => ((((okP e p && decide (a ≥ (0 : Int)) && decide (a ≤ (1099511627776 : Int)) && decide (b ≥ (0 : Int)) && decide (b ≤ (1099511627776 : Int))) = false) ∧ True) ∧ True)) | false => ((((okP e p && decide (a ≥ (0 : Int)) && decide (a ≤ (1099511627776 : Int)) && decide (b ≥ (0 : Int)) && decide (b ≤ (1099511627776 : Int))) = false) ∧ True) ∧ True))
theorem fluRightVc (e p a b : Int) : fnX X33 (noAnn) Try.f53 [.agg [.raw (.int .i64 e), .raw (.int .i64 p)], .raw (.int .i64 a), .raw (.int .i64 b)] [] (ends [] ⟨some (.raw (.bool (okP e p && decide (a ≥ 0) && decide (a ≤ 1099511627776) && decide (b ≥ 0) && decide (b ≤ 1099511627776)))), []⟩) = fluRightText e p a b := by kernel_rfl
theorem fluRightHolds (e p a b : Int) : fluRightText e p a b := by
  unfold fluRightText
  cases okP e p <;> cases decide (a ≥ 0) <;> cases decide (a ≤ 1099511627776) <;> cases decide (b ≥ 0) <;> cases decide (b ≤ 1099511627776) <;> (repeat' first | apply And.intro | exact True.intro | exact rfl)
noncomputable def fluRightCon : Con T O := fun args cs => match args, cs with
  | [.agg [.raw (.int .i64 e), .raw (.int .i64 p)], .raw (.int .i64 a), .raw (.int .i64 b)], [] => .ret ⟨some (.raw (.bool (okP e p && decide (a ≥ 0) && decide (a ≤ 1099511627776) && decide (b ≥ 0) && decide (b ≤ 1099511627776)))), []⟩
  | _, _ => .fail
theorem fluRightOk : ConOk R Try.prog 53 fluRightCon := con_of_fn R (X33) (TabOk.con R X33Ok) mixed Try.call53 Try.func53 fluRightCon (by
  intro args cs K h
  unfold fluRightCon at h
  split at h
  · rename_i e p a b
    refine ⟨noAnn, _, fun v S hv => ⟨_, h, hv⟩, ?_⟩
    rw [fluRightVc e p a b]
    exact fluRightHolds e p a b
  · exact h.elim)
noncomputable def tab34 : Tab T O := (53, fluRightCon) :: tab33
theorem tabOk34 : TabOk R Try.prog tab34 := TabOk.cons R fluRightOk <| tabOk33
noncomputable def X34 : Ctx T O := { X0 with con := conOf tab34 }
theorem X34Ok : TabOk R X34.P tab34 := tabOk34
end Go.Proofs.Ytmnnjclnldaejaa

namespace Go.Proofs.Ytmnnjclnldaejaa
open Go.Sx Go.Proofs Classical
/-! ### regatta/regattaref09.Low -/
def fluLowText (e p a : Int) : Prop := (match (!(okP e p && decide (a ≥ (0 : Int)) && decide (a ≤ (1099511627776 : Int)) && decide ((0 : Int) ≥ (0 : Int)) && decide ((0 : Int) ≤ (1099511627776 : Int)))) with | true => (((e * a / p = (0 : Int)) ∧ True) ∧ True) | false => (match (p != (0 : Int)) with | true => (((e * a / p = IntKind.i64.wrap ((IntKind.i64.wrap (e * a)).tdiv p)) ∧ True) ∧ True) | false => False))
theorem fluLowVc (e p a : Int) : fnX X34 (noAnn) Try.f23 [.agg [.raw (.int .i64 e), .raw (.int .i64 p)], .raw (.int .i64 a)] [] (ends [] ⟨some (.raw (.int .i64 (e * a / p))), []⟩) = fluLowText e p a := by kernel_rfl
theorem fluLowHolds (e p a : Int) (hp : okP e p = true ∧ 0 ≤ a ∧ a ≤ 1099511627776) : fluLowText e p a := by
  unfold fluLowText
  obtain ⟨h1, h2, h3⟩ := hp
  obtain ⟨o1, o2, o3⟩ := okP_iff.1 h1
  have m0 : 0 ≤ e * a := Int.mul_nonneg (by omega) h2
  have m1 : e * a ≤ 1048576 * 1099511627776 := Int.mul_le_mul (by omega) h3 h2 (by decide)
  have d0 : 0 ≤ e * a / p := Int.ediv_nonneg m0 (by omega)
  have d1 : e * a / p ≤ e * a := Int.ediv_le_self _ m0
  rw [h1, decide_eq_true (show a ≥ 0 by omega), decide_eq_true h3, wrap_id (n := e * a) (by omega) (by omega), Int.tdiv_eq_ediv_of_nonneg m0, wrap_id (n := e * a / p) (by omega) (by omega), show (p != 0) = true from bne_iff_ne.2 (by omega)]
  repeat' first | apply And.intro | exact True.intro | with_reducible rfl | exact rfl
noncomputable def fluLowCon : Con T O := fun args cs => match args, cs with
  | [.agg [.raw (.int .i64 e), .raw (.int .i64 p)], .raw (.int .i64 a)], [] => chk (decide (okP e p = true ∧ 0 ≤ a ∧ a ≤ 1099511627776)) (.ret ⟨some (.raw (.int .i64 (e * a / p))), []⟩)
  | _, _ => .fail
theorem fluLowOk : ConOk R Try.prog 23 fluLowCon := con_of_fn R (X34) (TabOk.con R X34Ok) mixed Try.call23 Try.func23 fluLowCon (by
  intro args cs K h
  unfold fluLowCon at h
  split at h
  · rename_i e p a
    rw [Tree.holds_chk] at h
    obtain ⟨hp, h⟩ := h
    refine ⟨noAnn, _, fun v S hv => ⟨_, h, hv⟩, ?_⟩
    rw [fluLowVc e p a]
    exact fluLowHolds e p a (of_decide_eq_true hp)
  · exact h.elim)
noncomputable def tab35 : Tab T O := (23, fluLowCon) :: tab34
theorem tabOk35 : TabOk R Try.prog tab35 := TabOk.cons R fluLowOk <| tabOk34
noncomputable def X35 : Ctx T O := { X0 with con := conOf tab35 }
theorem X35Ok : TabOk R X35.P tab35 := tabOk35
end Go.Proofs.Ytmnnjclnldaejaa

namespace Go.Proofs.Ytmnnjclnldaejaa
open Go.Sx Go.Proofs Classical
/-! ### regatta/regattalaw14.SuperFollows -/
def superFollowsText (A : List Pair) (n : Int) : Prop := (match (decide ((madeL A).length ≤ (100000 : Nat))) with | true => (match (newOk (madeL A) (0 : Int)) with | true => ((∃ x : (List Own × Int × Int) × Nat, (((followI (madeL A) x.fst.fst x.fst.snd.fst x.fst.snd.snd x.snd) ∧ ((↑x.snd : Int) ≤ (IntKind.i64.wrap (n.tmod (201 : Int) + (201 : Int))).tmod (201 : Int))) ∧ (((true = true) ∧ (True ∧ (True ∧ (((IntKind.i64.wrap (n.tmod (201 : Int) + (201 : Int))).tmod (201 : Int) = (IntKind.i64.wrap (n.tmod (201 : Int) + (201 : Int))).tmod (201 : Int)) ∧ (((↑x.snd : Int) = (0 : Int)) ∧ True))))) ∧ ((A = A) ∧ ((madeL A = madeL A) ∧ ((True ∧ (((↑(x.snd - (1 : Nat)) : Int) = (0 : Int)) ∧ ((x.fst.snd.fst = (0 : Int)) ∧ ((x.fst.snd.snd = (0 : Int)) ∧ True)))) ∧ ((x.fst.fst = startL (0 : Int) (madeL A) (madeL A).length) ∧ True))))))) ∧ (∀ x : (List Own × Int × Int) × Nat, (((followI (madeL A) x.fst.fst x.fst.snd.fst x.fst.snd.snd x.snd) ∧ ((↑x.snd : Int) ≤ (IntKind.i64.wrap (n.tmod (201 : Int) + (201 : Int))).tmod (201 : Int))) → (match (decide ((↑x.snd : Int) < (IntKind.i64.wrap (n.tmod (201 : Int) + (201 : Int))).tmod (201 : Int))) with | true => (match (decide (∃ b, RowOk b x.fst.fst)) with | true => (match (missedM x.fst.fst (↑(x.snd - (1 : Nat)) : Int) (↑x.snd : Int) != (0 : Int)) with | true => (((true = false) ∧ True) ∧ ((A = A) ∧ True)) | false => (match (decide ((∃ b, RowOk b x.fst.fst) ∧ (0 : Int) ≤ x.fst.snd.fst ∧ x.fst.snd.fst ≤ (1099511627776 : Int) ∧ (0 : Int) ≤ x.fst.snd.snd ∧ x.fst.snd.snd ≤ (1099511627776 : Int))) with | true => (∃ x' : (List Own × Int × Int) × Nat, (((followI (madeL A) x'.fst.fst x'.fst.snd.fst x'.fst.snd.snd x'.snd) ∧ ((↑x'.snd : Int) ≤ (IntKind.i64.wrap (n.tmod (201 : Int) + (201 : Int))).tmod (201 : Int))) ∧ (((200 : Nat) - x'.snd < (200 : Nat) - x.snd) ∧ (((true = true) ∧ (True ∧ (True ∧ (((IntKind.i64.wrap (n.tmod (201 : Int) + (201 : Int))).tmod (201 : Int) = (IntKind.i64.wrap (n.tmod (201 : Int) + (201 : Int))).tmod (201 : Int)) ∧ (((↑x'.snd : Int) = IntKind.i64.wrap ((↑x.snd : Int) + (1 : Int))) ∧ True))))) ∧ ((A = A) ∧ ((madeL A = madeL A) ∧ ((True ∧ (((↑(x'.snd - (1 : Nat)) : Int) = grantLast (↑(x.snd - (1 : Nat)) : Int) (↑x.snd : Int)) ∧ ((x'.fst.snd.fst = grantServed x.fst.fst (↑(x.snd - (1 : Nat)) : Int) x.fst.snd.fst (↑x.snd : Int)) ∧ ((x'.fst.snd.snd = grantIdle x.fst.fst (↑(x.snd - (1 : Nat)) : Int) x.fst.snd.snd (↑x.snd : Int)) ∧ True)))) ∧ ((x'.fst.fst = grantM x.fst.fst (↑(x.snd - (1 : Nat)) : Int) (↑x.snd : Int)) ∧ True)))))))) | false => False)) | false => False) | false => ((∃ x1 : Int × Nat, ((dueI (madeL A) ((IntKind.i64.wrap (n.tmod (201 : Int) + (201 : Int))).tmod (201 : Int)) x1.fst x1.snd) ∧ (((true = true) ∧ (True ∧ (True ∧ (((IntKind.i64.wrap (n.tmod (201 : Int) + (201 : Int))).tmod (201 : Int) = (IntKind.i64.wrap (n.tmod (201 : Int) + (201 : Int))).tmod (201 : Int)) ∧ ((x1.fst = (0 : Int)) ∧ (((↑x1.snd : Int) = (0 : Int)) ∧ True)))))) ∧ ((A = A) ∧ ((madeL A = madeL A) ∧ ((True ∧ (((↑(x.snd - (1 : Nat)) : Int) = (↑(x.snd - (1 : Nat)) : Int)) ∧ ((x.fst.snd.fst = x.fst.snd.fst) ∧ ((x.fst.snd.snd = x.fst.snd.snd) ∧ True)))) ∧ ((x.fst.fst = x.fst.fst) ∧ True))))))) ∧ (∀ x1 : Int × Nat, ((dueI (madeL A) ((IntKind.i64.wrap (n.tmod (201 : Int) + (201 : Int))).tmod (201 : Int)) x1.fst x1.snd) → (match (decide ((↑x1.snd : Int) < (↑(madeL A).length : Int))) with | true => (match (inb (↑x1.snd : Int) (madeL A).length) with | true => (match (inb (↑x1.snd : Int) (madeL A).length) with | true => (match (decide (okP (1 : Int) (at' partE.zero (madeL A) (↑x1.snd : Int)).P = true ∧ (0 : Int) ≤ (IntKind.i64.wrap (n.tmod (201 : Int) + (201 : Int))).tmod (201 : Int) ∧ (IntKind.i64.wrap (n.tmod (201 : Int) + (201 : Int))).tmod (201 : Int) ≤ (1099511627776 : Int))) with | true => (match (inb (↑x1.snd : Int) (madeL A).length) with | true => (match (inb (↑x1.snd : Int) (madeL A).length) with | true => (∃ x' : Int × Nat, ((dueI (madeL A) ((IntKind.i64.wrap (n.tmod (201 : Int) + (201 : Int))).tmod (201 : Int)) x'.fst x'.snd) ∧ (((madeL A).length - x'.snd < (madeL A).length - x1.snd) ∧ (((true = true) ∧ (True ∧ (True ∧ (((IntKind.i64.wrap (n.tmod (201 : Int) + (201 : Int))).tmod (201 : Int) = (IntKind.i64.wrap (n.tmod (201 : Int) + (201 : Int))).tmod (201 : Int)) ∧ ((x'.fst = IntKind.i64.wrap (x1.fst + IntKind.i64.wrap ((1 : Int) * (IntKind.i64.wrap (n.tmod (201 : Int) + (201 : Int))).tmod (201 : Int) / (at' partE.zero (madeL A) (↑x1.snd : Int)).P * (at' partE.zero (madeL A) (↑x1.snd : Int)).E))) ∧ (((↑x'.snd : Int) = IntKind.i64.wrap ((↑x1.snd : Int) + (1 : Int))) ∧ True)))))) ∧ ((A = A) ∧ ((madeL A = madeL A) ∧ ((True ∧ (((↑(x.snd - (1 : Nat)) : Int) = (↑(x.snd - (1 : Nat)) : Int)) ∧ ((x.fst.snd.fst = x.fst.snd.fst) ∧ ((x.fst.snd.snd = x.fst.snd.snd) ∧ True)))) ∧ ((x.fst.fst = x.fst.fst) ∧ True)))))))) | false => False) | false => False) | false => False) | false => False) | false => False) | false => (match (IntKind.i64.wrap (x.fst.snd.fst + x.fst.snd.snd) == (IntKind.i64.wrap (n.tmod (201 : Int) + (201 : Int))).tmod (201 : Int)) with | true => (match (decide (x.fst.snd.fst ≥ x1.fst)) with | true => (match (decide (∃ b, RowOk b x.fst.fst)) with | true => (((true = (missedM x.fst.fst (↑(x.snd - (1 : Nat)) : Int) (if (0 : Int) > IntKind.i64.wrap ((IntKind.i64.wrap (n.tmod (201 : Int) + (201 : Int))).tmod (201 : Int) - (1 : Int)) then (0 : Int) else IntKind.i64.wrap ((IntKind.i64.wrap (n.tmod (201 : Int) + (201 : Int))).tmod (201 : Int) - (1 : Int))) == (0 : Int))) ∧ True) ∧ ((A = A) ∧ True)) | false => False) | false => (((true = false) ∧ True) ∧ ((A = A) ∧ True))) | false => (((true = false) ∧ True) ∧ ((A = A) ∧ True))))))))))) | false => (((true = true) ∧ True) ∧ ((A = A) ∧ True))) | false => False)
theorem superFollowsVc (A : List Pair) (n : Int) : fnX X35 (annOf [(8, { σ := (List Own × Int × Int) × Nat, st := fun S x => supSt ((S.keep [5, 6, 7, 8]).int 9 x.2) 1 7 x.1.1 ((x.2 - 1 : Nat) : Int) x.1.2.1 x.1.2.2, inv := fun S x => followI (madeL A) x.1.1 x.1.2.1 x.1.2.2 x.2 ∧ (x.2 : Int) ≤ S.gi 8, m := fun x => 200 - x.2 }), (15, { σ := Int × Nat, st := fun S x => ((S.keep [5, 6, 7, 8]).int 10 x.1).int 11 x.2, inv := fun S x => dueI (madeL A) (S.gi 8) x.1 x.2, m := fun x => (madeL A).length - x.2 })] []) Try.f6 [.own 0, .raw (.int .i64 n)] [.ro 6 A] (ends [.ro 6 A] ⟨some (.raw (.bool true)), []⟩) = superFollowsText A n := by kernel_rfl
set_option maxHeartbeats 1000000 in
set_option maxRecDepth 20000 in
theorem superFollowsHolds (A : List Pair) (n : Int) : superFollowsText A n := by
  unfold superFollowsText
  have hl8 := madeL_length A
  rw [decide_eq_true (show (madeL A).length ≤ 100000 by omega), rem_mod n (by decide) (by decide)]
  obtain ⟨k, hk⟩ : ∃ k : Nat, n % 201 = k := Int.eq_ofNat_of_zero_le (Int.emod_nonneg n (by decide))
  have k1 : k ≤ 200 := by have := Int.emod_lt_of_pos n (show (0 : Int) < 201 by decide); omega
  rw [hk]
  clear hk
  cases hn : newOk (madeL A) 0
  · repeat' first | apply And.intro | exact True.intro | with_reducible rfl | exact rfl
  · obtain ⟨hP, _, _⟩ := newOk_parts hn
    have hw : (weightR (madeL A)).2 = 0 := by
      unfold newOk at hn
      simp only [Bool.and_eq_true, beq_iff_eq] at hn
      exact hn.1
    generalize madeL A = L at hP hl8 hw ⊢
    refine ⟨⟨((startL 0 L L.length, 0, 0), 0), ⟨followI.init hP, by dsimp only; omega⟩, by repeat' first | apply And.intro | exact True.intro | with_reducible rfl | exact rfl⟩, ?_⟩
    intro x hi
    obtain ⟨⟨M, served, idle⟩, x⟩ := x
    dsimp only at hi ⊢
    obtain ⟨hi, hxk⟩ := hi
    have hR := hi.row
    have s0 := hi.s0
    have d0 := hi.d0
    have hall := hi.all
    have htop := hi.top
    have hRe : decide (∃ b, RowOk b M) = true := decide_eq_true ⟨0, hR⟩
    by_cases h : x < k
    · have hs : slotOk ((x - 1 : Nat) : Int) (x : Int) = true := slotOk_iff.2 ⟨by omega, by omega⟩
      have hm : missedM M ((x - 1 : Nat) : Int) (x : Int) = 0 := missedM_zero (Bd.none1 hP hw hi.parts hR (by omega) (hi.bd x (by omega) (by omega)) (Int.le_refl _))
      have hst := hi.step (by omega) hs
      rw [show decide ((x : Int) < (k : Int)) = true from decide_eq_true (by omega), hRe, hm, show ((0 : Int) != 0) = false from rfl, decide_eq_true (⟨⟨0, hR⟩, s0, by omega, d0, by omega⟩ : (∃ b, RowOk b M) ∧ 0 ≤ served ∧ served ≤ 1099511627776 ∧ 0 ≤ idle ∧ idle ≤ 1099511627776), grantLast_on hs, wrap_id (n := (x : Int) + 1) (by omega) (by omega)]
      refine ⟨((grantM M ((x - 1 : Nat) : Int) x, grantServed M ((x - 1 : Nat) : Int) served x, grantIdle M ((x - 1 : Nat) : Int) idle x), x + 1), ⟨hst, by dsimp only; omega⟩, by dsimp only; omega, ?_⟩
      repeat' first | apply And.intro | exact True.intro | with_reducible rfl | exact rfl
    · obtain rfl : x = k := by omega
      rw [show decide ((x : Int) < (x : Int)) = false from decide_eq_false (by omega)]
      refine ⟨⟨(0, 0), ⟨Nat.zero_le _, Int.le_refl _, by dsimp only; omega, rfl⟩, by repeat' first | apply And.intro | exact True.intro | with_reducible rfl | exact rfl⟩, ?_⟩
      intro y hj
      obtain ⟨m, y⟩ := y
      dsimp only at hj ⊢
      have j1 := hj.le
      have j2 := hj.n0
      have j3 := hj.n1
      have j4 := hj.eq
      by_cases g : y < L.length
      · obtain ⟨o1, o2, o3⟩ := hP.2 _ (List.getElem_mem g)
        obtain ⟨u1, u2, u3, u4⟩ := due_one (t := (x : Int)) (p := L[y]) (by omega) o1 o2
        rw [List.drop_eq_getElem_cons g] at j4
        simp only [dueG] at j4
        rw [dec_lt g, inb_nat g, at_nat g, decide_eq_true (⟨okP_iff.2 ⟨Int.le_refl 1, by omega, o3⟩, by omega, by omega⟩ : okP 1 L[y].P = true ∧ 0 ≤ (x : Int) ∧ (x : Int) ≤ 1099511627776), Int.one_mul, wrap_id (n := (x : Int) / L[y].P * L[y].E) (by omega) (by omega), wrap_id (n := m + (x : Int) / L[y].P * L[y].E) (by omega) (by omega), wrap_id (n := (y : Int) + 1) (by omega) (by omega)]
        refine ⟨(m + (x : Int) / L[y].P * L[y].E, y + 1), ⟨g, by dsimp only; omega, by dsimp only; omega, j4⟩, by dsimp only; omega, ?_⟩
        repeat' first | apply And.intro | exact True.intro | with_reducible rfl | exact rfl
      · rw [List.drop_of_length_le (by omega)] at j4
        have j4 : dueG x 0 L = m := j4
        have hz : ∀ u : Int, 0 ≤ u → u ≤ x → missedS u M = 0 := fun u u0 u1 => Bd.none1 hP hw hi.parts hR (by omega) (hi.bd u u0 (by omega)) u1
        have hd := doneS_due (t := (x : Int)) (by omega) (by omega) M hR.each (hz x (by omega) (Int.le_refl _))
        rw [hi.parts, hi.done] at hd
        rw [dueG_eq] at j4
        have hu : ∃ u : Int, (if 0 > IntKind.i64.wrap ((x : Int) - 1) then 0 else IntKind.i64.wrap ((x : Int) - 1)) = u ∧ 0 ≤ u ∧ u ≤ x := by
          rw [wrap_id (n := (x : Int) - 1) (by omega) (by omega)]
          split
          · exact ⟨0, rfl, Int.le_refl _, by omega⟩
          · exact ⟨_, rfl, by omega, by omega⟩
        obtain ⟨u, hu1, hu2, hu3⟩ := hu
        have hm : missedM M ((x - 1 : Nat) : Int) u = 0 := missedM_zero (hz u hu2 hu3)
        rw [dec_ge (by omega), wrap_id (n := served + idle) (by omega) (by omega), hall, beq_self_eq_true, decide_eq_true (show served ≥ m by omega), hRe, hu1, hm]
        repeat' first | apply And.intro | exact True.intro | with_reducible rfl | exact rfl
noncomputable def superFollowsCon : Con T O := fun args cs => match args, cs with
  | [.own 0, .raw (.int .i64 _)], [.ro 6 _] => .ret ⟨some (.raw (.bool true)), []⟩
  | _, _ => .fail
theorem superFollowsOk : ConOk R Try.prog 6 superFollowsCon := con_of_fn R (X35) (TabOk.con R X35Ok) mixed Try.call6 Try.func6 superFollowsCon (by
  intro args cs K h
  unfold superFollowsCon at h
  split at h
  · rename_i n A
    refine ⟨annOf [(8, { σ := (List Own × Int × Int) × Nat, st := fun S x => supSt ((S.keep [5, 6, 7, 8]).int 9 x.2) 1 7 x.1.1 ((x.2 - 1 : Nat) : Int) x.1.2.1 x.1.2.2, inv := fun S x => followI (madeL A) x.1.1 x.1.2.1 x.1.2.2 x.2 ∧ (x.2 : Int) ≤ S.gi 8, m := fun x => 200 - x.2 }), (15, { σ := Int × Nat, st := fun S x => ((S.keep [5, 6, 7, 8]).int 10 x.1).int 11 x.2, inv := fun S x => dueI (madeL A) (S.gi 8) x.1 x.2, m := fun x => (madeL A).length - x.2 })] [], _, fun v S hv => ⟨_, h, hv⟩, ?_⟩
    rw [superFollowsVc A n]
    exact superFollowsHolds A n
  · exact h.elim)
noncomputable def tab36 : Tab T O := (6, superFollowsCon) :: tab35
theorem tabOk36 : TabOk R Try.prog tab36 := TabOk.cons R superFollowsOk <| tabOk35
noncomputable def X36 : Ctx T O := { X0 with con := conOf tab36 }
theorem X36Ok : TabOk R X36.P tab36 := tabOk36
end Go.Proofs.Ytmnnjclnldaejaa
