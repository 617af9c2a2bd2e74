/-
  Part of a proof over the seat Ytkcnocigkblbiaa: printed by a small program or typed by hand.
-/
import Derived.Test.YtkcnocigkblbiaaAuditS6
import Derived.KernelRfl
namespace Go.Proofs.Ytkcnocigkblbiaa
open Go.Sx Go.Proofs Classical

theorem firstI_take (p : Note → Bool) : ∀ (L : List Note) (i : Int) (k : Nat), 0 ≤ i → (firstI p L i = -1 ∨ i ≤ firstI p L i) ∧ firstI p (L.take k) i = if i ≤ firstI p L i ∧ firstI p L i < i + k then firstI p L i else -1
  | [], i, k, h => by
    refine ⟨.inl rfl, ?_⟩
    rw [List.take_nil]
    exact (ite_self _).symm
  | a :: l, i, k, h => by
    have ih := fun k => firstI_take p l (i + 1) k (by omega)
    cases hp : p a
    · simp only [firstI, hp, cond_false]
      refine ⟨by have := (ih 0).1; omega, ?_⟩
      cases k with
      | zero => simp only [List.take_zero, firstI]; have := (ih 0).1; split <;> omega
      | succ k =>
        simp only [List.take_succ_cons, firstI, hp, cond_false, (ih k).2]
        have := (ih k).1
        split <;> split <;> omega
    · simp only [firstI, hp, cond_true]
      refine ⟨by omega, ?_⟩
      cases k with
      | zero => simp only [List.take_zero, firstI]; split <;> omega
      | succ k => simp only [List.take_succ_cons, firstI, hp, cond_true]; split <;> omega
theorem orderGo_take : ∀ (L : List Note) (M : List (Int × Note)) (i : Int) (k : Nat), 0 ≤ i → (orderGo M L i = -1 ∨ i ≤ orderGo M L i) ∧ orderGo M (L.take k) i = if i ≤ orderGo M L i ∧ orderGo M L i < i + k then orderGo M L i else -1
  | [], M, i, k, h => by
    refine ⟨.inl rfl, ?_⟩
    rw [List.take_nil]
    exact (ite_self _).symm
  | a :: l, M, i, k, h => by
    have ih := fun k => orderGo_take l (mput a.ID a M) (i + 1) k (by omega)
    cases hp : orderRight M a
    · simp only [orderGo, hp, cond_false]
      refine ⟨by omega, ?_⟩
      cases k with
      | zero => simp only [List.take_zero, orderGo]; split <;> omega
      | succ k => simp only [List.take_succ_cons, orderGo, hp, cond_false]; split <;> omega
    · simp only [orderGo, hp, cond_true]
      refine ⟨by have := (ih 0).1; omega, ?_⟩
      cases k with
      | zero => simp only [List.take_zero, orderGo]; have := (ih 0).1; split <;> omega
      | succ k =>
        simp only [List.take_succ_cons, orderGo, hp, cond_true, (ih k).2]
        have := (ih k).1
        split <;> split <;> omega
theorem slotsGo_take (m : Int) : ∀ (L : List Note) (p : Option Int) (I C : List (Int × Bool)) (i : Int) (k : Nat), 0 ≤ i → (slotsGo m p I C L i = -1 ∨ i ≤ slotsGo m p I C L i) ∧ slotsGo m p I C (L.take k) i = if i ≤ slotsGo m p I C L i ∧ slotsGo m p I C L i < i + k then slotsGo m p I C L i else -1
  | [], p, I, C, i, k, h => by
    refine ⟨.inl rfl, ?_⟩
    rw [List.take_nil]
    exact (ite_self _).symm
  | a :: l, p, I, C, i, k, h => by
    have stop : ∀ (f : List Note → Int) (e0 : f [] = -1) (e1 : ∀ l, f (a :: l) = i), (f (a :: l) = -1 ∨ i ≤ f (a :: l)) ∧ f ((a :: l).take k) = if i ≤ f (a :: l) ∧ f (a :: l) < i + k then f (a :: l) else -1 := by
      intro f e0 e1
      rw [e1]
      refine ⟨by omega, ?_⟩
      cases k with
      | zero => rw [List.take_zero, e0]; split <;> omega
      | succ k => rw [List.take_succ_cons, e1]; split <;> omega
    cases hb : back? p a
    · cases hs : slotsBad m (bif fresh? p a then [] else I) (bif fresh? p a then [] else C) a
      · have ih := fun k => slotsGo_take m l (some a.At) (mput a.ID true (bif fresh? p a then [] else I)) (mput a.Core true (bif fresh? p a then [] else C)) (i + 1) k (by omega)
        simp only [slotsGo, hb, hs, cond_false]
        refine ⟨by have := (ih 0).1; omega, ?_⟩
        cases k with
        | zero => simp only [List.take_zero, slotsGo]; have := (ih 0).1; split <;> omega
        | succ k =>
          simp only [List.take_succ_cons, slotsGo, hb, hs, cond_false, (ih k).2]
          have := (ih k).1
          split <;> split <;> omega
      · exact stop (fun l => slotsGo m p I C l i) rfl (fun l => by simp only [slotsGo, hb, hs, cond_false, cond_true])
    · exact stop (fun l => slotsGo m p I C l i) rfl (fun l => by simp only [slotsGo, hb, cond_true])
theorem part_ok {a b : Int} {k : Nat} (h : b = if 0 ≤ a ∧ a < 0 + k then a else -1) : law20Part a b k = true := by
  unfold law20Part
  by_cases h0 : 0 ≤ a
  · by_cases h1 : a < k
    · rw [if_pos (by omega)] at h
      rw [show decide (a ≥ 0) = true by simpa using h0, show decide (a < (k : Int)) = true by simpa using h1]
      simp [h]
    · rw [if_neg (by omega)] at h
      rw [show decide (a ≥ 0) = true by simpa using h0, show decide (a < (k : Int)) = false by simpa using h1]
      simp [h]
  · rw [if_neg (by omega)] at h
    rw [show decide (a ≥ 0) = false by simpa using h0]
    simp [h]
theorem made_length : ∀ (LL : List (List Int)) (t : Int), (madeGo t LL).length = LL.length
  | [], _ => rfl
  | r :: l, t => by simp [madeGo, made_length l]
theorem b64_1 (n : Int) : b64 n 1 = n % 2 := mask_nat 1 (by omega) n
theorem b64_3 (n : Int) : b64 n 3 = n % 4 := mask_nat 2 (by omega) n
theorem made_in : ∀ (LL : List (List Int)) (t : Int), 0 ≤ t → t + LL.length ≤ 40 → ∀ n ∈ madeGo t LL, 0 ≤ n.ID ∧ n.ID < 4 ∧ 0 ≤ n.Since ∧ n.Since < 2 ∧ 0 ≤ n.At ∧ n.At < 99
  | [], _, _, _ => by simp [madeGo]
  | r :: l, t, h0, h1 => by
    intro n hn
    simp only [List.length_cons] at h1
    have e : madeAt t r = t + at' 0 (sixK r 6) 0 % 2 := by
      unfold madeAt
      rw [b64_1, wrap_id (by omega) (by omega)]
    simp only [madeGo, List.mem_cons] at hn
    rcases hn with rfl | hn
    · simp only [madeNote, b64_1, b64_3]
      rw [e]
      omega
    · exact made_in l (madeAt t r) (by rw [e]; omega) (by rw [e]; omega) n hn
/-- how many notes are of IDs below x, or of x and since less than y -/
def cntU (L : List Note) (x y : Int) : Nat := L.countP fun n => decide (n.ID < x) || (n.ID == x && decide (n.Since < y))
theorem cntU_step (L : List Note) (x y : Int) (h : ∀ n ∈ L, 0 ≤ n.At ∧ n.At < 99) : cntU L x (y + 1) = cntU L x y + ranN x y 0 99 L := by
  induction L with
  | nil => rfl
  | cons a l ih =>
    have ih := ih fun n hn => h n (by simp [hn])
    have ha := h a (by simp)
    unfold cntU ranN at ih ⊢
    simp only [List.countP_cons, ranOf]
    generalize List.countP (ranOf x y 0 99) l = A at ih ⊢
    generalize List.countP (fun n => decide (n.ID < x) || (n.ID == x && decide (n.Since < y))) l = B at ih ⊢
    generalize List.countP (fun n => decide (n.ID < x) || (n.ID == x && decide (n.Since < y + 1))) l = C at ih ⊢
    obtain ⟨e1, e2⟩ := ha
    by_cases h1 : a.ID < x
    · have h2 : ¬ a.ID = x := by omega
      simp [h1, h2, e1, e2]; omega
    · by_cases h2 : a.ID = x
      · by_cases h3 : a.Since < y
        · have h4 : a.Since < y + 1 := by omega
          have h5 : ¬ a.Since = y := by omega
          simp [h1, h2, h3, h4, h5, e1, e2]; omega
        · by_cases h4 : a.Since = y
          · subst h4
            have h5 : a.Since < a.Since + 1 := by omega
            simp [h2, h5, e1, e2]; omega
          · have h5 : ¬ a.Since < y + 1 := by omega
            simp [h1, h2, h3, h4, h5, e1, e2]; omega
      · simp [h1, h2, e1, e2]; omega
theorem cntU_next (L : List Note) (x : Int) (h : ∀ n ∈ L, n.Since < 2) (h0 : ∀ n ∈ L, 0 ≤ n.Since) : cntU L x 2 = cntU L (x + 1) 0 := by
  unfold cntU
  apply List.countP_congr
  intro n hn
  have := h n hn; have := h0 n hn
  simp
  omega
theorem cntU_zero (L : List Note) (h : ∀ n ∈ L, 0 ≤ n.ID) (h0 : ∀ n ∈ L, 0 ≤ n.Since) : cntU L 0 0 = 0 := by
  unfold cntU
  rw [List.countP_eq_zero]
  intro n hn
  have := h n hn; have := h0 n hn
  simp
  omega
theorem cntU_all (L : List Note) (h : ∀ n ∈ L, n.ID < 4) : cntU L 4 0 = L.length := by
  unfold cntU
  rw [List.countP_eq_length]
  intro n hn
  have := h n hn
  simp
  omega
theorem ranN_split (id since lo c hi : Int) (h1 : lo ≤ c) (h2 : c ≤ hi) (L : List Note) : ranN id since lo c L + ranN id since c hi L = ranN id since lo hi L := by
  induction L with
  | nil => rfl
  | cons a l ih =>
    unfold ranN at ih ⊢
    simp only [List.countP_cons, ranOf]
    generalize List.countP (ranOf id since lo c) l = A at ih ⊢
    generalize List.countP (ranOf id since c hi) l = B at ih ⊢
    generalize List.countP (ranOf id since lo hi) l = C at ih ⊢
    by_cases h3 : a.ID = id
    · by_cases h4 : a.Since = since
      · by_cases h5 : lo ≤ a.At <;> by_cases h6 : a.At < hi <;> by_cases h7 : a.At < c <;> by_cases h8 : c ≤ a.At <;> simp [h3, h4, h5, h6, h7, h8] <;> omega
      · simp [h4]; omega
    · simp [h3]; omega

/-! ### regatta/regattalaw20.AuditPart -/
def law20AuditPartText (LL : List (List Int)) (t m : Int) : Prop := (∀ L' : List (T 2).α, ((L' = madeGo 0 (List.take 20 LL)) → (match (decide ((↑L'.length : Int) > 0)) with | true => (match ((↑L'.length : Int) != 0) with | true => (match ((↑L'.length : Int) != 0) with | true => (match (decide (L'.length ≤ 140737488355328)) with | true => (∀ m1 : Int, ((m1 = firstI auditLate1 L' 0) → (match (decide (L'.length ≤ 140737488355328)) with | true => (∀ m2 : Int, ((m2 = orderGo [] L' 0) → (match (decide (L'.length ≤ 140737488355328)) with | true => (∀ m3 : Int, ((m3 = slotsGo (IntKind.i64.wrap (1 + bits BinOp.and IntKind.i64 m 3)) none [] [] L' 0) → (match (slOk none (some ((IntKind.i64.wrap (t.tmod (↑L'.length : Int) + (↑L'.length : Int))).tmod (↑L'.length : Int))) none (↑L'.length : Int)) with | true => (match (decide ((cutL none (some ((IntKind.i64.wrap (t.tmod (↑L'.length : Int) + (↑L'.length : Int))).tmod (↑L'.length : Int))) L').length ≤ 140737488355328)) with | true => (∀ m4 : Int, ((m4 = firstI auditLate1 (cutL none (some ((IntKind.i64.wrap (t.tmod (↑L'.length : Int) + (↑L'.length : Int))).tmod (↑L'.length : Int))) L') 0) → (match (slOk none (some ((IntKind.i64.wrap (t.tmod (↑L'.length : Int) + (↑L'.length : Int))).tmod (↑L'.length : Int))) none (↑L'.length : Int)) with | true => (match (decide ((cutL none (some ((IntKind.i64.wrap (t.tmod (↑L'.length : Int) + (↑L'.length : Int))).tmod (↑L'.length : Int))) L').length ≤ 140737488355328)) with | true => (∀ m5 : Int, ((m5 = orderGo [] (cutL none (some ((IntKind.i64.wrap (t.tmod (↑L'.length : Int) + (↑L'.length : Int))).tmod (↑L'.length : Int))) L') 0) → (match (slOk none (some ((IntKind.i64.wrap (t.tmod (↑L'.length : Int) + (↑L'.length : Int))).tmod (↑L'.length : Int))) none (↑L'.length : Int)) with | true => (match (decide ((cutL none (some ((IntKind.i64.wrap (t.tmod (↑L'.length : Int) + (↑L'.length : Int))).tmod (↑L'.length : Int))) L').length ≤ 140737488355328)) with | true => (∀ m6 : Int, ((m6 = slotsGo (IntKind.i64.wrap (1 + bits BinOp.and IntKind.i64 m 3)) none [] [] (cutL none (some ((IntKind.i64.wrap (t.tmod (↑L'.length : Int) + (↑L'.length : Int))).tmod (↑L'.length : Int))) L') 0) → (match (law20Part m1 m4 ((IntKind.i64.wrap (t.tmod (↑L'.length : Int) + (↑L'.length : Int))).tmod (↑L'.length : Int))) with | true => (match (law20Part m2 m5 ((IntKind.i64.wrap (t.tmod (↑L'.length : Int) + (↑L'.length : Int))).tmod (↑L'.length : Int))) with | true => (((true = law20Part m3 m6 ((IntKind.i64.wrap (t.tmod (↑L'.length : Int) + (↑L'.length : Int))).tmod (↑L'.length : Int))) ∧ True) ∧ ((LL = LL) ∧ True)) | false => (((true = false) ∧ True) ∧ ((LL = LL) ∧ True))) | false => (((true = false) ∧ True) ∧ ((LL = LL) ∧ True))))) | false => False) | false => False))) | false => False) | false => False))) | false => False) | false => False))) | false => False))) | false => False))) | false => False) | false => False) | false => False) | false => (match (decide (L'.length ≤ 140737488355328)) with | true => (∀ m1 : Int, ((m1 = firstI auditLate1 L' 0) → (match (decide (L'.length ≤ 140737488355328)) with | true => (∀ m2 : Int, ((m2 = orderGo [] L' 0) → (match (decide (L'.length ≤ 140737488355328)) with | true => (∀ m3 : Int, ((m3 = slotsGo (IntKind.i64.wrap (1 + bits BinOp.and IntKind.i64 m 3)) none [] [] L' 0) → (∀ m4 : Int, ((m4 = firstI auditLate1 (cutL none (some 0) L') 0) → (∀ m5 : Int, ((m5 = orderGo [] (cutL none (some 0) L') 0) → (∀ m6 : Int, ((m6 = slotsGo (IntKind.i64.wrap (1 + bits BinOp.and IntKind.i64 m 3)) none [] [] (cutL none (some 0) L') 0) → (match (law20Part m1 m4 0) with | true => (match (law20Part m2 m5 0) with | true => (((true = law20Part m3 m6 0) ∧ True) ∧ ((LL = LL) ∧ True)) | false => (((true = false) ∧ True) ∧ ((LL = LL) ∧ True))) | false => (((true = false) ∧ True) ∧ ((LL = LL) ∧ True))))))))))) | false => False))) | false => False))) | false => False))))
theorem law20AuditPartVc (LL : List (List Int)) (t m : Int) : fnX { X6 with gen := true } (noAnn) Try.f3 [.own 0, .raw (.int .i64 t), .raw (.int .i64 m)] [.nest 0 LL] (ends [.nest 0 LL] ⟨some (.raw (.bool true)), []⟩) = law20AuditPartText LL t m := by kernel_rfl
theorem law20AuditPartHolds (LL : List (List Int)) (t m : Int) : law20AuditPartText LL t m := by
  unfold law20AuditPartText
  intro L hL
  have h20 : L.length ≤ 20 := by rw [hL, made_length]; simp; omega
  have hd : ∀ k, decide ((List.take k L).length ≤ 140737488355328) = true := fun k => decide_eq_true (by rw [List.length_take]; omega)
  have hd' : decide (L.length ≤ 140737488355328) = true := decide_eq_true (by omega)
  have P1 := fun k => part_ok (firstI_take auditLate1 L 0 k (by omega)).2
  have P2 := fun k => part_ok (orderGo_take L [] 0 k (by omega)).2
  have P3 := fun m k => part_ok (slotsGo_take m L none [] [] 0 k (by omega)).2
  by_cases h0 : L.length = 0
  · rw [show decide ((L.length : Int) > 0) = false from decide_eq_false (by omega), hd']
    rintro m1 rfl m2 rfl m3 rfl m4 rfl m5 rfl m6 rfl
    have e : cutL none (some 0) L = L.take 0 := by simp [cutL]
    rw [e]
    have q1 : law20Part _ _ (0 : Int) = true := P1 0
    have q2 : law20Part _ _ (0 : Int) = true := P2 0
    have q3 : law20Part _ _ (0 : Int) = true := P3 (IntKind.i64.wrap (1 + bits BinOp.and IntKind.i64 m 3)) 0
    rw [q1, q2, q3]
    exact ⟨⟨rfl, trivial⟩, rfl, trivial⟩
  · have hw : IntKind.i64.wrap (t.tmod (L.length : Int) + (L.length : Int)) = t.tmod (L.length : Int) + (L.length : Int) := by
      have := Int.tmod_lt_of_pos t (b := (L.length : Int)) (by omega)
      have := Int.lt_tmod_of_pos t (b := (L.length : Int)) (by omega)
      exact wrap_id (by omega) (by omega)
    obtain ⟨k, hk, hk2⟩ : ∃ k : Nat, (IntKind.i64.wrap (t.tmod (L.length : Int) + (L.length : Int))).tmod (L.length : Int) = k ∧ k < L.length := by
      rw [hw]
      have := Int.lt_tmod_of_pos t (b := (L.length : Int)) (by omega)
      have h1 := Int.tmod_nonneg (L.length : Int) (a := t.tmod (L.length : Int) + (L.length : Int)) (by omega)
      have h2 := Int.tmod_lt_of_pos (t.tmod (L.length : Int) + (L.length : Int)) (b := (L.length : Int)) (by omega)
      exact ⟨_, (Int.toNat_of_nonneg h1).symm, by omega⟩
    rw [hk]
    have e : cutL none (some (k : Int)) L = L.take k := by simp [cutL, optB]
    have e2 : slOk none (some (k : Int)) none (L.length : Int) = true := by simp [slOk, optB]; omega
    rw [e, e2, hd', hd k, show decide ((L.length : Int) > 0) = true from decide_eq_true (by omega), show ((L.length : Int) != 0) = true by rw [bne_iff_ne]; omega]
    rintro m1 rfl m2 rfl m3 rfl m4 rfl m5 rfl m6 rfl
    rw [P1 k, P2 k, P3 _ k]
    exact ⟨⟨rfl, trivial⟩, rfl, trivial⟩
noncomputable def law20AuditPartCon : Con T O := fun args cs => match args, cs with
  | [.own 0, .raw (.int .i64 _), .raw (.int .i64 _)], [.nest 0 _] => .ret ⟨some (.raw (.bool true)), []⟩
  | _, _ => .fail
theorem law20AuditPartOk : ConOk R Try.prog 3 law20AuditPartCon := con_of_fn R ({ X6 with gen := true }) (TabOk.con R X6Ok) mixed Try.call3 Try.func3 law20AuditPartCon (by
  intro args cs K h
  unfold law20AuditPartCon at h
  split at h
  · rename_i t m LL
    refine ⟨noAnn, _, fun v S hv => ⟨_, h, hv⟩, ?_⟩
    rw [law20AuditPartVc LL t m]
    exact law20AuditPartHolds LL t m
  · exact h.elim)
/-! ### regatta/regattalaw20.AuditSums -/
def law20AuditSumsText (LL : List (List Int)) (t : Int) : Prop := ((∃ x : Nat, ((x.le 4) ∧ ((True ∧ ((true = true) ∧ (True ∧ (((↑(cntU (madeGo 0 (List.take 20 LL)) (↑x : Int) 0) : Int) = 0) ∧ ((bits BinOp.and IntKind.i64 t 31 = bits BinOp.and IntKind.i64 t 31) ∧ (((↑x : Int) = 0) ∧ True)))))) ∧ ((LL = LL) ∧ ((madeGo 0 (List.take 20 LL) = madeGo 0 (List.take 20 LL)) ∧ True))))) ∧ (∀ x : Nat, ((x.le 4) → (match (decide ((↑x : Int) < 4)) with | true => ((∃ x1 : Nat, ((x1.le 2) ∧ ((True ∧ ((true = true) ∧ (True ∧ (((↑(cntU (madeGo 0 (List.take 20 LL)) (↑x : Int) (↑x1 : Int)) : Int) = (↑(cntU (madeGo 0 (List.take 20 LL)) (↑x : Int) 0) : Int)) ∧ ((bits BinOp.and IntKind.i64 t 31 = bits BinOp.and IntKind.i64 t 31) ∧ (((↑x : Int) = (↑x : Int)) ∧ (((↑x1 : Int) = 0) ∧ True))))))) ∧ ((LL = LL) ∧ ((madeGo 0 (List.take 20 LL) = madeGo 0 (List.take 20 LL)) ∧ True))))) ∧ (∀ x1 : Nat, ((x1.le 2) → (match (decide ((↑x1 : Int) < 2)) with | true => (match (decide ((madeGo 0 (List.take 20 LL)).length ≤ 140737488355328)) with | true => (match (decide ((madeGo 0 (List.take 20 LL)).length ≤ 140737488355328)) with | true => (match (decide ((madeGo 0 (List.take 20 LL)).length ≤ 140737488355328)) with | true => (match (IntKind.i64.wrap ((↑(ranN (↑x : Int) (↑x1 : Int) 0 (bits BinOp.and IntKind.i64 t 31) (madeGo 0 (List.take 20 LL))) : Int) + (↑(ranN (↑x : Int) (↑x1 : Int) (bits BinOp.and IntKind.i64 t 31) 99 (madeGo 0 (List.take 20 LL))) : Int)) != (↑(ranN (↑x : Int) (↑x1 : Int) 0 99 (madeGo 0 (List.take 20 LL))) : Int)) with | true => (((true = false) ∧ True) ∧ ((LL = LL) ∧ True)) | false => (∃ x' : Nat, ((x'.le 2) ∧ ((2 - x' < 2 - x1) ∧ ((True ∧ ((true = true) ∧ (True ∧ (((↑(cntU (madeGo 0 (List.take 20 LL)) (↑x : Int) (↑x' : Int)) : Int) = IntKind.i64.wrap ((↑(cntU (madeGo 0 (List.take 20 LL)) (↑x : Int) (↑x1 : Int)) : Int) + (↑(ranN (↑x : Int) (↑x1 : Int) 0 99 (madeGo 0 (List.take 20 LL))) : Int))) ∧ ((bits BinOp.and IntKind.i64 t 31 = bits BinOp.and IntKind.i64 t 31) ∧ (((↑x : Int) = (↑x : Int)) ∧ (((↑x' : Int) = IntKind.i64.wrap ((↑x1 : Int) + 1)) ∧ True))))))) ∧ ((LL = LL) ∧ ((madeGo 0 (List.take 20 LL) = madeGo 0 (List.take 20 LL)) ∧ True))))))) | false => False) | false => False) | false => False) | false => (∃ x' : Nat, ((x'.le 4) ∧ ((4 - x' < 4 - x) ∧ ((True ∧ ((true = true) ∧ (True ∧ (((↑(cntU (madeGo 0 (List.take 20 LL)) (↑x' : Int) 0) : Int) = (↑(cntU (madeGo 0 (List.take 20 LL)) (↑x : Int) (↑x1 : Int)) : Int)) ∧ ((bits BinOp.and IntKind.i64 t 31 = bits BinOp.and IntKind.i64 t 31) ∧ (((↑x' : Int) = IntKind.i64.wrap ((↑x : Int) + 1)) ∧ True)))))) ∧ ((LL = LL) ∧ ((madeGo 0 (List.take 20 LL) = madeGo 0 (List.take 20 LL)) ∧ True)))))))))) | false => (((true = ((↑(cntU (madeGo 0 (List.take 20 LL)) (↑x : Int) 0) : Int) == (↑(madeGo 0 (List.take 20 LL)).length : Int))) ∧ True) ∧ ((LL = LL) ∧ True))))))
theorem law20AuditSumsVc (LL : List (List Int)) (t : Int) : fnX X6 (annOf [(6, { σ := Nat, st := fun S x => ((S.keep [0, 5, 6, 8]).int 7 (cntU (madeGo 0 (LL.take 20)) x 0)).int 9 x, inv := fun _ x => x ≤ 4, m := fun x => 4 - x }),
  (9, { σ := Nat, st := fun S y => ((S.keep [0, 5, 6, 8, 9]).int 7 (cntU (madeGo 0 (LL.take 20)) (S.gi 9) y)).int 10 y, inv := fun _ y => y ≤ 2, m := fun y => 2 - y })] []) Try.f5 [.own 0, .raw (.int .i64 t)] [.nest 0 LL] (ends [.nest 0 LL] ⟨some (.raw (.bool true)), []⟩) = law20AuditSumsText LL t := by kernel_rfl
theorem law20AuditSumsHolds (LL : List (List Int)) (t : Int) : law20AuditSumsText LL t := by
  unfold law20AuditSumsText
  have h20 : (madeGo 0 (LL.take 20)).length ≤ 20 := by rw [made_length, List.length_take]; omega
  have hin := made_in (LL.take 20) 0 (by omega) (by rw [List.length_take]; omega)
  generalize madeGo 0 (LL.take 20) = L at h20 hin ⊢
  have hd' : decide (L.length ≤ 140737488355328) = true := decide_eq_true (by omega)
  have hc : bits .and .i64 t 31 = t % 32 := mask_nat 5 (by omega) t
  rw [hc]
  have hcu : ∀ x y, cntU L x y ≤ 20 := fun x y => Nat.le_trans List.countP_le_length h20
  have hra : ∀ a b c d, ranN a b c d L ≤ 20 := fun a b c d => Nat.le_trans List.countP_le_length h20
  refine ⟨⟨0, Nat.zero_le _, ⟨trivial, rfl, trivial, ?_, rfl, rfl, trivial⟩, rfl, rfl, trivial⟩, ?_⟩
  · have := cntU_zero L (fun n hn => (hin n hn).1) (fun n hn => (hin n hn).2.2.1)
    show ((cntU L 0 0 : Nat) : Int) = 0
    omega
  intro x hx
  have hx : x ≤ 4 := hx
  by_cases h : x < 4
  · rw [show decide ((x : Int) < 4) = true from decide_eq_true (by omega)]
    refine ⟨⟨0, Nat.zero_le _, ⟨trivial, rfl, trivial, rfl, rfl, rfl, rfl, trivial⟩, rfl, rfl, trivial⟩, ?_⟩
    intro y hy
    have hy : y ≤ 2 := hy
    by_cases g : y < 2
    · have sp := ranN_split x y 0 (t % 32) 99 (by omega) (by omega) L
      have st := cntU_step L x y fun n hn => (hin n hn).2.2.2.2
      have r1 := hra x y 0 99
      have c1 := hcu x y
      have w1 : IntKind.i64.wrap ((ranN x y 0 (t % 32) L : Int) + (ranN x y (t % 32) 99 L : Int)) = (ranN x y 0 99 L : Int) := by
        rw [wrap_id (by omega) (by omega)]
        omega
      have w2 : ((ranN x y 0 99 L : Int) != (ranN x y 0 99 L : Int)) = false := by simp
      have w3 : IntKind.i64.wrap ((cntU L x y : Int) + (ranN x y 0 99 L : Int)) = (cntU L x (y + 1) : Int) := by
        rw [wrap_id (by omega) (by omega)]
        omega
      rw [show decide ((y : Int) < 2) = true from decide_eq_true (by omega), hd', w1, w2]
      exact ⟨y + 1, g, by omega, ⟨trivial, rfl, trivial, w3.symm, rfl, rfl, (wrap_succ g (by omega)).symm, trivial⟩, rfl, rfl, trivial⟩
    · have e : y = 2 := by omega
      subst e
      have nx := cntU_next L x (fun n hn => (hin n hn).2.2.2.1) (fun n hn => (hin n hn).2.2.1)
      refine ⟨x + 1, h, by omega, ⟨trivial, rfl, trivial, ?_, rfl, (wrap_succ h (by omega)).symm, trivial⟩, rfl, rfl, trivial⟩
      show ((cntU L (x + 1) 0 : Nat) : Int) = ((cntU L x 2 : Nat) : Int)
      rw [nx]
  · have e : x = 4 := by omega
    subst e
    have al := cntU_all L fun n hn => (hin n hn).2.1
    refine ⟨⟨?_, trivial⟩, rfl, trivial⟩
    show true = (((cntU L 4 0 : Nat) : Int) == (L.length : Int))
    rw [al]
    simp
noncomputable def law20AuditSumsCon : Con T O := fun args cs => match args, cs with
  | [.own 0, .raw (.int .i64 _)], [.nest 0 _] => .ret ⟨some (.raw (.bool true)), []⟩
  | _, _ => .fail
theorem law20AuditSumsOk : ConOk R Try.prog 5 law20AuditSumsCon := con_of_fn R (X6) (TabOk.con R X6Ok) mixed Try.call5 Try.func5 law20AuditSumsCon (by
  intro args cs K h
  unfold law20AuditSumsCon at h
  split at h
  · rename_i t LL
    refine ⟨annOf [(6, { σ := Nat, st := fun S x => ((S.keep [0, 5, 6, 8]).int 7 (cntU (madeGo 0 (LL.take 20)) x 0)).int 9 x, inv := fun _ x => x ≤ 4, m := fun x => 4 - x }),
  (9, { σ := Nat, st := fun S y => ((S.keep [0, 5, 6, 8, 9]).int 7 (cntU (madeGo 0 (LL.take 20)) (S.gi 9) y)).int 10 y, inv := fun _ y => y ≤ 2, m := fun y => 2 - y })] [], _, fun v S hv => ⟨_, h, hv⟩, ?_⟩
    rw [law20AuditSumsVc LL t]
    exact law20AuditSumsHolds LL t
  · exact h.elim)
noncomputable def tab7 : Tab T O := (3, law20AuditPartCon) :: (5, law20AuditSumsCon) :: tab6
theorem tabOk7 : TabOk R Try.prog tab7 := TabOk.cons R law20AuditPartOk <| TabOk.cons R law20AuditSumsOk <| tabOk6
noncomputable def X7 : Ctx T O := { X0 with con := conOf tab7 }
theorem X7Ok : TabOk R X7.P tab7 := tabOk7
end Go.Proofs.Ytkcnocigkblbiaa
