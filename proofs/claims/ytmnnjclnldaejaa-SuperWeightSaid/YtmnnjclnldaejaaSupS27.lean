/-
  Part of a proof over the seat Ytmnnjclnldaejaa: printed by a small program or typed by hand.
-/
import Derived.Test.YtmnnjclnldaejaaSupS26
import Derived.KernelRfl
namespace Go.Proofs.Ytmnnjclnldaejaa
open Go.Sx Go.Proofs Classical
theorem minG_mem : ∀ (l : List Int) (m : Int), minG m l = m ∨ minG m l ∈ l
  | [], _ => .inl rfl
  | a :: l, m => by
    rcases minG_mem l (min m a) with h | h
    · rcases Int.le_total m a with g | g
      · left; show minG (min m a) l = m; rw [h]; omega
      · right; show minG (min m a) l ∈ a :: l; rw [h, show min m a = a by omega]; exact List.mem_cons_self ..
    · right; exact List.mem_cons_of_mem _ h
theorem leastP_mem {L : List Part} (h : PartsOk L) : ∃ a ∈ L, leastP L = a.P := by
  have hl := h.1.1
  cases L with
  | nil => simp at hl
  | cons q l =>
    rcases minG_mem (l.map Part.P) q.P with e | e
    · exact ⟨q, List.mem_cons_self .., e⟩
    · obtain ⟨a, ha, hb⟩ := List.mem_map.1 e
      exact ⟨a, List.mem_cons_of_mem _ ha, hb.symm⟩
theorem use14_eq {M : List Part} (h : PartsOk M) : use14 M = plusSum (M.map asW) := by
  unfold use14
  rw [checkL_iff.2 h]
  rfl
theorem quota14 {M : List Part} (h : PartsOk M) : decide (cmpQ (use14 M) (1, 1) > 0) = quotaQ M := by
  obtain ⟨p, h1, h2⟩ := common M fun a ha => by have := h.2 a ha; omega
  obtain ⟨t, _, s1, s2⟩ := h.share2 h2
  unfold quotaQ
  rw [use14_eq h, cmp_shares h1 s1 isShare.whole, cmp_shares h1 s2 isShare.whole]
theorem weight_cases {M : List Part} (h : PartsOk M) : (weightR M).2 = 16 ∨ ((weightR M).2 = 18 ∧ quotaQ M = true) ∨
    ∃ p t : Nat, 0 < p ∧ p ≤ 1048576 ∧ isShare (use14 M) p t ∧ t ≤ p ∧ quotaQ M = false ∧ leastP M ∣ (p : Int) ∧ sumEP p M = t ∧ (∀ a ∈ M, a.P ∣ (p : Int)) ∧ weightR M = (⟨min ((t : Int) + p / leastP M) p, p⟩, 0) := by
  unfold weightR
  rw [checkL_iff.2 h, cond_true]
  cases hg : lcmG 1 (M.map Part.P) with
  | none => exact .inl rfl
  | some p =>
    dsimp only
    have hp := lcmG_pos _ _ _ (by decide) h.p hg
    obtain ⟨_, hd⟩ := lcmG_dvd _ _ _ (by decide) h.p hg
    by_cases hb : p > 1048576
    · rw [decide_eq_true hb]; exact .inl rfl
    · rw [decide_eq_false hb, cond_false]
      by_cases hq : quotaQ M = true
      · rw [hq]; exact .inr (.inl ⟨rfl, rfl⟩)
      · have hq : quotaQ M = false := by simpa using hq
        have hs := quota_same h hg
        rw [hq] at hs
        obtain ⟨n, rfl⟩ := Int.eq_ofNat_of_zero_le (show 0 ≤ p by omega)
        have hd2 : ∀ a ∈ M, a.P ∣ (n : Int) := fun a ha => hd _ (List.mem_map_of_mem ha)
        obtain ⟨t, e, _, s2⟩ := h.share2 hd2
        obtain ⟨a, ha, hl⟩ := leastP_mem h
        have hs := of_decide_eq_false hs.symm
        rw [e] at hs
        rw [hq, cond_false, e]
        exact .inr (.inr ⟨n, t, by omega, by omega, by rw [use14_eq h]; exact s2, by omega, rfl, by rw [hl]; exact hd2 a ha, e, hd2, rfl⟩)
theorem leastP_le {M : List Part} (h : PartsOk M) : 1 ≤ leastP M ∧ leastP M ≤ 1048576 := by
  obtain ⟨a, ha, e⟩ := leastP_mem h
  have := h.2 a ha
  rw [e]
  omega
theorem want_ok {M : List Part} (h : PartsOk M) : isR (lim (plusQ (use14 M) (1, (leastP M).toNat)).1) (lim (plusQ (use14 M) (1, (leastP M).toNat)).2) ∧ small (lim (plusQ (use14 M) (1, (leastP M).toNat)).1) ∧ small (lim (plusQ (use14 M) (1, (leastP M).toNat)).2) := by
  have e : plusQ (use14 M) (1, (leastP M).toNat) = plusSum (M.map asW ++ [⟨1, leastP M⟩]) := by
    rw [plusSum_snoc, use14_eq h]
    rfl
  have hl := leastP_le h
  rw [e]
  refine plusSum_ok (fun w hw => ?_) (by rw [List.length_append, List.length_map]; have := h.1.2; simp; omega)
  rcases List.mem_append.1 hw with hw | hw
  · exact h.w w hw
  · rw [List.mem_singleton.1 hw]
    exact ⟨Int.le_refl 1, hl.1, hl.2⟩
/-- the weight is as told -/
theorem weight_told {M : List Part} (h : PartsOk M) (h0 : (weightR M).2 = 0) :
    okP (weightR M).1.E (weightR M).1.P = true ∧ (1 ≤ (weightR M).1.E ∧ (weightR M).1.E ≤ (weightR M).1.P ∧ (weightR M).1.P ≤ 1048576) ∧
    (cmpQ (plusQ (use14 M) (1, (leastP M).toNat)) (1, 1) > 0 → cmpQ ((weightR M).1.E.toNat, (weightR M).1.P.toNat) (1, 1) = 0) ∧
    (¬ cmpQ (plusQ (use14 M) (1, (leastP M).toNat)) (1, 1) > 0 → cmpQ ((weightR M).1.E.toNat, (weightR M).1.P.toNat) (plusQ (use14 M) (1, (leastP M).toNat)) = 0) := by
  rcases weight_cases h with g | ⟨g, _⟩ | ⟨p, t, p0, p1, hs, htp, _, hd, _, _, e⟩
  · rw [h0] at g; cases g
  · rw [h0] at g; cases g
  obtain ⟨l1, l2⟩ := leastP_le h
  rw [e]
  dsimp only
  obtain ⟨m, hm⟩ := Int.eq_ofNat_of_zero_le (show 0 ≤ leastP M by omega)
  rw [hm] at hd l1 l2 ⊢
  have hd' : m ∣ p := Int.natCast_dvd_natCast.1 hd
  have hmp : m ≤ p := Nat.le_of_dvd p0 hd'
  have hq : 1 ≤ p / m := (Nat.le_div_iff_mul_le (by omega)).2 (by omega)
  have hw := hs.plus (e := 1) (c := m) (by omega) hd'
  rw [Nat.one_mul] at hw
  have hE : min ((t : Int) + (p : Int) / (m : Int)) (p : Int) = ((min (t + p / m) p : Nat) : Int) := by
    rw [← Int.natCast_ediv]
    omega
  rw [hE, Int.toNat_natCast, Int.toNat_natCast, Int.toNat_natCast]
  have hme : isShare (min (t + p / m) p, p) p (min (t + p / m) p) := ⟨p0, Nat.mul_comm ..⟩
  have b1 : 1 ≤ ((min (t + p / m) p : Nat) : Int) ∧ ((min (t + p / m) p : Nat) : Int) ≤ (p : Int) ∧ (p : Int) ≤ 1048576 := by omega
  refine ⟨okP_iff.2 b1, b1, ?_, ?_⟩
  · intro g
    rw [cmp_shares p0 hw isShare.whole] at g
    have g := cmpN_pos.1 g
    rw [cmp_shares p0 hme isShare.whole, show min (t + p / m) p = p by omega, cmpN_eq]
  · intro g
    rw [cmp_shares p0 hw isShare.whole] at g
    have g : ¬ p < t + p / m := fun k => g (cmpN_pos.2 k)
    rw [cmp_shares p0 hme hw, show min (t + p / m) p = t + p / m by omega, cmpN_eq]


/-- the least period so far, of parts by numbers -/
structure leastI (M : List Part) (m : Int) (x : Nat) : Prop where
  lo : 1 ≤ x
  le : x ≤ M.length
  least : leastP M = minG m ((M.drop x).map Part.P)
theorem leastI.init {M : List Part} (h : 1 ≤ M.length) : leastI M (at' partE.zero M 0).P 1 := by
  cases M with
  | nil => simp at h
  | cons q l => exact ⟨Nat.le_refl _, h, rfl⟩
theorem leastI.step {M : List Part} {m : Int} {x : Nat} (h : leastI M m x) (hx : x < M.length) : leastI M (min m M[x].P) (x + 1) := by
  have a4 := h.least
  rw [List.drop_eq_getElem_cons hx] at a4
  exact ⟨by omega, hx, a4⟩
theorem one_one : isR (lim 1) (lim 1) ∧ small (lim 1) ∧ qv (lim 1) (lim 1) = (1, 1) := by
  have l1 : (lim 1).length ≤ 1 := lim_lt (k := 1) (by decide)
  exact ⟨⟨isN_lim _, isN_lim _, by rw [nv_lim]; decide⟩, Nat.le_trans l1 (by decide), qv_lim (1, 1)⟩
theorem little {n : Int} (h : n ≤ 1048576) : small (lim n.toNat) := Nat.le_trans (lim_lt (k := 1) (by show _ < 4294967296 ^ 1; omega)) (by decide)

/-! ### regatta/regattalaw14.SuperTells -/
def superTellsText (A : List Pair) (B : List Part) : Prop := (match (decide ((↑B.length : Int) > (9 : Int))) with | true => (match (slOk none (some (9 : Int)) none (↑B.length : Int)) with | true => (match (decide ((madeL A).length ≤ (100000 : Nat))) with | true => (match (decide ((cutL none (some (9 : Int)) B).length ≤ (100000 : Nat))) with | true => (((true = true) ∧ True) ∧ ((A = A) ∧ ((B = B) ∧ True))) | false => False) | false => False) | false => False) | false => (match (decide ((madeL A).length ≤ (100000 : Nat))) with | true => (match (decide (B.length ≤ (100000 : Nat))) with | true => (((true = true) ∧ True) ∧ ((A = A) ∧ ((B = B) ∧ True))) | false => False) | false => False))
theorem superTellsVc (A : List Pair) (B : List Part) : fnX X26 (noAnn) Try.f3 [.own 0, .own 1] [.ro 6 A, .ro 3 B] (ends [.ro 6 A, .ro 3 B] ⟨some (.raw (.bool true)), []⟩) = superTellsText A B := by kernel_rfl
theorem superTellsHolds (A : List Pair) (B : List Part) : superTellsText A B := by
  unfold superTellsText
  have hm := madeL_length A
  rw [decide_eq_true (show (madeL A).length ≤ 100000 by omega)]
  by_cases h : (B.length : Int) > 9
  · rw [decide_eq_true h, show slOk none (some 9) none (B.length : Int) = true from slOk_cut (k := 9) (by omega), decide_eq_true (show (cutL none (some 9) B).length ≤ 100000 by show (B.take 9).length ≤ 100000; rw [List.length_take]; omega)]
    repeat' first | trivial | rfl | apply And.intro
  · rw [decide_eq_false h, decide_eq_true (show B.length ≤ 100000 by omega)]
    repeat' first | trivial | rfl | apply And.intro
noncomputable def superTellsCon : Con T O := fun args cs => match args, cs with
  | [.own 0, .own 1], [.ro 6 _, .ro 3 _] => .ret ⟨some (.raw (.bool true)), []⟩
  | _, _ => .fail
theorem superTellsOk : ConOk R Try.prog 3 superTellsCon := con_of_fn R (X26) (TabOk.con R X26Ok) mixed Try.call3 Try.func3 superTellsCon (by
  intro args cs K h
  unfold superTellsCon at h
  split at h
  · rename_i A B
    refine ⟨noAnn, _, fun v S hv => ⟨_, h, hv⟩, ?_⟩
    rw [superTellsVc A B]
    exact superTellsHolds A B
  · exact h.elim)
/-! ### regatta/regattalaw14.SuperWeight -/
def superWeightText (A : List Pair) : Prop := (match (decide ((madeL A).length ≤ (100000 : Nat))) with | true => (match ((↑(madeL A).length : Int) == (0 : Int)) with | true => (((true = ((weightR (madeL A)).snd == (1 : Int))) ∧ True) ∧ ((A = A) ∧ True)) | false => (match (decide ((madeL A).length ≤ (100000 : Nat))) with | true => (match (decide (isR (lim (use14 (madeL A)).fst) (lim (use14 (madeL A)).snd) ∧ isR (lim (Int.toNat (1 : Int))) (lim (Int.toNat (1 : Int))) ∧ small (lim (use14 (madeL A)).fst) ∧ small (lim (use14 (madeL A)).snd) ∧ small (lim (Int.toNat (1 : Int))) ∧ small (lim (Int.toNat (1 : Int))))) with | true => (match (decide (cmpQ (qv (lim (use14 (madeL A)).fst) (lim (use14 (madeL A)).snd)) (qv (lim (Int.toNat (1 : Int))) (lim (Int.toNat (1 : Int)))) > (0 : Int))) with | true => (((true = ((weightR (madeL A)).snd != (0 : Int))) ∧ True) ∧ ((A = A) ∧ True)) | false => (match ((weightR (madeL A)).snd != (0 : Int)) with | true => (((true = ((weightR (madeL A)).snd == (16 : Int))) ∧ True) ∧ ((A = A) ∧ True)) | false => (match (inb (0 : Int) (madeL A).length) with | true => (match (inb (0 : Int) (madeL A).length) with | true => ((∃ x : Int × Nat, ((leastI (madeL A) x.fst x.snd) ∧ ((True ∧ ((false = false) ∧ ((true = true) ∧ (True ∧ (True ∧ (((weightR (madeL A)).snd = (weightR (madeL A)).snd) ∧ (True ∧ (True ∧ ((x.fst = (at' partE.zero (madeL A) (0 : Int)).P) ∧ (((↑x.snd : Int) = (1 : Int)) ∧ True)))))))))) ∧ ((A = A) ∧ ((madeL A = madeL A) ∧ ((((weightR (madeL A)).fst.E = (weightR (madeL A)).fst.E) ∧ (((weightR (madeL A)).fst.P = (weightR (madeL A)).fst.P) ∧ True)) ∧ ((lim (use14 (madeL A)).fst = lim (use14 (madeL A)).fst) ∧ ((lim (use14 (madeL A)).snd = lim (use14 (madeL A)).snd) ∧ ((True ∧ (True ∧ True)) ∧ ((lim (Int.toNat (1 : Int)) = lim (Int.toNat (1 : Int))) ∧ ((lim (Int.toNat (1 : Int)) = lim (Int.toNat (1 : Int))) ∧ ((True ∧ (True ∧ True)) ∧ True)))))))))))) ∧ (∀ x : Int × Nat, ((leastI (madeL A) x.fst x.snd) → (match (decide ((↑x.snd : Int) < (↑(madeL A).length : Int))) with | true => (match (inb (↑x.snd : Int) (madeL A).length) with | true => (match (inb (↑x.snd : Int) (madeL A).length) with | true => (match (decide ((at' partE.zero (madeL A) (↑x.snd : Int)).P < x.fst)) with | true => (match (inb (↑x.snd : Int) (madeL A).length) with | true => (match (inb (↑x.snd : Int) (madeL A).length) with | true => (∃ x' : Int × Nat, ((leastI (madeL A) x'.fst x'.snd) ∧ (((madeL A).length - x'.snd < (madeL A).length - x.snd) ∧ ((True ∧ ((false = false) ∧ ((true = true) ∧ (True ∧ (True ∧ (((weightR (madeL A)).snd = (weightR (madeL A)).snd) ∧ (True ∧ (True ∧ ((x'.fst = (at' partE.zero (madeL A) (↑x.snd : Int)).P) ∧ (((↑x'.snd : Int) = IntKind.i64.wrap ((↑x.snd : Int) + (1 : Int))) ∧ True)))))))))) ∧ ((A = A) ∧ ((madeL A = madeL A) ∧ ((((weightR (madeL A)).fst.E = (weightR (madeL A)).fst.E) ∧ (((weightR (madeL A)).fst.P = (weightR (madeL A)).fst.P) ∧ True)) ∧ ((lim (use14 (madeL A)).fst = lim (use14 (madeL A)).fst) ∧ ((lim (use14 (madeL A)).snd = lim (use14 (madeL A)).snd) ∧ ((True ∧ (True ∧ True)) ∧ ((lim (Int.toNat (1 : Int)) = lim (Int.toNat (1 : Int))) ∧ ((lim (Int.toNat (1 : Int)) = lim (Int.toNat (1 : Int))) ∧ ((True ∧ (True ∧ True)) ∧ True))))))))))))) | false => False) | false => False) | false => (∃ x' : Int × Nat, ((leastI (madeL A) x'.fst x'.snd) ∧ (((madeL A).length - x'.snd < (madeL A).length - x.snd) ∧ ((True ∧ ((false = false) ∧ ((true = true) ∧ (True ∧ (True ∧ (((weightR (madeL A)).snd = (weightR (madeL A)).snd) ∧ (True ∧ (True ∧ ((x'.fst = x.fst) ∧ (((↑x'.snd : Int) = IntKind.i64.wrap ((↑x.snd : Int) + (1 : Int))) ∧ True)))))))))) ∧ ((A = A) ∧ ((madeL A = madeL A) ∧ ((((weightR (madeL A)).fst.E = (weightR (madeL A)).fst.E) ∧ (((weightR (madeL A)).fst.P = (weightR (madeL A)).fst.P) ∧ True)) ∧ ((lim (use14 (madeL A)).fst = lim (use14 (madeL A)).fst) ∧ ((lim (use14 (madeL A)).snd = lim (use14 (madeL A)).snd) ∧ ((True ∧ (True ∧ True)) ∧ ((lim (Int.toNat (1 : Int)) = lim (Int.toNat (1 : Int))) ∧ ((lim (Int.toNat (1 : Int)) = lim (Int.toNat (1 : Int))) ∧ ((True ∧ (True ∧ True)) ∧ True)))))))))))))) | false => False) | false => False) | false => (match (decide ((0 : Int) ≤ (1 : Int) ∧ (1 : Int) < (9223372036854775808 : Int) ∧ (0 : Int) ≤ x.fst ∧ x.fst < (9223372036854775808 : Int))) with | true => (match (decide (isR (lim (use14 (madeL A)).fst) (lim (use14 (madeL A)).snd) ∧ isR (lim (Int.toNat (1 : Int))) (lim x.fst.toNat) ∧ small (lim (use14 (madeL A)).fst) ∧ small (lim (use14 (madeL A)).snd) ∧ small (lim (Int.toNat (1 : Int))) ∧ small (lim x.fst.toNat))) with | true => (match (decide (isR (lim (plusQ (qv (lim (use14 (madeL A)).fst) (lim (use14 (madeL A)).snd)) (qv (lim (Int.toNat (1 : Int))) (lim x.fst.toNat))).fst) (lim (plusQ (qv (lim (use14 (madeL A)).fst) (lim (use14 (madeL A)).snd)) (qv (lim (Int.toNat (1 : Int))) (lim x.fst.toNat))).snd) ∧ isR (lim (Int.toNat (1 : Int))) (lim (Int.toNat (1 : Int))) ∧ small (lim (plusQ (qv (lim (use14 (madeL A)).fst) (lim (use14 (madeL A)).snd)) (qv (lim (Int.toNat (1 : Int))) (lim x.fst.toNat))).fst) ∧ small (lim (plusQ (qv (lim (use14 (madeL A)).fst) (lim (use14 (madeL A)).snd)) (qv (lim (Int.toNat (1 : Int))) (lim x.fst.toNat))).snd) ∧ small (lim (Int.toNat (1 : Int))) ∧ small (lim (Int.toNat (1 : Int))))) with | true => (match (decide (cmpQ (qv (lim (plusQ (qv (lim (use14 (madeL A)).fst) (lim (use14 (madeL A)).snd)) (qv (lim (Int.toNat (1 : Int))) (lim x.fst.toNat))).fst) (lim (plusQ (qv (lim (use14 (madeL A)).fst) (lim (use14 (madeL A)).snd)) (qv (lim (Int.toNat (1 : Int))) (lim x.fst.toNat))).snd)) (qv (lim (Int.toNat (1 : Int))) (lim (Int.toNat (1 : Int)))) > (0 : Int))) with | true => (match (okP (weightR (madeL A)).fst.E (weightR (madeL A)).fst.P) with | true => (match (decide ((0 : Int) ≤ (weightR (madeL A)).fst.E ∧ (weightR (madeL A)).fst.E < (9223372036854775808 : Int) ∧ (0 : Int) ≤ (weightR (madeL A)).fst.P ∧ (weightR (madeL A)).fst.P < (9223372036854775808 : Int))) with | true => (match (decide (isR (lim (weightR (madeL A)).fst.E.toNat) (lim (weightR (madeL A)).fst.P.toNat) ∧ isR (lim (Int.toNat (1 : Int))) (lim (Int.toNat (1 : Int))) ∧ small (lim (weightR (madeL A)).fst.E.toNat) ∧ small (lim (weightR (madeL A)).fst.P.toNat) ∧ small (lim (Int.toNat (1 : Int))) ∧ small (lim (Int.toNat (1 : Int))))) with | true => (((true = (cmpQ (qv (lim (weightR (madeL A)).fst.E.toNat) (lim (weightR (madeL A)).fst.P.toNat)) (qv (lim (Int.toNat (1 : Int))) (lim (Int.toNat (1 : Int)))) == (0 : Int))) ∧ True) ∧ ((A = A) ∧ True)) | false => False) | false => False) | false => (((true = false) ∧ True) ∧ ((A = A) ∧ True))) | false => (match (okP (weightR (madeL A)).fst.E (weightR (madeL A)).fst.P) with | true => (match (decide ((0 : Int) ≤ (weightR (madeL A)).fst.E ∧ (weightR (madeL A)).fst.E < (9223372036854775808 : Int) ∧ (0 : Int) ≤ (weightR (madeL A)).fst.P ∧ (weightR (madeL A)).fst.P < (9223372036854775808 : Int))) with | true => (match (decide (isR (lim (weightR (madeL A)).fst.E.toNat) (lim (weightR (madeL A)).fst.P.toNat) ∧ isR (lim (plusQ (qv (lim (use14 (madeL A)).fst) (lim (use14 (madeL A)).snd)) (qv (lim (Int.toNat (1 : Int))) (lim x.fst.toNat))).fst) (lim (plusQ (qv (lim (use14 (madeL A)).fst) (lim (use14 (madeL A)).snd)) (qv (lim (Int.toNat (1 : Int))) (lim x.fst.toNat))).snd) ∧ small (lim (weightR (madeL A)).fst.E.toNat) ∧ small (lim (weightR (madeL A)).fst.P.toNat) ∧ small (lim (plusQ (qv (lim (use14 (madeL A)).fst) (lim (use14 (madeL A)).snd)) (qv (lim (Int.toNat (1 : Int))) (lim x.fst.toNat))).fst) ∧ small (lim (plusQ (qv (lim (use14 (madeL A)).fst) (lim (use14 (madeL A)).snd)) (qv (lim (Int.toNat (1 : Int))) (lim x.fst.toNat))).snd))) with | true => (((true = (cmpQ (qv (lim (weightR (madeL A)).fst.E.toNat) (lim (weightR (madeL A)).fst.P.toNat)) (qv (lim (plusQ (qv (lim (use14 (madeL A)).fst) (lim (use14 (madeL A)).snd)) (qv (lim (Int.toNat (1 : Int))) (lim x.fst.toNat))).fst) (lim (plusQ (qv (lim (use14 (madeL A)).fst) (lim (use14 (madeL A)).snd)) (qv (lim (Int.toNat (1 : Int))) (lim x.fst.toNat))).snd)) == (0 : Int))) ∧ True) ∧ ((A = A) ∧ True)) | false => False) | false => False) | false => (((true = false) ∧ True) ∧ ((A = A) ∧ True)))) | false => False) | false => False) | false => False))))) | false => False) | false => False))) | false => False) | false => False)) | false => False)
theorem superWeightVc (A : List Pair) : fnX X26 (oneLoop 14 { σ := Int × Nat, st := fun S x => (((S.keep [0, 2, 3, 4, 5, 6, 7, 8]).gc 1).int 9 x.1).int 10 x.2, inv := fun _ x => leastI (madeL A) x.1 x.2, m := fun x => (madeL A).length - x.2 }) Try.f4 [.own 0] [.ro 6 A] (ends [.ro 6 A] ⟨some (.raw (.bool true)), []⟩) = superWeightText A := by kernel_rfl
theorem superWeightHolds (A : List Pair) : superWeightText A := by
  unfold superWeightText
  have hl8 := madeL_length A
  by_cases hA : 1 ≤ A.length
  · have hP := madeL_ok hA
    generalize madeL A = M at hP hl8 ⊢
    have hl1 := hP.1.1
    obtain ⟨u1, u2, u3⟩ := use14_ok M
    obtain ⟨o1, o2, o3⟩ := one_one
    rw [decide_eq_true (show M.length ≤ 100000 by omega), show ((M.length : Int) == 0) = false by rw [beq_eq_false_iff_ne]; omega, show Int.toNat 1 = 1 from rfl, decide_eq_true (⟨u1, o1, u2, u3, o2, o2⟩ : isR (lim (use14 M).1) (lim (use14 M).2) ∧ isR (lim 1) (lim 1) ∧ small (lim (use14 M).1) ∧ small (lim (use14 M).2) ∧ small (lim 1) ∧ small (lim 1)), qv_lim (use14 M), o3, quota14 hP]
    have hc := weight_cases hP
    have hT := weight_told hP
    have hW := want_ok hP
    clear o3
    generalize weightR M = wr at hc hT ⊢
    generalize use14 M = uq at hc hT hW u1 u2 u3 ⊢
    by_cases hq : quotaQ M = true
    · have e : true = (wr.2 != 0) := by
        rcases hc with g | ⟨g, _⟩ | ⟨_, _, _, _, _, _, g, _⟩
        · rw [g]; rfl
        · rw [g]; rfl
        · rw [hq] at g; cases g
      rw [hq]
      repeat' first | apply And.intro | exact True.intro | with_reducible rfl | exact e | exact rfl
    · have hq : quotaQ M = false := by simpa using hq
      rw [hq]
      by_cases h0 : wr.2 = 0
      · obtain ⟨t1, t2, t3, t4⟩ := hT h0
        obtain ⟨w1, w2, w3⟩ := hW
        obtain ⟨lp1, lp2⟩ := leastP_le hP
        rw [show (wr.2 != 0) = false by rw [h0]; rfl, show inb 0 M.length = true from inb_nat (a := 0) (by omega)]
        refine ⟨⟨((at' partE.zero M 0).P, 1), leastI.init hl1, by repeat' first | apply And.intro | exact True.intro | with_reducible rfl | exact rfl⟩, ?_⟩
        rintro ⟨m, x⟩ hi
        dsimp only at hi ⊢
        have hle := hi.le
        by_cases h : x < M.length
        · have hwx := wrap_succ h (show M.length ≤ 140737488355328 by omega)
          have hst := hi.step h
          rw [dec_lt h, inb_nat h, at_nat h]
          by_cases g : M[x].P < m
          · have e : min m M[x].P = M[x].P := by omega
            rw [decide_eq_true g]
            refine ⟨(min m M[x].P, x + 1), hst, by dsimp only; omega, ?_⟩
            repeat' first | apply And.intro | exact True.intro | with_reducible rfl | exact e | exact hwx.symm | exact rfl
          · have e : min m M[x].P = m := by omega
            rw [decide_eq_false g]
            refine ⟨(min m M[x].P, x + 1), hst, by dsimp only; omega, ?_⟩
            repeat' first | apply And.intro | exact True.intro | with_reducible rfl | exact e | exact hwx.symm | exact rfl
        · have e2 : leastP M = m := by rw [hi.least, List.drop_of_length_le (by omega)]; rfl
          subst e2
          have s1 := little lp2
          have s2 := little (show wr.1.E ≤ 1048576 by omega)
          have s3 := little t2.2.2
          have r1 : isR (lim 1) (lim (leastP M).toNat) := ⟨isN_lim _, isN_lim _, by rw [nv_lim]; omega⟩
          have r2 : isR (lim wr.1.E.toNat) (lim wr.1.P.toNat) := ⟨isN_lim _, isN_lim _, by rw [nv_lim]; omega⟩
          have q1 : qv (lim 1) (lim (leastP M).toNat) = (1, (leastP M).toNat) := qv_lim (1, (leastP M).toNat)
          have q2 : qv (lim wr.1.E.toNat) (lim wr.1.P.toNat) = (wr.1.E.toNat, wr.1.P.toNat) := qv_lim (wr.1.E.toNat, wr.1.P.toNat)
          rw [dec_ge (by omega : M.length ≤ x), decide_eq_true (show 0 ≤ (1 : Int) ∧ (1 : Int) < 9223372036854775808 ∧ 0 ≤ leastP M ∧ leastP M < 9223372036854775808 by omega), decide_eq_true (⟨u1, r1, u2, u3, o2, s1⟩ : isR (lim uq.1) (lim uq.2) ∧ isR (lim 1) (lim (leastP M).toNat) ∧ small (lim uq.1) ∧ small (lim uq.2) ∧ small (lim 1) ∧ small (lim (leastP M).toNat)), q1, q2, t1, decide_eq_true (show 0 ≤ wr.1.E ∧ wr.1.E < 9223372036854775808 ∧ 0 ≤ wr.1.P ∧ wr.1.P < 9223372036854775808 by omega)]
          generalize plusQ uq (1, (leastP M).toNat) = want at w1 w2 w3 t3 t4 ⊢
          rw [decide_eq_true (⟨w1, o1, w2, w3, o2, o2⟩ : isR (lim want.1) (lim want.2) ∧ isR (lim 1) (lim 1) ∧ small (lim want.1) ∧ small (lim want.2) ∧ small (lim 1) ∧ small (lim 1)), qv_lim want, decide_eq_true (⟨r2, o1, s2, s3, o2, o2⟩ : isR (lim wr.1.E.toNat) (lim wr.1.P.toNat) ∧ isR (lim 1) (lim 1) ∧ small (lim wr.1.E.toNat) ∧ small (lim wr.1.P.toNat) ∧ small (lim 1) ∧ small (lim 1)), decide_eq_true (⟨r2, w1, s2, s3, w2, w3⟩ : isR (lim wr.1.E.toNat) (lim wr.1.P.toNat) ∧ isR (lim want.1) (lim want.2) ∧ small (lim wr.1.E.toNat) ∧ small (lim wr.1.P.toNat) ∧ small (lim want.1) ∧ small (lim want.2))]
          by_cases g : cmpQ want (1, 1) > 0
          · rw [decide_eq_true g, t3 g]
            repeat' first | apply And.intro | exact True.intro | with_reducible rfl | exact rfl
          · rw [decide_eq_false g, t4 g]
            repeat' first | apply And.intro | exact True.intro | with_reducible rfl | exact rfl
      · have e : wr.2 = 16 := by
          rcases hc with g | ⟨_, g⟩ | ⟨_, _, _, _, _, _, _, _, _, _, g⟩
          · exact g
          · rw [hq] at g; cases g
          · rw [g] at h0; exact absurd rfl h0
        rw [e]
        repeat' first | apply And.intro | exact True.intro | with_reducible rfl | exact rfl
  · have e : madeL A = [] := by
      rw [List.eq_nil_of_length_eq_zero (show A.length = 0 by omega)]
      rfl
    rw [e]
    repeat' first | apply And.intro | exact True.intro | with_reducible rfl | exact rfl
noncomputable def superWeightCon : Con T O := fun args cs => match args, cs with
  | [.own 0], [.ro 6 _] => .ret ⟨some (.raw (.bool true)), []⟩
  | _, _ => .fail
theorem superWeightOk : ConOk R Try.prog 4 superWeightCon := con_of_fn R (X26) (TabOk.con R X26Ok) mixed Try.call4 Try.func4 superWeightCon (by
  intro args cs K h
  unfold superWeightCon at h
  split at h
  · rename_i A
    refine ⟨oneLoop 14 { σ := Int × Nat, st := fun S x => (((S.keep [0, 2, 3, 4, 5, 6, 7, 8]).gc 1).int 9 x.1).int 10 x.2, inv := fun _ x => leastI (madeL A) x.1 x.2, m := fun x => (madeL A).length - x.2 }, _, fun v S hv => ⟨_, h, hv⟩, ?_⟩
    rw [superWeightVc A]
    exact superWeightHolds A
  · exact h.elim)
noncomputable def tab27 : Tab T O := (3, superTellsCon) :: (4, superWeightCon) :: tab26
theorem tabOk27 : TabOk R Try.prog tab27 := TabOk.cons R superTellsOk <| TabOk.cons R superWeightOk <| tabOk26
noncomputable def X27 : Ctx T O := { X0 with con := conOf tab27 }
theorem X27Ok : TabOk R X27.P tab27 := tabOk27
end Go.Proofs.Ytmnnjclnldaejaa
