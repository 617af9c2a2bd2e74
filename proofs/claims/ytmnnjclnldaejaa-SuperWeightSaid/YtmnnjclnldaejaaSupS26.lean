/-
  Part of a proof over the seat Ytmnnjclnldaejaa: printed by a small program or typed by hand.
-/
import Derived.Test.YtmnnjclnldaejaaSupS25
import Derived.KernelRfl
namespace Go.Proofs.Ytmnnjclnldaejaa
open Go.Sx Go.Proofs Classical
/-! ### sums of shares, by a common period -/
theorem gcdI_dvd {m n : Int} (hm : 0 ≤ m) (hn : 0 ≤ n) : gcdI m n ∣ m ∧ gcdI m n ∣ n := by
  obtain ⟨a, rfl⟩ := Int.eq_ofNat_of_zero_le hm
  obtain ⟨b, rfl⟩ := Int.eq_ofNat_of_zero_le hn
  exact ⟨Int.natCast_dvd_natCast.2 (Nat.gcd_dvd_left a b), Int.natCast_dvd_natCast.2 (Nat.gcd_dvd_right a b)⟩
theorem lcm_step {m n : Int} (hm : 1 ≤ m) (hn : 1 ≤ n) : m ∣ m / gcdI m n * n ∧ n ∣ m / gcdI m n * n := by
  obtain ⟨h1, k, hk⟩ := gcdI_dvd (m := m) (n := n) (by omega) (by omega)
  refine ⟨⟨k, ?_⟩, Int.dvd_mul_left _ _⟩
  calc m / gcdI m n * n = m / gcdI m n * (gcdI m n * k) := by rw [← hk]
    _ = m * k := by rw [← Int.mul_assoc, Int.ediv_mul_cancel h1]
theorem lcmG_dvd : ∀ (l : List Int) (m p : Int), 1 ≤ m → Ones l → lcmG m l = some p → m ∣ p ∧ ∀ n ∈ l, n ∣ p
  | [], m, p, h, _, e => by
    simp only [lcmG, Option.some.injEq] at e
    subst e
    exact ⟨Int.dvd_refl _, fun n hn => by cases hn⟩
  | n :: l, m, p, h, hO, e => by
    rw [lcmG_cons] at e
    have o1 := (hO n (List.mem_cons_self ..)).1
    have g1 := gcdI_pos (a := m) o1
    have g2 := gcdI_le (b := n) h
    have q1 : 1 ≤ m / gcdI m n := (Int.le_ediv_iff_mul_le (by omega)).2 (by omega)
    have p1 : 1 * 1 ≤ m / gcdI m n * n := Int.mul_le_mul q1 o1 (by omega) (by omega)
    obtain ⟨d1, d2⟩ := lcm_step h o1
    by_cases hm : m / gcdI m n * n ≤ 9223372036854775807
    · rw [decide_eq_true hm, cond_true] at e
      obtain ⟨i1, i2⟩ := lcmG_dvd l _ p (by omega) (fun k hk => hO k (List.mem_cons_of_mem _ hk)) e
      refine ⟨Int.dvd_trans d1 i1, fun k hk => ?_⟩
      rcases List.mem_cons.1 hk with rfl | hk
      · exact Int.dvd_trans d2 i1
      · exact i2 k hk
    · rw [decide_eq_false hm, cond_false] at e
      cases e
/-- a ratio is a number of quanta of a period -/
def isShare (q : Qt) (p s : Nat) : Prop := 0 < q.2 ∧ q.1 * p = q.2 * s
theorem isShare.plus {q : Qt} {p s : Nat} (h : isShare q p s) {e c : Nat} (hc : 0 < c) (hd : c ∣ p) : isShare (plusQ q (e, c)) p (s + e * (p / c)) := by
  obtain ⟨k, rfl⟩ := hd
  obtain ⟨h1, h2⟩ := h
  refine ⟨Nat.mul_pos h1 hc, ?_⟩
  rw [Nat.mul_div_cancel_left _ hc]
  unfold plusQ
  dsimp only
  have e1 : q.1 * c * (c * k) = c * (q.1 * (c * k)) := by rw [Nat.mul_comm q.1 c, Nat.mul_assoc]
  rw [Nat.add_mul, e1, h2, Nat.mul_add]
  have e2 : c * (q.2 * s) = q.2 * c * s := by rw [← Nat.mul_assoc, Nat.mul_comm c q.2]
  have e3 : e * q.2 * (c * k) = q.2 * c * (e * k) := by
    rw [Nat.mul_comm e q.2, Nat.mul_assoc, Nat.mul_assoc, Nat.mul_left_comm e c k]
  rw [e2, e3]
theorem isShare.low {q : Qt} {p s : Nat} (h : isShare q p s) : isShare (least q) p s := by
  obtain ⟨h1, h2⟩ := h
  refine ⟨least_pos h1, ?_⟩
  have hl := least_eq h1
  refine Nat.eq_of_mul_eq_mul_right h1 ?_
  calc (least q).1 * p * q.2 = (least q).1 * q.2 * p := by rw [Nat.mul_right_comm]
    _ = (least q).2 * (q.1 * p) := by rw [hl, Nat.mul_comm q.1, Nat.mul_assoc]
    _ = (least q).2 * s * q.2 := by rw [h2, Nat.mul_comm q.2 s, Nat.mul_assoc]
theorem shares (p : Nat) : ∀ (L : List Part) (q r : Qt) (s : Nat), (∀ a ∈ L, 1 ≤ a.E ∧ 1 ≤ a.P ∧ a.P ∣ (p : Int)) → isShare q p s → isShare r p s →
    ∃ t : Nat, sumG p s L = (t : Int) ∧ isShare ((L.map asW).foldl (fun q w => addQ q (wq w)) q) p t ∧ isShare ((L.map asW).foldl (fun q w => plusQ q (wq w)) r) p t
  | [], q, r, s, _, hq, hr => ⟨s, rfl, hq, hr⟩
  | a :: L, q, r, s, hL, hq, hr => by
    obtain ⟨a1, a2, a3⟩ := hL a (List.mem_cons_self ..)
    have hd : a.P.toNat ∣ p := by
      have := Int.toNat_of_nonneg (show 0 ≤ a.P by omega)
      rw [← this] at a3
      exact Int.natCast_dvd_natCast.1 a3
    have hc : 0 < a.P.toNat := by omega
    have e : (s : Int) + a.E * ((p : Int) / a.P) = ((s + a.E.toNat * (p / a.P.toNat) : Nat) : Int) := by
      rw [Int.natCast_add, Int.natCast_mul, Int.natCast_ediv, Int.toNat_of_nonneg (show 0 ≤ a.E by omega), Int.toNat_of_nonneg (show 0 ≤ a.P by omega)]
    simp only [sumG, List.map_cons, List.foldl_cons]
    rw [e]
    exact shares p L _ _ _ (fun b hb => hL b (List.mem_cons_of_mem _ hb)) (hq.plus hc hd).low (hr.plus hc hd)
theorem isShare.one {p : Nat} : isShare (0, 1) p 0 := ⟨Nat.one_pos, by simp⟩
/-- both sums, by the common period -/
theorem PartsOk.share2 {L : List Part} (h : PartsOk L) {p : Nat} (hd : ∀ a ∈ L, a.P ∣ (p : Int)) : ∃ t : Nat, sumEP p L = (t : Int) ∧ isShare (sumQ (L.map asW)) p t ∧ isShare (plusSum (L.map asW)) p t :=
  shares p L (0, 1) (0, 1) 0 (fun a ha => by have := h.2 a ha; exact ⟨by omega, by omega, hd a ha⟩) isShare.one isShare.one
/-- a common period -/
theorem common : ∀ L : List Part, (∀ a ∈ L, 1 ≤ a.P) → ∃ p : Nat, 0 < p ∧ ∀ a ∈ L, a.P ∣ (p : Int)
  | [], _ => ⟨1, by decide, fun a ha => by cases ha⟩
  | b :: L, h => by
    obtain ⟨p, h1, h2⟩ := common L fun a ha => h a (List.mem_cons_of_mem _ ha)
    have hb := h b (List.mem_cons_self ..)
    refine ⟨b.P.toNat * p, Nat.mul_pos (by omega) h1, fun a ha => ?_⟩
    rw [Int.natCast_mul, Int.toNat_of_nonneg (show 0 ≤ b.P by omega)]
    rcases List.mem_cons.1 ha with rfl | ha
    · exact Int.dvd_mul_right _ _
    · exact Int.dvd_trans (h2 a ha) (Int.dvd_mul_left _ _)
theorem cmp_shares {q r : Qt} {p s t : Nat} (hp : 0 < p) (hq : isShare q p s) (hr : isShare r p t) : cmpQ q r = cmpN s t := by
  have e1 : q.1 * r.2 * p = q.2 * r.2 * s := by rw [Nat.mul_right_comm, hq.2, Nat.mul_right_comm]
  have e2 : r.1 * q.2 * p = q.2 * r.2 * t := by rw [Nat.mul_right_comm, hr.2, Nat.mul_right_comm, Nat.mul_comm q.2 r.2]
  have h0 : 0 < q.2 * r.2 := Nat.mul_pos hq.1 hr.1
  unfold cmpQ
  rcases Nat.lt_trichotomy s t with h | h | h
  · rw [cmpN_lt h, cmpN_lt]
    refine Nat.lt_of_mul_lt_mul_right (a := p) ?_
    rw [e1, e2]
    exact Nat.mul_lt_mul_of_pos_left h h0
  · subst h
    rw [cmpN_eq, show q.1 * r.2 = r.1 * q.2 from Nat.eq_of_mul_eq_mul_right hp (e1.trans e2.symm), cmpN_eq]
  · rw [cmpN_gt h, cmpN_gt]
    refine Nat.lt_of_mul_lt_mul_right (a := p) ?_
    rw [e1, e2]
    exact Nat.mul_lt_mul_of_pos_left h h0
/-- what parts use is the same, summed either way -/
theorem use_same (L : List Part) : cmpQ (useQ L) (use14 L) = 0 := by
  unfold useQ use14
  by_cases hc : checkL L = true
  · have hP := checkL_iff.1 hc
    obtain ⟨p, h1, h2⟩ := common L fun a ha => by have := hP.2 a ha; omega
    obtain ⟨t, _, s1, s2⟩ := hP.share2 h2
    rw [hc, cond_true, cond_true, cmp_shares h1 s1 s2, cmpN_eq]
  · have hc : checkL L = false := by simpa using hc
    rw [hc, cond_false, cond_false]
    decide
theorem isShare.whole {p : Nat} : isShare (1, 1) p p := ⟨Nat.one_pos, rfl⟩
theorem cmpN_pos {m n : Nat} : cmpN m n > 0 ↔ n < m := by
  rcases Nat.lt_trichotomy m n with h | h | h
  · rw [cmpN_lt h]; exact ⟨fun g => by omega, fun g => by omega⟩
  · subst h; rw [cmpN_eq]; exact ⟨fun g => by omega, fun g => by omega⟩
  · rw [cmpN_gt h]; exact ⟨fun _ => h, fun _ => by omega⟩
theorem quota_same {L : List Part} (h : PartsOk L) {p : Int} (hg : lcmG 1 (L.map Part.P) = some p) : quotaQ L = decide (sumEP p L > p) := by
  have hp := lcmG_pos _ _ _ (by decide) h.p hg
  obtain ⟨_, hd⟩ := lcmG_dvd _ _ _ (by decide) h.p hg
  obtain ⟨n, rfl⟩ := Int.eq_ofNat_of_zero_le (show 0 ≤ p by omega)
  obtain ⟨t, e, s1, _⟩ := h.share2 (p := n) fun a ha => hd _ (List.mem_map_of_mem ha)
  unfold quotaQ
  rw [cmp_shares (show 0 < n by omega) s1 isShare.whole, show sumEP (n : Int) L = (t : Int) from e]
  exact decide_eq_decide.2 (cmpN_pos.trans (by omega))
theorem weight_same (L : List Part) : weightR L = weight14 L := by
  unfold weightR weight14
  by_cases hc : checkL L = true
  · have hP := checkL_iff.1 hc
    cases hg : lcmG 1 (L.map Part.P) with
    | none => rfl
    | some p => dsimp only; rw [quota_same hP hg]
  · have hc : checkL L = false := by simpa using hc
    rw [hc]
    rfl


theorem one_ok : isR (lim 0) (lim 1) ∧ small (lim 0) ∧ small (lim 1) := by
  have l1 : (lim 1).length ≤ 1 := lim_lt (k := 1) (by decide)
  exact ⟨⟨isN_lim _, isN_lim _, by rw [nv_lim]; decide⟩, Nat.zero_le _, Nat.le_trans l1 (by decide)⟩
theorem use_ok (L : List Part) : isR (lim (useQ L).1) (lim (useQ L).2) ∧ small (lim (useQ L).1) ∧ small (lim (useQ L).2) := by
  unfold useQ
  by_cases hc : checkL L = true
  · rw [hc, cond_true]; exact useQ_ok (checkL_iff.1 hc)
  · have hc : checkL L = false := by simpa using hc
    rw [hc, cond_false]; exact one_ok
theorem use14_ok (L : List Part) : isR (lim (use14 L).1) (lim (use14 L).2) ∧ small (lim (use14 L).1) ∧ small (lim (use14 L).2) := by
  unfold use14
  by_cases hc : checkL L = true
  · have hP := checkL_iff.1 hc
    rw [hc, cond_true]; exact plusSum_ok hP.w (by rw [List.length_map]; have := hP.1.2; omega)
  · have hc : checkL L = false := by simpa using hc
    rw [hc, cond_false]; exact one_ok
def madePer (q : Pair) : Int := 1 + q.i1 % 24
def madeP (q : Pair) : Part := ⟨1 + q.i0 % madePer q, madePer q⟩
def madeL (L : List Pair) : List Part := (L.take 8).map madeP
theorem madePer_ok (q : Pair) : 1 ≤ madePer q ∧ madePer q ≤ 24 := by unfold madePer; omega
theorem madeP_ok (q : Pair) : 1 ≤ (madeP q).E ∧ (madeP q).E ≤ (madeP q).P ∧ (madeP q).P ≤ 24 := by
  have h := madePer_ok q
  have h1 := Int.emod_nonneg q.i0 (b := madePer q) (by omega)
  have h2 := Int.emod_lt_of_pos q.i0 (b := madePer q) (by omega)
  refine ⟨?_, ?_, h.2⟩
  · show 1 ≤ 1 + q.i0 % madePer q; omega
  · show 1 + q.i0 % madePer q ≤ madePer q; omega
theorem madeL_length (L : List Pair) : (madeL L).length ≤ 8 := by unfold madeL; rw [List.length_map, List.length_take]; omega
theorem madeL_ok {L : List Pair} (h : 1 ≤ L.length) : PartsOk (madeL L) := by
  refine ⟨⟨?_, madeL_length L⟩, ?_⟩
  · unfold madeL; rw [List.length_map, List.length_take]; omega
  · intro p hp
    unfold madeL at hp
    obtain ⟨q, _, rfl⟩ := List.mem_map.1 hp
    have := madeP_ok q
    omega
theorem rem_mod (a : Int) {n : Int} (h : 0 < n) (h2 : n ≤ 4611686018427387904) : (IntKind.i64.wrap (a.tmod n + n)).tmod n = a % n := by
  have h1 := Int.mul_tdiv_add_tmod a n
  have h3 : -n < a.tmod n := Int.lt_tmod_of_pos a h
  have h4 : a.tmod n < n := Int.tmod_lt_of_pos a h
  rw [wrap_id (by omega) (by omega), tmod_pos (by omega), Int.add_emod_right]
  conv => rhs; rw [← h1, Int.mul_add_emod_self_left]
structure madeI (L : List Pair) (x : Nat) : Prop where
  le : x ≤ L.length
  top : x ≤ 8

/-! ### regatta/regattalaw14.awake -/
def awakeText  : Prop := (((true = checkL [Part.mk (1 : Int) (1 : Int)]) ∧ True) ∧ True)
theorem awakeVc  : fnX X25 (noAnn) Try.f10 [] [] (ends [] ⟨some (.raw (.bool true)), []⟩) = awakeText  := by kernel_rfl
theorem awakeHolds  : awakeText  := by
  unfold awakeText
  exact ⟨⟨by decide, trivial⟩, trivial⟩
noncomputable def awakeCon : Con T O := fun args cs => match args, cs with
  | [], [] => .ret ⟨some (.raw (.bool true)), []⟩
  | _, _ => .fail
theorem awakeOk : ConOk R Try.prog 10 awakeCon := con_of_fn R (X25) (TabOk.con R X25Ok) mixed Try.call10 Try.func10 awakeCon (by
  intro args cs K h
  unfold awakeCon at h
  split at h
  ·
    refine ⟨noAnn, _, fun v S hv => ⟨_, h, hv⟩, ?_⟩
    rw [awakeVc ]
    exact awakeHolds 
  · exact h.elim)
/-! ### regatta/regattalaw14.made -/
def madeText (L : List Pair) : Prop := ((∃ x : Nat, ((madeI L x) ∧ ((True ∧ (True ∧ (((↑x : Int) = (0 : Int)) ∧ True))) ∧ ((L = L) ∧ ((List.map madeP (List.take x L) = []) ∧ True))))) ∧ (∀ x : Nat, ((madeI L x) → (match (decide ((↑x : Int) < (↑L.length : Int))) with | true => (match (decide ((↑x : Int) < (8 : Int))) with | true => (match (inb (↑x : Int) L.length) with | true => (match (inb (↑x : Int) L.length) with | true => (match (inb (↑x : Int) L.length) with | true => (match (inb (↑x : Int) L.length) with | true => (match (IntKind.i64.wrap ((1 : Int) + (IntKind.i64.wrap ((at' pairE.zero L (↑x : Int)).i1.tmod (24 : Int) + (24 : Int))).tmod (24 : Int)) != (0 : Int)) with | true => (match (IntKind.i64.wrap ((1 : Int) + (IntKind.i64.wrap ((at' pairE.zero L (↑x : Int)).i1.tmod (24 : Int) + (24 : Int))).tmod (24 : Int)) != (0 : Int)) with | true => (match (roomy ((List.map madeP (List.take x L)).length + (1 : Nat)) (nat_lit 16)) with | true => (∃ x' : Nat, ((madeI L x') ∧ ((L.length - x' < L.length - x) ∧ ((True ∧ (True ∧ (((↑x' : Int) = IntKind.i64.wrap ((↑x : Int) + (1 : Int))) ∧ True))) ∧ ((L = L) ∧ ((List.map madeP (List.take x' L) = List.map madeP (List.take x L) ++ [Part.mk (IntKind.i64.wrap ((1 : Int) + (IntKind.i64.wrap ((at' pairE.zero L (↑x : Int)).i0.tmod (IntKind.i64.wrap ((1 : Int) + (IntKind.i64.wrap ((at' pairE.zero L (↑x : Int)).i1.tmod (24 : Int) + (24 : Int))).tmod (24 : Int))) + IntKind.i64.wrap ((1 : Int) + (IntKind.i64.wrap ((at' pairE.zero L (↑x : Int)).i1.tmod (24 : Int) + (24 : Int))).tmod (24 : Int)))).tmod (IntKind.i64.wrap ((1 : Int) + (IntKind.i64.wrap ((at' pairE.zero L (↑x : Int)).i1.tmod (24 : Int) + (24 : Int))).tmod (24 : Int))))) (IntKind.i64.wrap ((1 : Int) + (IntKind.i64.wrap ((at' pairE.zero L (↑x : Int)).i1.tmod (24 : Int) + (24 : Int))).tmod (24 : Int)))]) ∧ True)))))) | false => False) | false => False) | false => False) | false => False) | false => False) | false => False) | false => False) | false => ((True ∧ True) ∧ ((L = L) ∧ ((madeL L = List.map madeP (List.take x L)) ∧ True)))) | false => ((True ∧ True) ∧ ((L = L) ∧ ((madeL L = List.map madeP (List.take x L)) ∧ True)))))))
theorem madeVc (L : List Pair) : fnX { X25 with frz := true } (oneLoop 3 { σ := Nat, st := fun S x => ((S.keep [0]).int 4 x).new 3 (.vec 3 ((L.take x).map madeP) 39), inv := fun _ x => madeI L x, m := fun x => L.length - x }) Try.f12 [.own 0] [.ro 6 L] (ends [.ro 6 L] ⟨some (.own 1), [(1, some (.ro 3 (madeL L)))]⟩) = madeText L := by kernel_rfl
theorem madeHolds (L : List Pair) : madeText L := by
  unfold madeText
  refine ⟨⟨0, ⟨Nat.zero_le _, Nat.zero_le _⟩, by repeat' first | trivial | rfl | apply And.intro⟩, ?_⟩
  intro x hi
  have hle := hi.le
  have htop := hi.top
  by_cases h : x < L.length
  · rw [dec_lt h]
    by_cases k : x < 8
    · have hwx : ((x + 1 : Nat) : Int) = IntKind.i64.wrap ((x : Int) + 1) := by rw [wrap_id (by omega) (by omega)]; omega
      have hr : roomy (((L.take x).map madeP).length + 1) 16 = true := by
        rw [List.length_map, List.length_take]
        exact decide_eq_true (by omega)
      have e : (L.take (x + 1)).map madeP = (L.take x).map madeP ++ [madeP L[x]] := by rw [take_at h, List.map_append]; rfl
      have hp := madePer_ok L[x]
      have h1 := Int.emod_nonneg L[x].i0 (b := madePer L[x]) (by omega)
      have h2 := Int.emod_lt_of_pos L[x].i0 (b := madePer L[x]) (by omega)
      have ep : IntKind.i64.wrap (1 + L[x].i1 % 24) = madePer L[x] := wrap_id (by omega) (by omega)
      have ee : IntKind.i64.wrap (1 + L[x].i0 % madePer L[x]) = 1 + L[x].i0 % madePer L[x] := wrap_id (by omega) (by omega)
      rw [show decide ((x : Int) < 8) = true from decide_eq_true (by omega), inb_nat h, at_nat h, rem_mod L[x].i1 (by decide) (by decide), ep, rem_mod L[x].i0 (by omega) (by omega), ee, show (madePer L[x] != 0) = true from bne_iff_ne.2 (by omega), hr]
      refine ⟨x + 1, ⟨h, k⟩, by omega, ?_⟩
      repeat' first | exact hwx | exact e | trivial | rfl | apply And.intro
    · obtain rfl : x = 8 := by omega
      rw [show decide (((8 : Nat) : Int) < 8) = false from rfl]
      repeat' first | trivial | rfl | apply And.intro
  · have e : madeL L = (L.take x).map madeP := by
      unfold madeL
      rw [List.take_of_length_le (by omega), List.take_of_length_le (by omega)]
    rw [dec_ge (by omega : L.length ≤ x)]
    repeat' first | exact e | trivial | rfl | apply And.intro
noncomputable def madeCon : Con T O := fun args cs => match args, cs with
  | [.own 0], [.ro 6 L] => .ret ⟨some (.own 1), [(1, some (.ro 3 (madeL L)))]⟩
  | _, _ => .fail
theorem madeOk : ConOk R Try.prog 12 madeCon := con_of_fn R ({ X25 with frz := true }) (TabOk.con R X25Ok) mixed Try.call12 Try.func12 madeCon (by
  intro args cs K h
  unfold madeCon at h
  split at h
  · rename_i L
    refine ⟨oneLoop 3 { σ := Nat, st := fun S x => ((S.keep [0]).int 4 x).new 3 (.vec 3 ((L.take x).map madeP) 39), inv := fun _ x => madeI L x, m := fun x => L.length - x }, _, fun v S hv => ⟨_, h, hv⟩, ?_⟩
    rw [madeVc L]
    exact madeHolds L
  · exact h.elim)
/-! ### regatta/regattalaw14.tells -/
def tellsText (L : List Part) : Prop := (match (decide (L.length ≤ (100000 : Nat))) with | true => (match (decide (L.length ≤ (100000 : Nat))) with | true => (match (decide (L.length ≤ (100000 : Nat))) with | true => (match ((↑(lim (useQ L).snd).length : Int) == (0 : Int)) with | true => (((true = false) ∧ True) ∧ ((L = L) ∧ True)) | false => (match ((weightR L).fst.E == (weight14 L).fst.E && ((weightR L).fst.P == (weight14 L).fst.P && true)) with | true => (match ((weightR L).snd == (weight14 L).snd) with | true => (match (decide (L.length ≤ (100000 : Nat))) with | true => (match (decide (L.length ≤ (100000 : Nat))) with | true => (match (checkL L == checkL L) with | true => (match (decide (L.length ≤ (100000 : Nat))) with | true => (match (decide (isR (lim (useQ L).fst) (lim (useQ L).snd) ∧ isR (lim (use14 L).fst) (lim (use14 L).snd) ∧ small (lim (useQ L).fst) ∧ small (lim (useQ L).snd) ∧ small (lim (use14 L).fst) ∧ small (lim (use14 L).snd))) with | true => (((true = (cmpQ (qv (lim (useQ L).fst) (lim (useQ L).snd)) (qv (lim (use14 L).fst) (lim (use14 L).snd)) == (0 : Int))) ∧ True) ∧ ((L = L) ∧ True)) | false => False) | false => False) | false => (((true = false) ∧ True) ∧ ((L = L) ∧ True))) | false => False) | false => False) | false => (((true = false) ∧ True) ∧ ((L = L) ∧ True))) | false => (((true = false) ∧ True) ∧ ((L = L) ∧ True)))) | false => False) | false => False) | false => False)
theorem tellsVc (L : List Part) : fnX X25 (noAnn) Try.f11 [.own 0] [.ro 3 L] (ends [.ro 3 L] ⟨some (.raw (.bool true)), []⟩) = tellsText L := by kernel_rfl
theorem tellsHolds (L : List Part) (hp : L.length ≤ 100000) : tellsText L := by
  unfold tellsText
  obtain ⟨u1, u2, u3⟩ := use_ok L
  obtain ⟨v1, v2, v3⟩ := use14_ok L
  have hl : (lim (useQ L).2).length ≠ 0 := lim_pos (by have := u1.2.2; rwa [nv_lim] at this)
  rw [decide_eq_true hp, show (((lim (useQ L).2).length : Int) == 0) = false by rw [beq_eq_false_iff_ne]; omega, weight_same L, decide_eq_true (⟨u1, v1, u2, u3, v2, v3⟩ : isR (lim (useQ L).1) (lim (useQ L).2) ∧ isR (lim (use14 L).1) (lim (use14 L).2) ∧ small (lim (useQ L).1) ∧ small (lim (useQ L).2) ∧ small (lim (use14 L).1) ∧ small (lim (use14 L).2)), qv_lim, qv_lim, use_same L]
  simp only [beq_self_eq_true, Bool.and_self]
  repeat' first | trivial | rfl | apply And.intro
noncomputable def tellsCon : Con T O := fun args cs => match args, cs with
  | [.own 0], [.ro 3 L] => chk (decide (L.length ≤ 100000)) (.ret ⟨some (.raw (.bool true)), []⟩)
  | _, _ => .fail
theorem tellsOk : ConOk R Try.prog 11 tellsCon := con_of_fn R (X25) (TabOk.con R X25Ok) mixed Try.call11 Try.func11 tellsCon (by
  intro args cs K h
  unfold tellsCon at h
  split at h
  · rename_i L
    rw [Tree.holds_chk] at h
    obtain ⟨hp, h⟩ := h
    refine ⟨noAnn, _, fun v S hv => ⟨_, h, hv⟩, ?_⟩
    rw [tellsVc L]
    exact tellsHolds L (of_decide_eq_true hp)
  · exact h.elim)
noncomputable def tab26 : Tab T O := (10, awakeCon) :: (12, madeCon) :: (11, tellsCon) :: tab25
theorem tabOk26 : TabOk R Try.prog tab26 := TabOk.cons R awakeOk <| TabOk.cons R madeOk <| TabOk.cons R tellsOk <| tabOk25
noncomputable def X26 : Ctx T O := { X0 with con := conOf tab26 }
theorem X26Ok : TabOk R X26.P tab26 := tabOk26
end Go.Proofs.Ytmnnjclnldaejaa
