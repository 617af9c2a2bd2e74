/-
  Part of a proof over the seat Ytmnnjclnldaejaa: printed by a small program or typed by hand.
-/
import Derived.Test.YtmnnjclnldaejaaJSurS33
import Derived.KernelRfl
namespace Go.Proofs.Ytmnnjclnldaejaa
open Go.Sx Go.Proofs Classical
theorem missedO_zero {t : Int} {q : Own} (h : t < q.JobDeadline) : missedO t q = 0 := by
  unfold missedO
  rw [decide_eq_false (by omega)]; rfl
theorem missedO_pos {t : Int} {q : Own} (h : q.JobDeadline ≤ t) : missedO t q = q.JobLeft + (t - q.JobDeadline) / q.PartP * q.PartE := by
  unfold missedO
  rw [decide_eq_true h]; rfl
theorem due_one {t : Int} {p : Part} (h0 : 0 ≤ t) (h1 : 1 ≤ p.E) (h2 : p.E ≤ p.P) : 0 ≤ t / p.P * p.E ∧ t / p.P * p.E ≤ t ∧ 0 ≤ t / p.P ∧ t / p.P ≤ t := by
  have q0 : 0 ≤ t / p.P := Int.ediv_nonneg h0 (by omega)
  have q1 : t / p.P ≤ t := Int.ediv_le_self _ h0
  have q2 := Int.mul_le_mul_of_nonneg_left h2 q0
  have q3 := Int.ediv_mul_le t (show p.P ≠ 0 by omega)
  exact ⟨Int.mul_nonneg q0 (by omega), by omega, q0, q1⟩
/-! the document's supertask: parts by how many quanta were handed on -/
def ownOf (t i : Int) (p : Part) (d : Int) : Own := ⟨p.E, p.P, i, d / p.E, t + d / p.E * p.P, t + d / p.E * p.P + p.P, p.E - d % p.E⟩
def rowOf (t : Int) (L : List Part) (D : List Int) : List Own := (List.range L.length).map fun i : Nat => ownOf t (i : Int) (at' partE.zero L (i : Int)) (at' 0 D (i : Int))
theorem rowOf_length (t : Int) (L : List Part) (D : List Int) : (rowOf t L D).length = L.length := by simp [rowOf]
theorem rowOf_get {t : Int} {L : List Part} {D : List Int} {i : Nat} (h : i < L.length) (hD : i < D.length) : (rowOf t L D)[i]'(by rw [rowOf_length]; exact h) = ownOf t i L[i] D[i] := by
  simp only [rowOf, List.getElem_map, List.getElem_range, at_nat h, at_nat hD]
theorem ownOf_after {t i : Int} {p : Part} {d : Int} (hE : 1 ≤ p.E) : ownOf t i p (d + 1) = afterO (ownOf t i p d) := by
  have h1 := Int.emod_nonneg d (show p.E ≠ 0 by omega)
  have h2 := Int.emod_lt_of_pos d (show 0 < p.E by omega)
  have h3 := Int.mul_ediv_add_emod d p.E
  unfold afterO
  show _ = bif (p.E - d % p.E - 1 == 0) then nextO (decO (ownOf t i p d)) else decO (ownOf t i p d)
  by_cases c : d % p.E = p.E - 1
  · have e := (Int.ediv_emod_unique (a := d + 1) (b := p.E) (r := 0) (q := d / p.E + 1) (by omega)).2 ⟨by rw [Int.mul_add, Int.mul_one]; omega, by omega, by omega⟩
    rw [show (p.E - d % p.E - 1 == 0) = true from beq_iff_eq.2 (by omega), cond_true]
    unfold ownOf
    rw [e.1, e.2]
    unfold nextO decO
    dsimp only
    rw [show t + (d / p.E + 1) * p.P = t + d / p.E * p.P + p.P by rw [Int.add_mul, Int.one_mul]; omega, Int.sub_zero]
  · have e := (Int.ediv_emod_unique (a := d + 1) (b := p.E) (r := d % p.E + 1) (q := d / p.E) (by omega)).2 ⟨by omega, by omega, by omega⟩
    rw [show (p.E - d % p.E - 1 == 0) = false from beq_eq_false_iff_ne.2 (by omega), cond_false]
    unfold ownOf
    rw [e.1, e.2]
    unfold decO
    dsimp only
    rw [show p.E - (d % p.E + 1) = p.E - d % p.E - 1 by omega]
structure RefOk (t : Int) (L : List Part) (D : List Int) : Prop where
  t0 : 0 ≤ t
  t1 : t ≤ 1099511627776
  len : L.length ≤ 8
  dlen : D.length = 8
  parts : ∀ (i : Nat) (h : i < L.length), 1 ≤ L[i].E ∧ L[i].E ≤ L[i].P ∧ L[i].P ≤ 1048576
  done : ∀ (i : Nat) (h : i < L.length) (hd : i < D.length), 0 ≤ D[i] ∧ t + D[i] / L[i].E * L[i].P ≤ 1099512676352
theorem RefOk.lt {t : Int} {L : List Part} {D : List Int} (h : RefOk t L D) {i : Nat} (hi : i < L.length) : i < D.length := by
  have := h.len; have := h.dlen; omega
theorem RefOk.row {t : Int} {L : List Part} {D : List Int} (h : RefOk t L D) : RowOk t (rowOf t L D) := by
  refine ⟨h.t0, h.t1, by rw [rowOf_length]; exact h.len, ?_⟩
  intro i hi
  rw [rowOf_length] at hi
  rw [rowOf_get hi (h.lt hi)]
  obtain ⟨e1, e2, e3⟩ := h.parts i hi
  obtain ⟨d1, d2⟩ := h.done i hi (h.lt hi)
  have m1 := Int.emod_nonneg (D[i]'(h.lt hi)) (show L[i].E ≠ 0 by omega)
  have m2 := Int.emod_lt_of_pos (D[i]'(h.lt hi)) (show 0 < L[i].E by omega)
  exact ⟨e1, e2, e3, rfl, Int.ediv_nonneg d1 (by omega), rfl, rfl, by show 1 ≤ L[i].E - _; omega, by show L[i].E - _ ≤ L[i].E; omega, d2⟩
theorem RefOk.bound {t : Int} {L : List Part} {D : List Int} (h : RefOk t L D) {i : Nat} (hi : i < L.length) (hd : i < D.length) : 0 ≤ D[i] ∧ D[i] ≤ 1099514773504 ∧ 0 ≤ D[i] / L[i].E ∧ D[i] / L[i].E ≤ 1099512676352 ∧ 0 ≤ D[i] / L[i].E * L[i].P := by
  obtain ⟨e1, e2, e3⟩ := h.parts i hi
  obtain ⟨d1, d2⟩ := h.done i hi hd
  have t0 := h.t0
  have q0 : 0 ≤ D[i] / L[i].E := Int.ediv_nonneg d1 (by omega)
  have h2 := Int.emod_lt_of_pos D[i] (show 0 < L[i].E by omega)
  have h3 := Int.mul_ediv_add_emod D[i] L[i].E
  have h4 := Int.mul_le_mul_of_nonneg_left e2 q0
  have h5 := mul_ge q0 (show 1 ≤ L[i].P by omega)
  rw [Int.mul_comm] at h3
  exact ⟨d1, by omega, q0, by omega, Int.mul_nonneg q0 (by omega)⟩
def grantD (L : List Part) (D : List Int) (t last s : Int) : List Int := bif slotOk last s && decide (bestM (rowOf t L D) s ≥ 0) then D.set (bestM (rowOf t L D) s).toNat (at' 0 D (bestM (rowOf t L D) s) + 1) else D
theorem grantD_row {t last s : Int} {L : List Part} {D : List Int} (h : RefOk t L D) : rowOf t L (grantD L D t last s) = grantM (rowOf t L D) last s := by
  cases hs : slotOk last s
  · rw [(grantM_off hs).1]; unfold grantD; rw [hs]; rfl
  · by_cases hb : 0 ≤ bestM (rowOf t L D) s
    · obtain ⟨k, hk, ho⟩ := best_some h.row hb
      have hkL : k < L.length := by have := ho.lt; rw [rowOf_length] at this; exact this
      have hkD := h.lt hkL
      rw [(grantM_some hs hk ho.lt).1]
      unfold grantD
      rw [hs, decide_eq_true hb, hk, Bool.and_self, cond_true, Int.toNat_natCast, at_nat hkD]
      apply List.ext_getElem
      · rw [List.length_set, rowOf_length, rowOf_length]
      · intro i h1 h2
        rw [rowOf_length] at h1
        have hiD := h.lt h1
        rw [rowOf_get h1 (by rw [List.length_set]; exact hiD), List.getElem_set, List.getElem_set]
        split
        · rename_i e
          subst e
          rw [rowOf_get hkL hkD]
          exact ownOf_after (h.parts k hkL).1
        · rw [rowOf_get h1 hiD]
    · rw [(grantM_none hs hb).1]; unfold grantD; rw [hs, decide_eq_false hb]; rfl
theorem grantD_ok {t last s : Int} {L : List Part} {D : List Int} (h : RefOk t L D) : RefOk t L (grantD L D t last s) := by
  have hr := (h.row).grant (last := last) (t := s)
  rw [← grantD_row h] at hr
  have hl : (grantD L D t last s).length = D.length := by
    unfold grantD
    cases slotOk last s && decide (bestM (rowOf t L D) s ≥ 0)
    · rfl
    · rw [cond_true, List.length_set]
  refine ⟨h.t0, h.t1, h.len, by rw [hl]; exact h.dlen, h.parts, ?_⟩
  intro i hi hd
  have hq := hr.all i (by rw [rowOf_length]; exact hi)
  rw [rowOf_get hi hd] at hq
  refine ⟨?_, hq.top⟩
  have h0 := (h.bound hi (h.lt hi)).1
  have key : ∀ N : List Int, (N = D ∨ ∃ (k : Nat) (x : Int), 0 ≤ x ∧ N = D.set k x) → ∀ hk : i < N.length, 0 ≤ N[i] := by
    rintro N (rfl | ⟨k, x, hx, rfl⟩) hk
    · exact h0
    · rw [List.getElem_set]
      split
      · exact hx
      · exact h0
  refine key _ ?_ _
  unfold grantD
  by_cases hb : 0 ≤ bestM (rowOf t L D) s
  · obtain ⟨k, hk, ho⟩ := best_some h.row hb
    have hkL : k < L.length := by have := ho.lt; rw [rowOf_length] at this; exact this
    have hkD := h.lt hkL
    have h1 := (h.bound hkL hkD).1
    rw [hk, Int.toNat_natCast, at_nat hkD]
    cases slotOk last s && decide ((k : Int) ≥ 0)
    · exact .inl rfl
    · exact .inr ⟨k, _, by omega, rfl⟩
  · rw [decide_eq_false hb, Bool.and_false]
    exact .inl rfl
theorem rowOf_start {L : List Part} (t : Int) (hP : PartsOk L) : rowOf t L [0, 0, 0, 0, 0, 0, 0, 0] = startL t L L.length := by
  unfold rowOf startL
  apply List.map_congr_left
  intro i hi
  have hi := List.mem_range.1 hi
  have h8 : i < 8 := by have := hP.1.2; omega
  have e : at' 0 [0, 0, 0, 0, 0, 0, 0, 0] (i : Int) = (0 : Int) := by
    match i, h8 with
    | 0, _ => rfl
    | 1, _ => rfl
    | 2, _ => rfl
    | 3, _ => rfl
    | 4, _ => rfl
    | 5, _ => rfl
    | 6, _ => rfl
    | 7, _ => rfl
  rw [e, at_nat hi]
  obtain ⟨e1, e2, e3⟩ := hP.2 _ (List.getElem_mem hi)
  unfold ownOf startO
  rw [Int.zero_ediv, Int.zero_emod, Int.zero_mul]
  simp
theorem refOk_start {L : List Part} {t : Int} (hP : PartsOk L) (h0 : 0 ≤ t) (h1 : t ≤ 1099511627776) : RefOk t L [0, 0, 0, 0, 0, 0, 0, 0] := by
  refine ⟨h0, h1, hP.1.2, rfl, fun i h => hP.2 _ (List.getElem_mem h), ?_⟩
  intro i hi hd
  have e : ([0, 0, 0, 0, 0, 0, 0, 0] : List Int)[i] = 0 := by
    have hd : i < 8 := hd
    match i, hd with
    | 0, _ => rfl
    | 1, _ => rfl
    | 2, _ => rfl
    | 3, _ => rfl
    | 4, _ => rfl
    | 5, _ => rfl
    | 6, _ => rfl
    | 7, _ => rfl
  rw [e, Int.zero_ediv]
  exact ⟨Int.le_refl _, by rw [Int.zero_mul]; omega⟩
/-- the n-th job of a part, and how many of its quanta are left, of d that were handed on -/
def jobAt (t i : Int) (p : Part) (d n : Int) : Job := ⟨i, n, t + n * p.P, t + (n + 1) * p.P, p.E - (bif decide (d - n * p.E < 0) then 0 else d - n * p.E)⟩
theorem jobAt_first {t i : Int} {p : Part} {d : Int} (hE : 1 ≤ p.E) : jobAt t i p d (d / p.E) = ownJ (ownOf t i p d) := by
  have h1 := Int.emod_nonneg d (show p.E ≠ 0 by omega)
  have h3 := Int.mul_ediv_add_emod d p.E
  rw [Int.mul_comm] at h3
  unfold jobAt ownJ ownOf
  dsimp only
  rw [show d - d / p.E * p.E = d % p.E by omega, decide_eq_false (by omega), cond_false, show t + (d / p.E + 1) * p.P = t + d / p.E * p.P + p.P by rw [Int.add_mul, Int.one_mul]; omega]
/-- it is released -/
theorem released_iff {t P s n : Int} (hP : 1 ≤ P) (hs : t ≤ s) : n ≥ (s - t) / P + 1 ↔ t + n * P > s := by
  have k1 := Int.ediv_mul_le (s - t) (show P ≠ 0 by omega)
  have k2 := Int.lt_ediv_add_one_mul_self (s - t) (show 0 < P by omega)
  constructor
  · intro h
    have := Int.mul_le_mul_of_nonneg_right h (show 0 ≤ P by omega)
    omega
  · intro h
    refine Int.not_lt.1 fun hn => ?_
    have := Int.mul_le_mul_of_nonneg_right (show n ≤ (s - t) / P by omega) (show 0 ≤ P by omega)
    omega
def bestJ (M : List Own) (b : Int) : Job := bif decide (b ≥ 0) then ownJ (at' ownE.zero M b) else ⟨-1, 0, 0, 0, 0⟩
/-- the same choice, by deadlines alone -/
theorem best_step {b t : Int} {M : List Own} (hR : RowOk b M) {x : Nat} (h : x < M.length) (hr : ¬ M[x].JobRelease > t) :
    bestG M t (x + 1) = bif decide ((bestJ M (bestG M t x)).Part < 0) || decide (M[x].JobDeadline < (bestJ M (bestG M t x)).Deadline) then (x : Int) else bestG M t x := by
  have eb : bestG M t (x + 1) = bif decide ((at' ownE.zero M x).JobRelease > t) || (decide (bestG M t x ≥ 0) && ltJ (ownJ (at' ownE.zero M (bestG M t x))) (ownJ (at' ownE.zero M x))) then bestG M t x else x := rfl
  obtain ⟨lo, hi⟩ := bestG_lo M t x
  rw [at_nat h, decide_eq_false hr, Bool.false_or] at eb
  rw [eb]
  unfold bestJ
  by_cases c : bestG M t x ≥ 0
  · obtain ⟨k, hk⟩ := Int.eq_ofNat_of_zero_le c
    have hkl : k < M.length := by omega
    rw [decide_eq_true c, hk, at_nat hkl, cond_true, Bool.true_and]
    have hp1 := (hR.all k hkl).part
    have hp2 := (hR.all x h).part
    have e1 : (ownJ M[k]).Part = k := hp1
    have e2 : (ownJ M[k]).Deadline = M[k].JobDeadline := rfl
    rw [e1, e2, decide_eq_false (show ¬ (k : Int) < 0 by omega), Bool.false_or]
    by_cases g : M[x].JobDeadline < M[k].JobDeadline
    · rw [decide_eq_true g, cond_true, show ltJ (ownJ M[k]) (ownJ M[x]) = false from by rw [ltJ_not]; simp only [ownJ]; omega, cond_false]
    · rw [decide_eq_false g, cond_false, show ltJ (ownJ M[k]) (ownJ M[x]) = true from by rw [ltJ_iff]; simp only [ownJ]; omega, cond_true]
  · rw [decide_eq_false c, cond_false, Bool.false_and, cond_false]
    rfl
/-- jobs one by one, from the first one on -/
def jobN : Own → Nat → Job
  | q, 0 => ownJ q
  | q, k + 1 => jobN (nextO q) k
theorem jobN_rel : ∀ (k : Nat) (q : Own), q.JobDeadline = q.JobRelease + q.PartP → (jobN q k).Release = q.JobRelease + k * q.PartP
  | 0, q, _ => by show q.JobRelease = q.JobRelease + 0 * q.PartP; omega
  | k + 1, q, h => by
    show (jobN (nextO q) k).Release = _
    rw [jobN_rel k (nextO q) rfl]
    show q.JobDeadline + k * q.PartP = q.JobRelease + ((k + 1 : Nat) : Int) * q.PartP
    have e : ((k + 1 : Nat) : Int) = (k : Int) + 1 := by omega
    rw [h, e, Int.add_mul, Int.one_mul]; omega
theorem jobAt_later {t i : Int} {p : Part} {d n : Int} (hE : 1 ≤ p.E) (h : d / p.E + 1 ≤ n) : jobAt t i p d n = jobAt t i p ((d / p.E + 1) * p.E) n := by
  have h2 := Int.emod_lt_of_pos d (show 0 < p.E by omega)
  have h3 := Int.mul_ediv_add_emod d p.E
  rw [Int.mul_comm] at h3
  have h4 := Int.mul_le_mul_of_nonneg_right h (show 0 ≤ p.E by omega)
  have h5 : (d / p.E + 1) * p.E = d / p.E * p.E + p.E := by rw [Int.add_mul, Int.one_mul]
  unfold jobAt
  rw [decide_eq_true (show d - n * p.E < 0 by omega)]
  by_cases g : (d / p.E + 1) * p.E - n * p.E < 0
  · rw [decide_eq_true g, cond_true, cond_true]
  · rw [decide_eq_false g, cond_true, cond_false, show (d / p.E + 1) * p.E - n * p.E = 0 by omega]
theorem ownOf_next {t i : Int} {p : Part} {d : Int} (hE : 1 ≤ p.E) : nextO (ownOf t i p d) = ownOf t i p ((d / p.E + 1) * p.E) := by
  unfold nextO ownOf
  dsimp only
  rw [Int.mul_ediv_cancel _ (by omega), Int.mul_emod_left, Int.sub_zero, show t + (d / p.E + 1) * p.P = t + d / p.E * p.P + p.P by rw [Int.add_mul, Int.one_mul]; omega]
theorem jobN_at {t i : Int} {p : Part} (hE : 1 ≤ p.E) : ∀ (k : Nat) (d : Int), jobN (ownOf t i p d) k = jobAt t i p d (d / p.E + k)
  | 0, d => by
    rw [show d / p.E + ((0 : Nat) : Int) = d / p.E by omega, jobAt_first hE]; rfl
  | k + 1, d => by
    show jobN (nextO (ownOf t i p d)) k = _
    rw [ownOf_next hE, jobN_at hE k, Int.mul_ediv_cancel _ (by omega), jobAt_later (d := d) hE (by omega)]
    congr 1
    omega
theorem eachN_get (s : Int) : ∀ (m : Nat) (q : Own) (n : Nat), q.JobDeadline = q.JobRelease + q.PartP → 1 ≤ q.PartP → (n < (eachN m s q).length ↔ n < m ∧ (jobN q n).Release ≤ s) ∧ ∀ h : n < (eachN m s q).length, (eachN m s q)[n] = jobN q n
  | 0, q, n, _, _ => ⟨⟨fun h => absurd h (Nat.not_lt_zero _), fun h => absurd h.1 (Nat.not_lt_zero _)⟩, fun h => absurd h (Nat.not_lt_zero _)⟩
  | m + 1, q, n, hd, hP => by
    simp only [eachN]
    by_cases c : q.JobRelease ≤ s
    · simp only [decide_eq_true c, cond_true]
      cases n with
      | zero => exact ⟨⟨fun _ => ⟨Nat.succ_pos _, c⟩, fun _ => Nat.succ_pos _⟩, fun _ => rfl⟩
      | succ n =>
        obtain ⟨h1, h2⟩ := eachN_get s m (nextO q) n rfl hP
        refine ⟨?_, fun h => h2 (by simpa using h)⟩
        rw [List.length_cons, Nat.succ_lt_succ_iff, Nat.succ_lt_succ_iff]
        exact h1
    · simp only [decide_eq_false c, cond_false]
      refine ⟨⟨fun h => absurd h (Nat.not_lt_zero _), fun h => ?_⟩, fun h => absurd h (Nat.not_lt_zero _)⟩
      exfalso
      have h2 := h.2
      rw [jobN_rel n q hd] at h2
      have := Int.mul_nonneg (show 0 ≤ (n : Int) by omega) (show 0 ≤ q.PartP by omega)
      omega
/-! putting a job into its place -/
def putS (j : Job) (a : List Job × Bool) (o : Job) : List Job × Bool := bif (!a.2) && ltJ j o then (a.1 ++ [j, o], true) else (a.1 ++ [o], a.2)
def putF (j : Job) (l : List Job) : List Job × Bool := l.foldl (putS j) ([], false)
def putE (j : Job) (l : List Job) : List Job := bif (putF j l).2 then (putF j l).1 else (putF j l).1 ++ [j]
theorem putF_snoc (j : Job) (l : List Job) (o : Job) : putF j (l ++ [o]) = putS j (putF j l) o := by simp [putF]
theorem putS_true (j : Job) : ∀ (l A : List Job), l.foldl (putS j) (A, true) = (A ++ l, true)
  | [], A => by simp
  | o :: l, A => by
    rw [List.foldl_cons]
    show l.foldl (putS j) (A ++ [o], true) = _
    rw [putS_true j l]; simp
theorem putS_false (j : Job) : ∀ (l A : List Job), ∃ X Y, l = X ++ Y ∧ (∀ o ∈ X, ltJ j o = false) ∧ ((Y = [] ∧ l.foldl (putS j) (A, false) = (A ++ X, false)) ∨ ∃ o Z, Y = o :: Z ∧ ltJ j o = true ∧ l.foldl (putS j) (A, false) = (A ++ X ++ j :: Y, true))
  | [], A => ⟨[], [], rfl, fun _ h => (by cases h), .inl ⟨rfl, by simp⟩⟩
  | o :: l, A => by
    cases c : ltJ j o
    · obtain ⟨X, Y, h1, h2, h3⟩ := putS_false j l (A ++ [o])
      have e : (o :: l).foldl (putS j) (A, false) = l.foldl (putS j) (A ++ [o], false) := by
        rw [List.foldl_cons]; unfold putS; rw [c]; rfl
      refine ⟨o :: X, Y, by rw [h1]; rfl, ?_, ?_⟩
      · intro x hx
        rcases List.mem_cons.1 hx with rfl | hx
        · exact c
        · exact h2 x hx
      · rw [e]
        rcases h3 with ⟨h4, h5⟩ | ⟨o', Z, h4, h5, h6⟩
        · exact .inl ⟨h4, by rw [h5]; simp⟩
        · exact .inr ⟨o', Z, h4, h5, by rw [h6]; simp⟩
    · refine ⟨[], o :: l, rfl, fun _ h => (by cases h), .inr ⟨o, l, rfl, c, ?_⟩⟩
      rw [List.foldl_cons]
      have e : putS j (A, false) o = (A ++ [j, o], true) := by unfold putS; rw [c]; rfl
      rw [e, putS_true]; simp
theorem putE_eq (j : Job) (l : List Job) : ∃ X Y, l = X ++ Y ∧ (∀ o ∈ X, ltJ j o = false) ∧ (∀ o Z, Y = o :: Z → ltJ j o = true) ∧ putE j l = X ++ j :: Y := by
  obtain ⟨X, Y, h1, h2, h3⟩ := putS_false j l []
  refine ⟨X, Y, h1, h2, ?_, ?_⟩
  · intro o Z e
    rcases h3 with ⟨h4, _⟩ | ⟨o', Z', h4, h5, _⟩
    · rw [h4] at e; cases e
    · rw [h4] at e
      obtain ⟨rfl, rfl⟩ := List.cons.inj e
      exact h5
  · unfold putE putF
    rcases h3 with ⟨h4, h5⟩ | ⟨o', Z', h4, h5, h6⟩
    · rw [h5, h4]; rfl
    · rw [h6]; rfl
theorem put_sort {L : List Job} {j : Job} (hp : PreT ltJ ltJ (L ++ [j])) : putE j (srtT ltJ L) = srtT ltJ (L ++ [j]) := by
  have hL : PreT ltJ ltJ L := hp.sublist (List.sublist_append_left _ _)
  have hj : ∀ x ∈ L, ltJ j x = true ∨ ltJ x j = true := by
    intro x hx
    have := (List.pairwise_append.1 hp).2.2 x hx j (List.mem_singleton.2 rfl)
    exact this
  have hasc : AscT ltJ (srtT ltJ L) := srtT_asc ordJ (PreT.comp ordJ hL)
  have hperm : (srtT ltJ L).Perm L := srtT_perm L
  obtain ⟨X, Y, h1, h2, h3, h4⟩ := putE_eq j (srtT ltJ L)
  rw [h4]
  have hx : ∀ x ∈ X, ltJ x j = true := by
    intro x hx
    have hm : x ∈ L := hperm.mem_iff.1 (by rw [h1]; exact List.mem_append_left _ hx)
    rcases hj x hm with h | h
    · rw [h2 x hx] at h; cases h
    · exact h
  rw [h1] at hasc hperm
  obtain ⟨a1, a2, a3⟩ := List.pairwise_append.1 hasc
  have hy : ∀ y ∈ Y, ltJ j y = true := by
    intro y hy
    cases Y with
    | nil => cases hy
    | cons o Z =>
      have ho := h3 o Z rfl
      rcases List.mem_cons.1 hy with rfl | hy
      · exact ho
      · exact ltJ_tr ho ((List.pairwise_cons.1 a2).1 y hy)
  refine (srtT_eq ordJ ?_ ?_).symm
  · refine List.Perm.trans List.perm_middle ?_
    refine List.Perm.trans (List.Perm.cons j hperm) ?_
    exact (List.perm_append_singleton j L).symm
  · refine List.pairwise_append.2 ⟨a1, List.pairwise_cons.2 ⟨hy, a2⟩, ?_⟩
    intro x hxm y hym
    rcases List.mem_cons.1 hym with rfl | hym
    · exact hx x hxm
    · exact a3 x hxm y hym

def zeros8 : List Int := [0, 0, 0, 0, 0, 0, 0, 0]

structure miss14I (t : Int) (L : List Part) (D : List Int) (last s : Int) (n : Int) (x : Nat) : Prop where
  le : x ≤ L.length
  n0 : 0 ≤ n
  n1 : n ≤ 1099512676352 * x
  off : slotOk last s = false → x = 0
  eq : slotOk last s = true → missedG s 0 (rowOf t L D) = missedG s n ((rowOf t L D).drop x)
def sameJ (A B : List Job) : Bool := decide (A = B)
theorem missed_own {t i s : Int} {p : Part} {d : Int} (hE : 1 ≤ p.E) (hP : p.E ≤ p.P) (hts : t ≤ s) :
    missedO s (ownOf t i p d) = bif decide ((s - t) / p.P * p.E > d) then (s - t) / p.P * p.E - d else 0 := by
  have h1 := Int.emod_nonneg d (show p.E ≠ 0 by omega)
  have h2 := Int.emod_lt_of_pos d (show 0 < p.E by omega)
  have h3 := Int.mul_ediv_add_emod d p.E
  rw [Int.mul_comm] at h3
  have hdl : (ownOf t i p d).JobDeadline = t + d / p.E * p.P + p.P := rfl
  by_cases c : t + d / p.E * p.P + p.P ≤ s
  · rw [missedO_pos (by rw [hdl]; exact c)]
    show p.E - d % p.E + (s - (t + d / p.E * p.P + p.P)) / p.P * p.E = _
    have f2 : (s - t) / p.P = (s - (t + d / p.E * p.P + p.P)) / p.P + (d / p.E + 1) := by
      rw [← Int.add_mul_ediv_right _ _ (show p.P ≠ 0 by omega)]
      congr 1
      rw [Int.add_mul, Int.one_mul]; omega
    have k0 : 0 ≤ (s - (t + d / p.E * p.P + p.P)) / p.P := Int.ediv_nonneg (by omega) (by omega)
    have k1 := Int.mul_nonneg k0 (show 0 ≤ p.E by omega)
    rw [f2, Int.add_mul, Int.add_mul, Int.one_mul, decide_eq_true (by omega), cond_true]
    omega
  · rw [missedO_zero (by rw [hdl]; omega)]
    have f : (s - t) / p.P < d / p.E + 1 := by
      refine (Int.ediv_lt_iff_lt_mul (by omega)).2 ?_
      rw [Int.add_mul, Int.one_mul]; omega
    have := Int.mul_le_mul_of_nonneg_right (show (s - t) / p.P ≤ d / p.E by omega) (show 0 ≤ p.E by omega)
    rw [decide_eq_false (by omega), cond_false]
theorem missed_end {t last s n : Int} {L : List Part} {D : List Int} {x : Nat} (h : miss14I t L D last s n x) (hx : slotOk last s = false ∨ x = L.length) : missedM (rowOf t L D) last s = n := by
  unfold missedM
  cases hs : slotOk last s
  · have h0 := h.off hs
    subst h0
    have := h.n0; have := h.n1
    rw [cond_false]; omega
  · rcases hx with hx | rfl
    · rw [hs] at hx; cases hx
    · rw [cond_true, h.eq hs, List.drop_of_length_le (by rw [rowOf_length]; exact Nat.le_refl _)]
      rfl
theorem eqJ (a b : Job) : (a.Part == b.Part && (a.Index == b.Index && (a.Release == b.Release && (a.Deadline == b.Deadline && (a.Left == b.Left && true))))) = decide (a = b) := by
  cases a with
  | mk a1 a2 a3 a4 a5 =>
    cases b with
    | mk b1 b2 b3 b4 b5 =>
      rw [Bool.eq_iff_iff]
      simp [Job.mk.injEq]
def jobs14 (t : Int) (L : List Part) (D : List Int) (last s : Int) : List Job := bif slotOk last s then jobsL s (rowOf t L D) else []
structure jobs1I (t : Int) (L : List Part) (D : List Int) (last s : Int) (A : List Job) (x : Nat) : Prop where
  le : x ≤ L.length
  off : slotOk last s = false → x = 0
  eq : A = srtT ltJ (allJ s ((rowOf t L D).take x))
structure jobs2I (t : Int) (L : List Part) (D : List Int) (s : Int) (i : Int) (A : List Job) (n : Nat) : Prop where
  le : n ≤ (eachA s (at' ownE.zero (rowOf t L D) i)).length
  eq : A = srtT ltJ (allJ s ((rowOf t L D).take i.toNat) ++ (eachA s (at' ownE.zero (rowOf t L D) i)).take n)
structure jobs3I (t : Int) (L : List Part) (D : List Int) (i n : Int) (A : List Job) (q : List Job × Bool) (k : Nat) : Prop where
  le : k ≤ A.length
  eq : q = putF (jobAt t i (at' partE.zero L i) (at' 0 D i) n) (A.take k)
theorem jobs1_end {t last s : Int} {L : List Part} {D : List Int} {A : List Job} {x : Nat} (h : jobs1I t L D last s A x) (hx : slotOk last s = false ∨ x = L.length) : jobs14 t L D last s = A := by
  unfold jobs14
  cases hs : slotOk last s
  · have h0 := h.off hs
    subst h0
    rw [cond_false, h.eq]
    exact (srtT_nil (TL := ltJ)).symm
  · rcases hx with hx | rfl
    · rw [hs] at hx; cases hx
    · rw [cond_true, h.eq, List.take_of_length_le (by rw [rowOf_length]; exact Nat.le_refl _)]
      rfl
theorem jobs1I.init {t last s : Int} {L : List Part} {D : List Int} : jobs1I t L D last s [] 0 :=
  ⟨Nat.zero_le _, fun _ => rfl, (srtT_nil (TL := ltJ)).symm⟩
theorem jobs2I.init {t last s : Int} {L : List Part} {D : List Int} {A : List Job} {x : Nat} (h : jobs1I t L D last s A x) : jobs2I t L D s x A 0 :=
  ⟨Nat.zero_le _, by rw [List.take_zero, List.append_nil, Int.toNat_natCast]; exact h.eq⟩
theorem jobs2I.done {t last s : Int} {L : List Part} {D : List Int} {A : List Job} {x n : Nat} (hx : x < L.length) (hs : slotOk last s = true) (h : jobs2I t L D s x A n) (hn : ¬ n < (eachA s (at' ownE.zero (rowOf t L D) (x : Int))).length) : jobs1I t L D last s A (x + 1) := by
  have hxM : x < (rowOf t L D).length := by rw [rowOf_length]; exact hx
  refine ⟨hx, fun g => (by rw [hs] at g; cases g), ?_⟩
  have e := h.eq
  rw [List.take_of_length_le (l := eachA s (at' ownE.zero (rowOf t L D) (x : Int))) (by omega), Int.toNat_natCast, at_nat hxM] at e
  rw [allJ_take hxM]; exact e
theorem jobs2I.step {t s : Int} {L : List Part} {D : List Int} {A : List Job} {x n : Nat} (hO : RefOk t L D) (hs : s ≤ 1099511627776) (hx : x < L.length) (h : jobs2I t L D s x A n) (hn : n < (eachA s (at' ownE.zero (rowOf t L D) (x : Int))).length) :
    jobs2I t L D s x (putE ((eachA s (at' ownE.zero (rowOf t L D) (x : Int)))[n]) A) (n + 1) := by
  have hxM : x < (rowOf t L D).length := by rw [rowOf_length]; exact hx
  refine ⟨hn, ?_⟩
  have e := h.eq
  rw [e, Int.toNat_natCast]
  have hp : PreT ltJ ltJ (allJ s ((rowOf t L D).take x) ++ (eachA s (at' ownE.zero (rowOf t L D) (x : Int))).take (n + 1)) := by
    refine (allJ_pre hO.row hs).sublist ?_
    have h1 : allJ s ((rowOf t L D).take (x + 1)) = allJ s ((rowOf t L D).take x) ++ eachA s (rowOf t L D)[x] := allJ_take hxM
    have h2 : (allJ s ((rowOf t L D).take (x + 1))).Sublist (allJ s (rowOf t L D)) := by
      have e2 : allJ s (rowOf t L D) = allJ s ((rowOf t L D).take (x + 1)) ++ allJ s ((rowOf t L D).drop (x + 1)) := by
        unfold allJ
        rw [← List.flatMap_append, List.take_append_drop]
      rw [e2]
      exact List.sublist_append_left _ _
    refine List.Sublist.trans ?_ h2
    rw [h1, at_nat hxM]
    exact List.Sublist.append_left (List.take_sublist _ _) _
  rw [List.take_succ_eq_append_getElem hn, ← List.append_assoc] at hp ⊢
  exact put_sort hp
theorem jobs2_len {t s : Int} {L : List Part} {D : List Int} {A : List Job} {x n : Nat} (hO : RefOk t L D) (h : jobs2I t L D s x A n) : A.length ≤ 10000 := by
  have h1 := allJ_length s ((rowOf t L D).take ((x : Int).toNat))
  have h2 := eachN_length mostJ s (at' ownE.zero (rowOf t L D) (x : Int))
  rw [← eachA_def, mostJ_eq] at h2
  have h3 := hO.len
  have h4 := rowOf_length t L D
  rw [h.eq, srtT_length, List.length_append, List.length_take]
  rw [List.length_take] at h1
  omega
theorem putF_len (j : Job) (l : List Job) : (putF j l).1.length = l.length + (bif (putF j l).2 then 1 else 0) := by
  obtain ⟨X, Y, h1, _, h3⟩ := putS_false j l []
  unfold putF
  rcases h3 with ⟨h4, h5⟩ | ⟨o, Z, h4, h5, h6⟩
  · rw [h5, h1, h4]; simp
  · rw [h6, h1]; simp; omega
theorem ltJ_parts (j o : Job) : ltJ j o = (decide (j.Deadline < o.Deadline) || (j.Deadline == o.Deadline && decide (j.Part < o.Part))) := by
  rw [Bool.eq_iff_iff, ltJ_iff]
  simp

/-! ### regatta/regattaref14.New -/
def r14NewText (L : List Part) (t : Int) : Prop := ((True ∧ True) ∧ ((L = L) ∧ (((True ∧ ((t = t) ∧ ((t = t) ∧ True))) ∧ ((zeros8 = [(0 : Int), (0 : Int), (0 : Int), (0 : Int), (0 : Int), (0 : Int), (0 : Int), (0 : Int)]) ∧ (((0 : Int) = (0 : Int)) ∧ (((0 : Int) = (0 : Int)) ∧ True)))) ∧ True)))
theorem r14NewVc (L : List Part) (t : Int) : fnX { X33 with mix := fun x => match x == 67 with | true => some (3, 0, 8) | false => none } (noAnn) Try.f28 [.own 0, .raw (.int .i64 t)] [.ro 3 L] (ends [.ro 3 L] ⟨some (.ptr 1 0), [(1, some (.mix [.own 0, .raw (.int .i64 t), .raw (.int .i64 t)] 0 8 zeros8 [.raw (.int .i64 0), .raw (.int .i64 0)] 67))]⟩) = r14NewText L t := by kernel_rfl
theorem r14NewHolds (L : List Part) (t : Int) : r14NewText L t := by
  unfold r14NewText
  repeat' first | apply And.intro | exact True.intro | with_reducible rfl | exact rfl
noncomputable def r14NewCon : Con T O := fun args cs => match args, cs with
  | [.own 0, .raw (.int .i64 t)], [.ro 3 _] => .ret ⟨some (.ptr 1 0), [(1, some (.mix [.own 0, .raw (.int .i64 t), .raw (.int .i64 t)] 0 8 zeros8 [.raw (.int .i64 0), .raw (.int .i64 0)] 67))]⟩
  | _, _ => .fail
theorem r14NewOk : ConOk R Try.prog 28 r14NewCon := con_of_fn R ({ X33 with mix := fun x => match x == 67 with | true => some (3, 0, 8) | false => none }) (TabOk.con R X33Ok) mixed Try.call28 Try.func28 r14NewCon (by
  intro args cs K h
  unfold r14NewCon at h
  split at h
  · rename_i t L
    refine ⟨noAnn, _, fun v S hv => ⟨_, h, hv⟩, ?_⟩
    rw [r14NewVc L t]
    exact r14NewHolds L t
  · exact h.elim)
/-! ### (*regatta/regattaref14.Super).slot -/
def r14SlotText (L : List Part) (D : List Int) (t last served idle s : Int) : Prop := (match (decide (s ≥ last)) with | true => (((slotOk last s = decide (s ≤ (1099511627776 : Int))) ∧ True) ∧ (((True ∧ ((t = t) ∧ ((last = last) ∧ True))) ∧ ((D = D) ∧ ((served = served) ∧ ((idle = idle) ∧ True)))) ∧ ((L = L) ∧ True))) | false => (((slotOk last s = false) ∧ True) ∧ (((True ∧ ((t = t) ∧ ((last = last) ∧ True))) ∧ ((D = D) ∧ ((served = served) ∧ ((idle = idle) ∧ True)))) ∧ ((L = L) ∧ True))))
theorem r14SlotVc (L : List Part) (D : List Int) (t last served idle s : Int) : fnX X33 (noAnn) Try.f59 [.ptr 0 0, .raw (.int .i64 s)] [.mix [.own 1, .raw (.int .i64 t), .raw (.int .i64 last)] 0 8 D [.raw (.int .i64 served), .raw (.int .i64 idle)] 67, .ro 3 L] (ends [.mix [.own 1, .raw (.int .i64 t), .raw (.int .i64 last)] 0 8 D [.raw (.int .i64 served), .raw (.int .i64 idle)] 67, .ro 3 L] ⟨some (.raw (.bool (slotOk last s))), []⟩) = r14SlotText L D t last served idle s := by kernel_rfl
theorem r14SlotHolds (L : List Part) (D : List Int) (t last served idle s : Int) : r14SlotText L D t last served idle s := by
  unfold r14SlotText slotOk
  cases decide (s ≥ last)
  · rw [Bool.false_and]
    repeat' first | apply And.intro | exact True.intro | with_reducible rfl | exact rfl
  · rw [Bool.true_and]
    repeat' first | apply And.intro | exact True.intro | with_reducible rfl | exact rfl
noncomputable def r14SlotCon : Con T O := fun args cs => match args, cs with
  | [.ptr 0 0, .raw (.int .i64 s)], [.mix [.own 1, .raw (.int .i64 _), .raw (.int .i64 last)] 0 8 _ [.raw (.int .i64 _), .raw (.int .i64 _)] 67, .ro 3 _] => .ret ⟨some (.raw (.bool (slotOk last s))), []⟩
  | _, _ => .fail
theorem r14SlotOk : ConOk R Try.prog 59 r14SlotCon := con_of_fn R (X33) (TabOk.con R X33Ok) mixed Try.call59 Try.func59 r14SlotCon (by
  intro args cs K h
  unfold r14SlotCon at h
  split at h
  · rename_i s t last D served idle L
    refine ⟨noAnn, _, fun v S hv => ⟨_, h, hv⟩, ?_⟩
    rw [r14SlotVc L D t last served idle s]
    exact r14SlotHolds L D t last served idle s
  · exact h.elim)
/-! ### (*regatta/regattaref14.Super).released -/
def r14RelText (L : List Part) (D : List Int) (t last served idle i s : Int) : Prop := (match (inb i L.length) with | true => (match (inb i L.length) with | true => (match ((at' partE.zero L i).P != (0 : Int)) with | true => ((((s - t) / (at' partE.zero L i).P + (1 : Int) = IntKind.i64.wrap (IntKind.i64.wrap ((IntKind.i64.wrap (s - t)).tdiv (at' partE.zero L i).P) + (1 : Int))) ∧ True) ∧ (((True ∧ ((t = t) ∧ ((last = last) ∧ True))) ∧ ((D = D) ∧ ((served = served) ∧ ((idle = idle) ∧ True)))) ∧ ((L = L) ∧ True))) | false => False) | false => False) | false => False)
theorem r14RelVc (L : List Part) (D : List Int) (t last served idle i s : Int) : fnX X33 (noAnn) Try.f60 [.ptr 0 0, .raw (.int .i64 i), .raw (.int .i64 s)] [.mix [.own 1, .raw (.int .i64 t), .raw (.int .i64 last)] 0 8 D [.raw (.int .i64 served), .raw (.int .i64 idle)] 67, .ro 3 L] (ends [.mix [.own 1, .raw (.int .i64 t), .raw (.int .i64 last)] 0 8 D [.raw (.int .i64 served), .raw (.int .i64 idle)] 67, .ro 3 L] ⟨some (.raw (.int .i64 ((s - t) / (at' partE.zero L i).P + 1))), []⟩) = r14RelText L D t last served idle i s := by kernel_rfl
theorem r14RelHolds (L : List Part) (D : List Int) (t last served idle i s : Int) (hp : RefOk t L D ∧ 0 ≤ i ∧ i < L.length ∧ t ≤ s ∧ s ≤ 1099511627776) : r14RelText L D t last served idle i s := by
  unfold r14RelText
  obtain ⟨hO, h1, h2, h3, h4⟩ := hp
  obtain ⟨k, rfl⟩ := Int.eq_ofNat_of_zero_le h1
  have hk : k < L.length := by omega
  obtain ⟨o1, o2, o3⟩ := hO.parts k hk
  have t0 := hO.t0
  have q0 : 0 ≤ (s - t) / L[k].P := Int.ediv_nonneg (by omega) (by omega)
  have q1 : (s - t) / L[k].P ≤ s - t := Int.ediv_le_self _ (by omega)
  rw [inb_nat hk, at_nat hk, show (L[k].P != 0) = true from bne_iff_ne.2 (by omega), wrap_id (n := s - t) (by omega) (by omega), Int.tdiv_eq_ediv_of_nonneg (show 0 ≤ s - t by omega), wrap_id (n := (s - t) / L[k].P) (by omega) (by omega), wrap_id (n := (s - t) / L[k].P + 1) (by omega) (by omega)]
  repeat' first | apply And.intro | exact True.intro | with_reducible rfl | exact rfl
noncomputable def r14RelCon : Con T O := fun args cs => match args, cs with
  | [.ptr 0 0, .raw (.int .i64 i), .raw (.int .i64 s)], [.mix [.own 1, .raw (.int .i64 t), .raw (.int .i64 _)] 0 8 D [.raw (.int .i64 _), .raw (.int .i64 _)] 67, .ro 3 L] => chk (decide (RefOk t L D ∧ 0 ≤ i ∧ i < L.length ∧ t ≤ s ∧ s ≤ 1099511627776)) (.ret ⟨some (.raw (.int .i64 ((s - t) / (at' partE.zero L i).P + 1))), []⟩)
  | _, _ => .fail
theorem r14RelOk : ConOk R Try.prog 60 r14RelCon := con_of_fn R (X33) (TabOk.con R X33Ok) mixed Try.call60 Try.func60 r14RelCon (by
  intro args cs K h
  unfold r14RelCon at h
  split at h
  · rename_i i s t last D served idle L
    rw [Tree.holds_chk] at h
    obtain ⟨hp, h⟩ := h
    refine ⟨noAnn, _, fun v S hv => ⟨_, h, hv⟩, ?_⟩
    rw [r14RelVc L D t last served idle i s]
    exact r14RelHolds L D t last served idle i s (of_decide_eq_true hp)
  · exact h.elim)
/-! ### (*regatta/regattaref14.Super).job -/
def r14JobText (L : List Part) (D : List Int) (t last served idle i n : Int) : Prop := (match (inb i L.length) with | true => (match (inb i L.length) with | true => (match (inb i (8 : Nat)) with | true => (match (inb i D.length) with | true => (match (decide (IntKind.i64.wrap (at' (0 : Int) D i - IntKind.i64.wrap (n * (at' partE.zero L i).E)) < (0 : Int))) with | true => (((((jobAt t i (at' partE.zero L i) (at' (0 : Int) D i) n).Part = i) ∧ (((jobAt t i (at' partE.zero L i) (at' (0 : Int) D i) n).Index = n) ∧ (((jobAt t i (at' partE.zero L i) (at' (0 : Int) D i) n).Release = IntKind.i64.wrap (t + IntKind.i64.wrap (n * (at' partE.zero L i).P))) ∧ (((jobAt t i (at' partE.zero L i) (at' (0 : Int) D i) n).Deadline = IntKind.i64.wrap (t + IntKind.i64.wrap (IntKind.i64.wrap (n + (1 : Int)) * (at' partE.zero L i).P))) ∧ (((jobAt t i (at' partE.zero L i) (at' (0 : Int) D i) n).Left = IntKind.i64.wrap ((at' partE.zero L i).E - (0 : Int))) ∧ True))))) ∧ True) ∧ (((True ∧ ((t = t) ∧ ((last = last) ∧ True))) ∧ ((D = D) ∧ ((served = served) ∧ ((idle = idle) ∧ True)))) ∧ ((L = L) ∧ True))) | false => (((((jobAt t i (at' partE.zero L i) (at' (0 : Int) D i) n).Part = i) ∧ (((jobAt t i (at' partE.zero L i) (at' (0 : Int) D i) n).Index = n) ∧ (((jobAt t i (at' partE.zero L i) (at' (0 : Int) D i) n).Release = IntKind.i64.wrap (t + IntKind.i64.wrap (n * (at' partE.zero L i).P))) ∧ (((jobAt t i (at' partE.zero L i) (at' (0 : Int) D i) n).Deadline = IntKind.i64.wrap (t + IntKind.i64.wrap (IntKind.i64.wrap (n + (1 : Int)) * (at' partE.zero L i).P))) ∧ (((jobAt t i (at' partE.zero L i) (at' (0 : Int) D i) n).Left = IntKind.i64.wrap ((at' partE.zero L i).E - IntKind.i64.wrap (at' (0 : Int) D i - IntKind.i64.wrap (n * (at' partE.zero L i).E)))) ∧ True))))) ∧ True) ∧ (((True ∧ ((t = t) ∧ ((last = last) ∧ True))) ∧ ((D = D) ∧ ((served = served) ∧ ((idle = idle) ∧ True)))) ∧ ((L = L) ∧ True)))) | false => False) | false => False) | false => False) | false => False)
theorem r14JobVc (L : List Part) (D : List Int) (t last served idle i n : Int) : fnX X33 (noAnn) Try.f61 [.ptr 0 0, .raw (.int .i64 i), .raw (.int .i64 n)] [.mix [.own 1, .raw (.int .i64 t), .raw (.int .i64 last)] 0 8 D [.raw (.int .i64 served), .raw (.int .i64 idle)] 67, .ro 3 L] (ends [.mix [.own 1, .raw (.int .i64 t), .raw (.int .i64 last)] 0 8 D [.raw (.int .i64 served), .raw (.int .i64 idle)] 67, .ro 3 L] ⟨some (.agg [.raw (.int .i64 (jobAt t i (at' partE.zero L i) (at' 0 D i) n).Part), .raw (.int .i64 (jobAt t i (at' partE.zero L i) (at' 0 D i) n).Index), .raw (.int .i64 (jobAt t i (at' partE.zero L i) (at' 0 D i) n).Release), .raw (.int .i64 (jobAt t i (at' partE.zero L i) (at' 0 D i) n).Deadline), .raw (.int .i64 (jobAt t i (at' partE.zero L i) (at' 0 D i) n).Left)]), []⟩) = r14JobText L D t last served idle i n := by kernel_rfl
theorem r14JobHolds (L : List Part) (D : List Int) (t last served idle i n : Int) (hp : RefOk t L D ∧ 0 ≤ i ∧ i < L.length ∧ 0 ≤ n ∧ n ≤ 1099512677376) : r14JobText L D t last served idle i n := by
  unfold r14JobText
  obtain ⟨hO, h1, h2, h3, h4⟩ := hp
  obtain ⟨k, rfl⟩ := Int.eq_ofNat_of_zero_le h1
  have hk : k < L.length := by omega
  have hkD := hO.lt hk
  obtain ⟨o1, o2, o3⟩ := hO.parts k hk
  obtain ⟨b1, b2, b3, b4, b5⟩ := hO.bound hk hkD
  have hlen := hO.len
  have t0 := hO.t0
  have t1 := hO.t1
  have m0 : 0 ≤ n * L[k].E := Int.mul_nonneg h3 (by omega)
  have m1 : n * L[k].E ≤ 1099512677376 * 1048576 := Int.mul_le_mul h4 (by omega) (by omega) (by decide)
  have m2 : 0 ≤ n * L[k].P := Int.mul_nonneg h3 (by omega)
  have m3 : n * L[k].P ≤ 1099512677376 * 1048576 := Int.mul_le_mul h4 (by omega) (by omega) (by decide)
  have m4 : (n + 1) * L[k].P = n * L[k].P + L[k].P := by rw [Int.add_mul, Int.one_mul]
  rw [inb_nat hk, at_nat hk, inb_nat hkD, at_nat hkD, show inb (k : Int) 8 = true from inb_nat (by omega), wrap_id (n := n + 1) (by omega) (by omega), wrap_id (n := n * L[k].E) (by omega) (by omega), wrap_id (n := n * L[k].P) (by omega) (by omega), wrap_id (n := (n + 1) * L[k].P) (by omega) (by omega), wrap_id (n := D[k] - n * L[k].E) (by omega) (by omega), wrap_id (n := t + n * L[k].P) (by omega) (by omega), wrap_id (n := t + (n + 1) * L[k].P) (by omega) (by omega)]
  by_cases g : D[k] - n * L[k].E < 0
  · have e : (jobAt t k L[k] D[k] n).Left = L[k].E - 0 := by unfold jobAt; rw [decide_eq_true g]; rfl
    rw [decide_eq_true g, wrap_id (n := L[k].E - 0) (by omega) (by omega)]
    repeat' first | exact e | apply And.intro | exact True.intro | with_reducible rfl | exact rfl
  · have e : (jobAt t k L[k] D[k] n).Left = L[k].E - (D[k] - n * L[k].E) := by unfold jobAt; rw [decide_eq_false g]; rfl
    rw [decide_eq_false g, wrap_id (n := L[k].E - (D[k] - n * L[k].E)) (by omega) (by omega)]
    repeat' first | exact e | apply And.intro | exact True.intro | with_reducible rfl | exact rfl
noncomputable def r14JobCon : Con T O := fun args cs => match args, cs with
  | [.ptr 0 0, .raw (.int .i64 i), .raw (.int .i64 n)], [.mix [.own 1, .raw (.int .i64 t), .raw (.int .i64 _)] 0 8 D [.raw (.int .i64 _), .raw (.int .i64 _)] 67, .ro 3 L] => chk (decide (RefOk t L D ∧ 0 ≤ i ∧ i < L.length ∧ 0 ≤ n ∧ n ≤ 1099512677376)) (.ret ⟨some (.agg [.raw (.int .i64 (jobAt t i (at' partE.zero L i) (at' 0 D i) n).Part), .raw (.int .i64 (jobAt t i (at' partE.zero L i) (at' 0 D i) n).Index), .raw (.int .i64 (jobAt t i (at' partE.zero L i) (at' 0 D i) n).Release), .raw (.int .i64 (jobAt t i (at' partE.zero L i) (at' 0 D i) n).Deadline), .raw (.int .i64 (jobAt t i (at' partE.zero L i) (at' 0 D i) n).Left)]), []⟩)
  | _, _ => .fail
theorem r14JobOk : ConOk R Try.prog 61 r14JobCon := con_of_fn R (X33) (TabOk.con R X33Ok) mixed Try.call61 Try.func61 r14JobCon (by
  intro args cs K h
  unfold r14JobCon at h
  split at h
  · rename_i i n t last D served idle L
    rw [Tree.holds_chk] at h
    obtain ⟨hp, h⟩ := h
    refine ⟨noAnn, _, fun v S hv => ⟨_, h, hv⟩, ?_⟩
    rw [r14JobVc L D t last served idle i n]
    exact r14JobHolds L D t last served idle i n (of_decide_eq_true hp)
  · exact h.elim)
noncomputable def tab34 : Tab T O := (28, r14NewCon) :: (59, r14SlotCon) :: (60, r14RelCon) :: (61, r14JobCon) :: tab33
theorem tabOk34 : TabOk R Try.prog tab34 := TabOk.cons R r14NewOk <| TabOk.cons R r14SlotOk <| TabOk.cons R r14RelOk <| TabOk.cons R r14JobOk <| tabOk33
noncomputable def X34 : Ctx T O := { X0 with con := conOf tab34 }
theorem X34Ok : TabOk R X34.P tab34 := tabOk34
end Go.Proofs.Ytmnnjclnldaejaa

namespace Go.Proofs.Ytmnnjclnldaejaa
open Go.Sx Go.Proofs Classical
/-! ### (*regatta/regattaref14.Super).Grant -/
def r14GrantText (L : List Part) (D : List Int) (t last served idle s : Int) : Prop := (match (!slotOk last s) with | true => ((((((grantJ (rowOf t L D) last s).Part = (0 : Int)) ∧ (((grantJ (rowOf t L D) last s).Index = (0 : Int)) ∧ (((grantJ (rowOf t L D) last s).Release = (0 : Int)) ∧ (((grantJ (rowOf t L D) last s).Deadline = (0 : Int)) ∧ (((grantJ (rowOf t L D) last s).Left = (0 : Int)) ∧ True))))) ∧ ((grantIs (rowOf t L D) last s = false) ∧ True)) ∧ True) ∧ (((True ∧ ((t = t) ∧ ((grantLast last s = last) ∧ True))) ∧ ((grantD L D t last s = D) ∧ ((grantServed (rowOf t L D) last served s = served) ∧ ((grantIdle (rowOf t L D) last idle s = idle) ∧ True)))) ∧ ((L = L) ∧ True))) | false => ((∃ x : Nat, ((x.le L.length) ∧ ((True ∧ ((s = s) ∧ (True ∧ ((false = false) ∧ (True ∧ (((↑x : Int) = (0 : Int)) ∧ True)))))) ∧ (((True ∧ ((t = t) ∧ ((s = s) ∧ True))) ∧ ((D = D) ∧ ((served = served) ∧ ((idle = idle) ∧ True)))) ∧ ((L = L) ∧ ((((0 : Int) = (0 : Int)) ∧ (((0 : Int) = (0 : Int)) ∧ (((0 : Int) = (0 : Int)) ∧ (((0 : Int) = (0 : Int)) ∧ (((0 : Int) = (0 : Int)) ∧ True))))) ∧ ((((bestJ (rowOf t L D) (bestG (rowOf t L D) s x)).Part = (-1 : Int)) ∧ (((bestJ (rowOf t L D) (bestG (rowOf t L D) s x)).Index = (0 : Int)) ∧ (((bestJ (rowOf t L D) (bestG (rowOf t L D) s x)).Release = (0 : Int)) ∧ (((bestJ (rowOf t L D) (bestG (rowOf t L D) s x)).Deadline = (0 : Int)) ∧ (((bestJ (rowOf t L D) (bestG (rowOf t L D) s x)).Left = (0 : Int)) ∧ True))))) ∧ True))))))) ∧ (∀ x : Nat, ((x.le L.length) → (match (decide ((↑x : Int) < (↑L.length : Int))) with | true => (match (inb (↑x : Int) (8 : Nat)) with | true => (match (inb (↑x : Int) D.length) with | true => (match (inb (↑x : Int) L.length) with | true => (match (inb (↑x : Int) L.length) with | true => (match ((at' partE.zero L (↑x : Int)).E != (0 : Int)) with | true => (match (decide (RefOk t L D ∧ (0 : Int) ≤ (↑x : Int) ∧ (↑x : Int) < (↑L.length : Int) ∧ t ≤ s ∧ s ≤ (1099511627776 : Int))) with | true => (match (decide (IntKind.i64.wrap (Int.tdiv (at' (0 : Int) D (↑x : Int)) (at' partE.zero L (↑x : Int)).E) ≥ (s - t) / (at' partE.zero L (↑x : Int)).P + (1 : Int))) with | true => (∃ x' : Nat, ((x'.le L.length) ∧ ((L.length - x' < L.length - x) ∧ ((True ∧ ((s = s) ∧ (True ∧ ((false = false) ∧ (True ∧ (((↑x' : Int) = IntKind.i64.wrap ((↑x : Int) + (1 : Int))) ∧ True)))))) ∧ (((True ∧ ((t = t) ∧ ((s = s) ∧ True))) ∧ ((D = D) ∧ ((served = served) ∧ ((idle = idle) ∧ True)))) ∧ ((L = L) ∧ ((((0 : Int) = (0 : Int)) ∧ (((0 : Int) = (0 : Int)) ∧ (((0 : Int) = (0 : Int)) ∧ (((0 : Int) = (0 : Int)) ∧ (((0 : Int) = (0 : Int)) ∧ True))))) ∧ ((((bestJ (rowOf t L D) (bestG (rowOf t L D) s x')).Part = (bestJ (rowOf t L D) (bestG (rowOf t L D) s x)).Part) ∧ (((bestJ (rowOf t L D) (bestG (rowOf t L D) s x')).Index = (bestJ (rowOf t L D) (bestG (rowOf t L D) s x)).Index) ∧ (((bestJ (rowOf t L D) (bestG (rowOf t L D) s x')).Release = (bestJ (rowOf t L D) (bestG (rowOf t L D) s x)).Release) ∧ (((bestJ (rowOf t L D) (bestG (rowOf t L D) s x')).Deadline = (bestJ (rowOf t L D) (bestG (rowOf t L D) s x)).Deadline) ∧ (((bestJ (rowOf t L D) (bestG (rowOf t L D) s x')).Left = (bestJ (rowOf t L D) (bestG (rowOf t L D) s x)).Left) ∧ True))))) ∧ True)))))))) | false => (match (decide (RefOk t L D ∧ (0 : Int) ≤ (↑x : Int) ∧ (↑x : Int) < (↑L.length : Int) ∧ (0 : Int) ≤ IntKind.i64.wrap (Int.tdiv (at' (0 : Int) D (↑x : Int)) (at' partE.zero L (↑x : Int)).E) ∧ IntKind.i64.wrap (Int.tdiv (at' (0 : Int) D (↑x : Int)) (at' partE.zero L (↑x : Int)).E) ≤ (1099512677376 : Int))) with | true => (match (decide ((bestJ (rowOf t L D) (bestG (rowOf t L D) s x)).Part < (0 : Int))) with | true => (∃ x' : Nat, ((x'.le L.length) ∧ ((L.length - x' < L.length - x) ∧ ((True ∧ ((s = s) ∧ (True ∧ ((false = false) ∧ (True ∧ (((↑x' : Int) = IntKind.i64.wrap ((↑x : Int) + (1 : Int))) ∧ True)))))) ∧ (((True ∧ ((t = t) ∧ ((s = s) ∧ True))) ∧ ((D = D) ∧ ((served = served) ∧ ((idle = idle) ∧ True)))) ∧ ((L = L) ∧ ((((0 : Int) = (0 : Int)) ∧ (((0 : Int) = (0 : Int)) ∧ (((0 : Int) = (0 : Int)) ∧ (((0 : Int) = (0 : Int)) ∧ (((0 : Int) = (0 : Int)) ∧ True))))) ∧ ((((bestJ (rowOf t L D) (bestG (rowOf t L D) s x')).Part = (jobAt t (↑x : Int) (at' partE.zero L (↑x : Int)) (at' (0 : Int) D (↑x : Int)) (IntKind.i64.wrap (Int.tdiv (at' (0 : Int) D (↑x : Int)) (at' partE.zero L (↑x : Int)).E))).Part) ∧ (((bestJ (rowOf t L D) (bestG (rowOf t L D) s x')).Index = (jobAt t (↑x : Int) (at' partE.zero L (↑x : Int)) (at' (0 : Int) D (↑x : Int)) (IntKind.i64.wrap (Int.tdiv (at' (0 : Int) D (↑x : Int)) (at' partE.zero L (↑x : Int)).E))).Index) ∧ (((bestJ (rowOf t L D) (bestG (rowOf t L D) s x')).Release = (jobAt t (↑x : Int) (at' partE.zero L (↑x : Int)) (at' (0 : Int) D (↑x : Int)) (IntKind.i64.wrap (Int.tdiv (at' (0 : Int) D (↑x : Int)) (at' partE.zero L (↑x : Int)).E))).Release) ∧ (((bestJ (rowOf t L D) (bestG (rowOf t L D) s x')).Deadline = (jobAt t (↑x : Int) (at' partE.zero L (↑x : Int)) (at' (0 : Int) D (↑x : Int)) (IntKind.i64.wrap (Int.tdiv (at' (0 : Int) D (↑x : Int)) (at' partE.zero L (↑x : Int)).E))).Deadline) ∧ (((bestJ (rowOf t L D) (bestG (rowOf t L D) s x')).Left = (jobAt t (↑x : Int) (at' partE.zero L (↑x : Int)) (at' (0 : Int) D (↑x : Int)) (IntKind.i64.wrap (Int.tdiv (at' (0 : Int) D (↑x : Int)) (at' partE.zero L (↑x : Int)).E))).Left) ∧ True))))) ∧ True)))))))) | false => (match (decide ((jobAt t (↑x : Int) (at' partE.zero L (↑x : Int)) (at' (0 : Int) D (↑x : Int)) (IntKind.i64.wrap (Int.tdiv (at' (0 : Int) D (↑x : Int)) (at' partE.zero L (↑x : Int)).E))).Deadline < (bestJ (rowOf t L D) (bestG (rowOf t L D) s x)).Deadline)) with | true => (∃ x' : Nat, ((x'.le L.length) ∧ ((L.length - x' < L.length - x) ∧ ((True ∧ ((s = s) ∧ (True ∧ ((false = false) ∧ (True ∧ (((↑x' : Int) = IntKind.i64.wrap ((↑x : Int) + (1 : Int))) ∧ True)))))) ∧ (((True ∧ ((t = t) ∧ ((s = s) ∧ True))) ∧ ((D = D) ∧ ((served = served) ∧ ((idle = idle) ∧ True)))) ∧ ((L = L) ∧ ((((0 : Int) = (0 : Int)) ∧ (((0 : Int) = (0 : Int)) ∧ (((0 : Int) = (0 : Int)) ∧ (((0 : Int) = (0 : Int)) ∧ (((0 : Int) = (0 : Int)) ∧ True))))) ∧ ((((bestJ (rowOf t L D) (bestG (rowOf t L D) s x')).Part = (jobAt t (↑x : Int) (at' partE.zero L (↑x : Int)) (at' (0 : Int) D (↑x : Int)) (IntKind.i64.wrap (Int.tdiv (at' (0 : Int) D (↑x : Int)) (at' partE.zero L (↑x : Int)).E))).Part) ∧ (((bestJ (rowOf t L D) (bestG (rowOf t L D) s x')).Index = (jobAt t (↑x : Int) (at' partE.zero L (↑x : Int)) (at' (0 : Int) D (↑x : Int)) (IntKind.i64.wrap (Int.tdiv (at' (0 : Int) D (↑x : Int)) (at' partE.zero L (↑x : Int)).E))).Index) ∧ (((bestJ (rowOf t L D) (bestG (rowOf t L D) s x')).Release = (jobAt t (↑x : Int) (at' partE.zero L (↑x : Int)) (at' (0 : Int) D (↑x : Int)) (IntKind.i64.wrap (Int.tdiv (at' (0 : Int) D (↑x : Int)) (at' partE.zero L (↑x : Int)).E))).Release) ∧ (((bestJ (rowOf t L D) (bestG (rowOf t L D) s x')).Deadline = (jobAt t (↑x : Int) (at' partE.zero L (↑x : Int)) (at' (0 : Int) D (↑x : Int)) (IntKind.i64.wrap (Int.tdiv (at' (0 : Int) D (↑x : Int)) (at' partE.zero L (↑x : Int)).E))).Deadline) ∧ (((bestJ (rowOf t L D) (bestG (rowOf t L D) s x')).Left = (jobAt t (↑x : Int) (at' partE.zero L (↑x : Int)) (at' (0 : Int) D (↑x : Int)) (IntKind.i64.wrap (Int.tdiv (at' (0 : Int) D (↑x : Int)) (at' partE.zero L (↑x : Int)).E))).Left) ∧ True))))) ∧ True)))))))) | false => (∃ x' : Nat, ((x'.le L.length) ∧ ((L.length - x' < L.length - x) ∧ ((True ∧ ((s = s) ∧ (True ∧ ((false = false) ∧ (True ∧ (((↑x' : Int) = IntKind.i64.wrap ((↑x : Int) + (1 : Int))) ∧ True)))))) ∧ (((True ∧ ((t = t) ∧ ((s = s) ∧ True))) ∧ ((D = D) ∧ ((served = served) ∧ ((idle = idle) ∧ True)))) ∧ ((L = L) ∧ ((((0 : Int) = (0 : Int)) ∧ (((0 : Int) = (0 : Int)) ∧ (((0 : Int) = (0 : Int)) ∧ (((0 : Int) = (0 : Int)) ∧ (((0 : Int) = (0 : Int)) ∧ True))))) ∧ ((((bestJ (rowOf t L D) (bestG (rowOf t L D) s x')).Part = (bestJ (rowOf t L D) (bestG (rowOf t L D) s x)).Part) ∧ (((bestJ (rowOf t L D) (bestG (rowOf t L D) s x')).Index = (bestJ (rowOf t L D) (bestG (rowOf t L D) s x)).Index) ∧ (((bestJ (rowOf t L D) (bestG (rowOf t L D) s x')).Release = (bestJ (rowOf t L D) (bestG (rowOf t L D) s x)).Release) ∧ (((bestJ (rowOf t L D) (bestG (rowOf t L D) s x')).Deadline = (bestJ (rowOf t L D) (bestG (rowOf t L D) s x)).Deadline) ∧ (((bestJ (rowOf t L D) (bestG (rowOf t L D) s x')).Left = (bestJ (rowOf t L D) (bestG (rowOf t L D) s x)).Left) ∧ True))))) ∧ True)))))))))) | false => False)) | false => False) | false => False) | false => False) | false => False) | false => False) | false => False) | false => (match (decide ((bestJ (rowOf t L D) (bestG (rowOf t L D) s x)).Part < (0 : Int))) with | true => ((((((grantJ (rowOf t L D) last s).Part = (0 : Int)) ∧ (((grantJ (rowOf t L D) last s).Index = (0 : Int)) ∧ (((grantJ (rowOf t L D) last s).Release = (0 : Int)) ∧ (((grantJ (rowOf t L D) last s).Deadline = (0 : Int)) ∧ (((grantJ (rowOf t L D) last s).Left = (0 : Int)) ∧ True))))) ∧ ((grantIs (rowOf t L D) last s = false) ∧ True)) ∧ True) ∧ (((True ∧ ((t = t) ∧ ((grantLast last s = s) ∧ True))) ∧ ((grantD L D t last s = D) ∧ ((grantServed (rowOf t L D) last served s = served) ∧ ((grantIdle (rowOf t L D) last idle s = IntKind.i64.wrap (idle + (1 : Int))) ∧ True)))) ∧ ((L = L) ∧ True))) | false => (match (inb (bestJ (rowOf t L D) (bestG (rowOf t L D) s x)).Part (8 : Nat)) with | true => (match (inb (bestJ (rowOf t L D) (bestG (rowOf t L D) s x)).Part D.length) with | true => (match (inb (bestJ (rowOf t L D) (bestG (rowOf t L D) s x)).Part (8 : Nat)) with | true => (match (inb (bestJ (rowOf t L D) (bestG (rowOf t L D) s x)).Part D.length) with | true => ((((((grantJ (rowOf t L D) last s).Part = (bestJ (rowOf t L D) (bestG (rowOf t L D) s x)).Part) ∧ (((grantJ (rowOf t L D) last s).Index = (bestJ (rowOf t L D) (bestG (rowOf t L D) s x)).Index) ∧ (((grantJ (rowOf t L D) last s).Release = (bestJ (rowOf t L D) (bestG (rowOf t L D) s x)).Release) ∧ (((grantJ (rowOf t L D) last s).Deadline = (bestJ (rowOf t L D) (bestG (rowOf t L D) s x)).Deadline) ∧ (((grantJ (rowOf t L D) last s).Left = IntKind.i64.wrap ((bestJ (rowOf t L D) (bestG (rowOf t L D) s x)).Left - (1 : Int))) ∧ True))))) ∧ ((grantIs (rowOf t L D) last s = true) ∧ True)) ∧ True) ∧ (((True ∧ ((t = t) ∧ ((grantLast last s = s) ∧ True))) ∧ ((grantD L D t last s = D.set (bestJ (rowOf t L D) (bestG (rowOf t L D) s x)).Part.toNat (IntKind.i64.wrap (at' (0 : Int) D (bestJ (rowOf t L D) (bestG (rowOf t L D) s x)).Part + (1 : Int)))) ∧ ((grantServed (rowOf t L D) last served s = IntKind.i64.wrap (served + (1 : Int))) ∧ ((grantIdle (rowOf t L D) last idle s = idle) ∧ True)))) ∧ ((L = L) ∧ True))) | false => False) | false => False) | false => False) | false => False)))))))
theorem r14GrantVc (L : List Part) (D : List Int) (t last served idle s : Int) : fnX X34 (oneLoop 7 { σ := Nat, st := fun S x => ((S.keep [0, 1, 4, 5, 7]).int 8 x).at' 7 (.cells (jobE.enc (bestJ (rowOf t L D) (bestG (rowOf t L D) s x))) 52), inv := fun _ x => x ≤ L.length, m := fun x => L.length - x }) Try.f29 [.ptr 0 0, .raw (.int .i64 s)] [.mix [.own 1, .raw (.int .i64 t), .raw (.int .i64 last)] 0 8 D [.raw (.int .i64 served), .raw (.int .i64 idle)] 67, .ro 3 L] (ends [.mix [.own 1, .raw (.int .i64 t), .raw (.int .i64 last)] 0 8 D [.raw (.int .i64 served), .raw (.int .i64 idle)] 67, .ro 3 L] ⟨some (.tup [.agg [.raw (.int .i64 (grantJ (rowOf t L D) last s).Part), .raw (.int .i64 (grantJ (rowOf t L D) last s).Index), .raw (.int .i64 (grantJ (rowOf t L D) last s).Release), .raw (.int .i64 (grantJ (rowOf t L D) last s).Deadline), .raw (.int .i64 (grantJ (rowOf t L D) last s).Left)], .raw (.bool (grantIs (rowOf t L D) last s))]), [(0, some (.mix [.own 1, .raw (.int .i64 t), .raw (.int .i64 (grantLast last s))] 0 8 (grantD L D t last s) [.raw (.int .i64 (grantServed (rowOf t L D) last served s)), .raw (.int .i64 (grantIdle (rowOf t L D) last idle s))] 67))]⟩) = r14GrantText L D t last served idle s := by kernel_rfl
set_option maxHeartbeats 1000000 in
set_option maxRecDepth 20000 in
theorem r14GrantHolds (L : List Part) (D : List Int) (t last served idle s : Int) (hp : RefOk t L D ∧ t ≤ last ∧ 0 ≤ served ∧ served ≤ 1099511627776 ∧ 0 ≤ idle ∧ idle ≤ 1099511627776) : r14GrantText L D t last served idle s := by
  unfold r14GrantText
  obtain ⟨hO, htl, hs0, hs1, hi0, hi1⟩ := hp
  have hR := hO.row
  have hlen := hO.len
  have hdl := hO.dlen
  have hml := rowOf_length t L D
  cases hs : slotOk last s
  · obtain ⟨g1, g2, g3, g4, g5⟩ := grantM_off (M := rowOf t L D) hs
    have e3 : grantLast last s = last := by unfold grantLast; rw [hs]; rfl
    have e6 : grantD L D t last s = D := by unfold grantD; rw [hs]; rfl
    rw [g2, g3, g4, g5, e3, e6]
    repeat' first | apply And.intro | exact True.intro | with_reducible rfl | exact rfl
  · obtain ⟨hsl, hst⟩ := slotOk_iff.1 hs
    rw [grantLast_on hs]
    refine ⟨⟨0, Nat.zero_le _, by repeat' first | apply And.intro | exact True.intro | with_reducible rfl | exact rfl⟩, ?_⟩
    intro x hx
    have hx : x ≤ L.length := hx
    obtain ⟨lo, hi⟩ := bestG_lo (rowOf t L D) s x
    by_cases h : x < L.length
    · have hD := hO.lt h
      obtain ⟨o1, o2, o3⟩ := hO.parts x h
      obtain ⟨b1, b2, b3, b4, b5⟩ := hO.bound h hD
      have hwx := wrap_succ h (show L.length ≤ 140737488355328 by omega)
      have hg := rowOf_get (t := t) h hD
      have hxM : x < (rowOf t L D).length := by rw [hml]; exact h
      have hjr : (rowOf t L D)[x].JobRelease = t + D[x] / L[x].E * L[x].P := by rw [hg]; rfl
      rw [dec_lt h, inb_nat h, at_nat h, inb_nat hD, at_nat hD, show inb (x : Int) 8 = true from inb_nat (by omega), show (L[x].E != 0) = true from bne_iff_ne.2 (by omega), Int.tdiv_eq_ediv_of_nonneg b1, wrap_id (n := D[x] / L[x].E) (by omega) (by omega), decide_eq_true (⟨hO, by omega, by omega, by omega, hst⟩ : RefOk t L D ∧ 0 ≤ (x : Int) ∧ (x : Int) < (L.length : Int) ∧ t ≤ s ∧ s ≤ 1099511627776), decide_eq_true (⟨hO, by omega, by omega, b3, by omega⟩ : RefOk t L D ∧ 0 ≤ (x : Int) ∧ (x : Int) < (L.length : Int) ∧ 0 ≤ D[x] / L[x].E ∧ D[x] / L[x].E ≤ 1099512677376)]
      have hrel := released_iff (t := t) (s := s) (P := L[x].P) (n := D[x] / L[x].E) (by omega) (by omega)
      by_cases c : D[x] / L[x].E ≥ (s - t) / L[x].P + 1
      · have c2 := hrel.1 c
        have e : bestG (rowOf t L D) s (x + 1) = bestG (rowOf t L D) s x := by
          have eb : bestG (rowOf t L D) s (x + 1) = bif decide ((at' ownE.zero (rowOf t L D) x).JobRelease > s) || (decide (bestG (rowOf t L D) s x ≥ 0) && ltJ (ownJ (at' ownE.zero (rowOf t L D) (bestG (rowOf t L D) s x))) (ownJ (at' ownE.zero (rowOf t L D) x))) then bestG (rowOf t L D) s x else x := rfl
          rw [eb, at_nat hxM, decide_eq_true (show (rowOf t L D)[x].JobRelease > s by omega), Bool.true_or, cond_true]
        rw [decide_eq_true c]
        refine ⟨x + 1, h, by omega, ?_⟩
        rw [e]
        repeat' first | exact hwx.symm | apply And.intro | exact True.intro | with_reducible rfl | exact rfl
      · have c2 : ¬ (rowOf t L D)[x].JobRelease > s := by rw [hjr]; exact fun g => c (hrel.2 g)
        have eb := best_step hR hxM c2
        rw [decide_eq_false c, jobAt_first o1, ← hg]
        have ed : (ownJ (rowOf t L D)[x]).Deadline = (rowOf t L D)[x].JobDeadline := rfl
        have en : bestJ (rowOf t L D) (x : Int) = ownJ (rowOf t L D)[x] := by
          unfold bestJ
          rw [decide_eq_true (by omega), cond_true, at_nat hxM]
        by_cases c3 : (bestJ (rowOf t L D) (bestG (rowOf t L D) s x)).Part < 0
        · rw [decide_eq_true c3, Bool.true_or, cond_true] at eb
          rw [decide_eq_true c3]
          refine ⟨x + 1, h, by omega, ?_⟩
          rw [eb, en]
          repeat' first | exact hwx.symm | apply And.intro | exact True.intro | with_reducible rfl | exact rfl
        · rw [decide_eq_false c3, Bool.false_or] at eb
          rw [decide_eq_false c3, ed]
          by_cases c4 : (rowOf t L D)[x].JobDeadline < (bestJ (rowOf t L D) (bestG (rowOf t L D) s x)).Deadline
          · rw [decide_eq_true c4, cond_true] at eb
            rw [decide_eq_true c4]
            refine ⟨x + 1, h, by omega, ?_⟩
            rw [eb, en]
            repeat' first | exact hwx.symm | apply And.intro | exact True.intro | with_reducible rfl | exact rfl
          · rw [decide_eq_false c4, cond_false] at eb
            rw [decide_eq_false c4]
            refine ⟨x + 1, h, by omega, ?_⟩
            rw [eb]
            repeat' first | exact hwx.symm | apply And.intro | exact True.intro | with_reducible rfl | exact rfl
    · obtain rfl : x = L.length := by omega
      have eB : bestM (rowOf t L D) s = bestG (rowOf t L D) s L.length := by unfold bestM; rw [hml]
      rw [dec_ge (Nat.le_refl _), ← eB]
      rw [← eB] at lo hi
      by_cases c : 0 ≤ bestM (rowOf t L D) s
      · obtain ⟨k, hk, ho⟩ := best_some hR c
        have hkL : k < L.length := by have := ho.lt; omega
        have hkD := hO.lt hkL
        obtain ⟨b1, b2, b3, b4, b5⟩ := hO.bound hkL hkD
        obtain ⟨g1, g2, g3, g4, g5⟩ := grantM_some hs hk ho.lt
        have hq := hR.all k ho.lt
        have l1 := hq.l1
        have l2 := hq.le
        have l3 := hq.ep
        have l4 := hq.p
        have ej : bestJ (rowOf t L D) (k : Int) = ownJ ((rowOf t L D)[k]'ho.lt) := by
          unfold bestJ
          rw [decide_eq_true (by omega), cond_true, at_nat ho.lt]
        have ep : (ownJ ((rowOf t L D)[k]'ho.lt)).Part = (k : Int) := hq.part
        have e6 : grantD L D t last s = D.set k (D[k] + 1) := by
          unfold grantD
          rw [hs, hk, decide_eq_true (by omega), Bool.and_self, cond_true, Int.toNat_natCast, at_nat hkD]
        have el : IntKind.i64.wrap ((ownJ ((rowOf t L D)[k]'ho.lt)).Left - 1) = (ownJ (decO ((rowOf t L D)[k]'ho.lt))).Left := wrap_id (show -9223372036854775808 ≤ ((rowOf t L D)[k]'ho.lt).JobLeft - 1 by omega) (show ((rowOf t L D)[k]'ho.lt).JobLeft - 1 ≤ 9223372036854775807 by omega)
        rw [hk, ej, el, g2, g3, g4, g5, e6, ep, decide_eq_false (show ¬ (k : Int) < 0 by omega), show inb (k : Int) 8 = true from inb_nat (by omega), inb_nat hkD, at_nat hkD, Int.toNat_natCast, wrap_id (n := D[k] + 1) (by omega) (by omega), wrap_id (n := served + 1) (by omega) (by omega)]
        repeat' first | exact ep | exact ep.symm | apply And.intro | exact True.intro | with_reducible rfl | exact rfl
      · obtain ⟨g1, g2, g3, g4, g5⟩ := grantM_none (M := rowOf t L D) hs c
        have ej : (bestJ (rowOf t L D) (bestM (rowOf t L D) s)).Part < 0 := by
          unfold bestJ
          rw [decide_eq_false c]
          show (-1 : Int) < 0
          decide
        have e6 : grantD L D t last s = D := by unfold grantD; rw [decide_eq_false c, Bool.and_false]; rfl
        rw [decide_eq_true ej, g2, g3, g4, g5, e6, wrap_id (n := idle + 1) (by omega) (by omega)]
        repeat' first | apply And.intro | exact True.intro | with_reducible rfl | exact rfl
noncomputable def r14GrantCon : Con T O := fun args cs => match args, cs with
  | [.ptr 0 0, .raw (.int .i64 s)], [.mix [.own 1, .raw (.int .i64 t), .raw (.int .i64 last)] 0 8 D [.raw (.int .i64 served), .raw (.int .i64 idle)] 67, .ro 3 L] => chk (decide (RefOk t L D ∧ t ≤ last ∧ 0 ≤ served ∧ served ≤ 1099511627776 ∧ 0 ≤ idle ∧ idle ≤ 1099511627776)) (.ret ⟨some (.tup [.agg [.raw (.int .i64 (grantJ (rowOf t L D) last s).Part), .raw (.int .i64 (grantJ (rowOf t L D) last s).Index), .raw (.int .i64 (grantJ (rowOf t L D) last s).Release), .raw (.int .i64 (grantJ (rowOf t L D) last s).Deadline), .raw (.int .i64 (grantJ (rowOf t L D) last s).Left)], .raw (.bool (grantIs (rowOf t L D) last s))]), [(0, some (.mix [.own 1, .raw (.int .i64 t), .raw (.int .i64 (grantLast last s))] 0 8 (grantD L D t last s) [.raw (.int .i64 (grantServed (rowOf t L D) last served s)), .raw (.int .i64 (grantIdle (rowOf t L D) last idle s))] 67))]⟩)
  | _, _ => .fail
theorem r14GrantOk : ConOk R Try.prog 29 r14GrantCon := con_of_fn R (X34) (TabOk.con R X34Ok) mixed Try.call29 Try.func29 r14GrantCon (by
  intro args cs K h
  unfold r14GrantCon at h
  split at h
  · rename_i s t last D served idle L
    rw [Tree.holds_chk] at h
    obtain ⟨hp, h⟩ := h
    refine ⟨oneLoop 7 { σ := Nat, st := fun S x => ((S.keep [0, 1, 4, 5, 7]).int 8 x).at' 7 (.cells (jobE.enc (bestJ (rowOf t L D) (bestG (rowOf t L D) s x))) 52), inv := fun _ x => x ≤ L.length, m := fun x => L.length - x }, _, fun v S hv => ⟨_, h, hv⟩, ?_⟩
    rw [r14GrantVc L D t last served idle s]
    exact r14GrantHolds L D t last served idle s (of_decide_eq_true hp)
  · exact h.elim)
/-! ### (*regatta/regattaref14.Super).Missed -/
def r14MissedText (L : List Part) (D : List Int) (t last served idle s : Int) : Prop := ((∃ x : Int × Nat, ((miss14I t L D last s x.fst x.snd) ∧ ((True ∧ ((s = s) ∧ ((slotOk last s = slotOk last s) ∧ ((x.fst = (0 : Int)) ∧ (((↑x.snd : Int) = (0 : Int)) ∧ True))))) ∧ (((True ∧ ((t = t) ∧ ((last = last) ∧ True))) ∧ ((D = D) ∧ ((served = served) ∧ ((idle = idle) ∧ True)))) ∧ ((L = L) ∧ True))))) ∧ (∀ x : Int × Nat, ((miss14I t L D last s x.fst x.snd) → (match (decide ((↑x.snd : Int) < (↑L.length : Int))) with | true => (match (slotOk last s) with | true => (match (inb (↑x.snd : Int) L.length) with | true => (match (inb (↑x.snd : Int) L.length) with | true => (match ((at' partE.zero L (↑x.snd : Int)).P != (0 : Int)) with | true => (match (inb (↑x.snd : Int) L.length) with | true => (match (inb (↑x.snd : Int) L.length) with | true => (match (inb (↑x.snd : Int) (8 : Nat)) with | true => (match (inb (↑x.snd : Int) D.length) with | true => (match (decide (IntKind.i64.wrap (IntKind.i64.wrap ((IntKind.i64.wrap (s - t)).tdiv (at' partE.zero L (↑x.snd : Int)).P) * (at' partE.zero L (↑x.snd : Int)).E) > at' (0 : Int) D (↑x.snd : Int))) with | true => (match (inb (↑x.snd : Int) (8 : Nat)) with | true => (match (inb (↑x.snd : Int) D.length) with | true => (∃ x' : Int × Nat, ((miss14I t L D last s x'.fst x'.snd) ∧ ((L.length - x'.snd < L.length - x.snd) ∧ ((True ∧ ((s = s) ∧ ((slotOk last s = slotOk last s) ∧ ((x'.fst = IntKind.i64.wrap (IntKind.i64.wrap (x.fst + IntKind.i64.wrap (IntKind.i64.wrap ((IntKind.i64.wrap (s - t)).tdiv (at' partE.zero L (↑x.snd : Int)).P) * (at' partE.zero L (↑x.snd : Int)).E)) - at' (0 : Int) D (↑x.snd : Int))) ∧ (((↑x'.snd : Int) = IntKind.i64.wrap ((↑x.snd : Int) + (1 : Int))) ∧ True))))) ∧ (((True ∧ ((t = t) ∧ ((last = last) ∧ True))) ∧ ((D = D) ∧ ((served = served) ∧ ((idle = idle) ∧ True)))) ∧ ((L = L) ∧ True)))))) | false => False) | false => False) | false => (∃ x' : Int × Nat, ((miss14I t L D last s x'.fst x'.snd) ∧ ((L.length - x'.snd < L.length - x.snd) ∧ ((True ∧ ((s = s) ∧ ((slotOk last s = slotOk last s) ∧ ((x'.fst = x.fst) ∧ (((↑x'.snd : Int) = IntKind.i64.wrap ((↑x.snd : Int) + (1 : Int))) ∧ True))))) ∧ (((True ∧ ((t = t) ∧ ((last = last) ∧ True))) ∧ ((D = D) ∧ ((served = served) ∧ ((idle = idle) ∧ True)))) ∧ ((L = L) ∧ True))))))) | false => False) | false => False) | false => False) | false => False) | false => False) | false => False) | false => False) | false => (((missedM (rowOf t L D) last s = x.fst) ∧ True) ∧ (((True ∧ ((t = t) ∧ ((last = last) ∧ True))) ∧ ((D = D) ∧ ((served = served) ∧ ((idle = idle) ∧ True)))) ∧ ((L = L) ∧ True)))) | false => (((missedM (rowOf t L D) last s = x.fst) ∧ True) ∧ (((True ∧ ((t = t) ∧ ((last = last) ∧ True))) ∧ ((D = D) ∧ ((served = served) ∧ ((idle = idle) ∧ True)))) ∧ ((L = L) ∧ True)))))))
theorem r14MissedVc (L : List Part) (D : List Int) (t last served idle s : Int) : fnX X34 (oneLoop 4 { σ := Int × Nat, st := fun S x => ((S.keep [0, 1, 5]).int 6 x.1).int 7 x.2, inv := fun _ x => miss14I t L D last s x.1 x.2, m := fun x => L.length - x.2 }) Try.f32 [.ptr 0 0, .raw (.int .i64 s)] [.mix [.own 1, .raw (.int .i64 t), .raw (.int .i64 last)] 0 8 D [.raw (.int .i64 served), .raw (.int .i64 idle)] 67, .ro 3 L] (ends [.mix [.own 1, .raw (.int .i64 t), .raw (.int .i64 last)] 0 8 D [.raw (.int .i64 served), .raw (.int .i64 idle)] 67, .ro 3 L] ⟨some (.raw (.int .i64 (missedM (rowOf t L D) last s))), []⟩) = r14MissedText L D t last served idle s := by kernel_rfl
theorem r14MissedHolds (L : List Part) (D : List Int) (t last served idle s : Int) (hp : RefOk t L D ∧ t ≤ last) : r14MissedText L D t last served idle s := by
  unfold r14MissedText
  obtain ⟨hO, htl⟩ := hp
  have hR := hO.row
  have hlen := hO.len
  have hdl := hO.dlen
  have hml := rowOf_length t L D
  refine ⟨⟨(0, 0), ⟨Nat.zero_le _, Int.le_refl _, Int.le_refl _, fun _ => rfl, fun _ => rfl⟩, by repeat' first | apply And.intro | exact True.intro | with_reducible rfl | exact rfl⟩, ?_⟩
  intro x hi
  obtain ⟨n, x⟩ := x
  dsimp only at hi ⊢
  have hle := hi.le
  have hn0 := hi.n0
  have hn1 := hi.n1
  by_cases h : x < L.length
  · rw [dec_lt h]
    cases hs : slotOk last s
    · have e := missed_end hi (.inl hs)
      repeat' first | exact e | apply And.intro | exact True.intro | with_reducible rfl | exact rfl
    · obtain ⟨hsl, hst⟩ := slotOk_iff.1 hs
      have hD := hO.lt h
      obtain ⟨o1, o2, o3⟩ := hO.parts x h
      obtain ⟨b1, b2, b3, b4, b5⟩ := hO.bound h hD
      have t0 := hO.t0
      have hwx := wrap_succ h (show L.length ≤ 140737488355328 by omega)
      have hxM : x < (rowOf t L D).length := by rw [hml]; exact h
      have i4 := hi.eq hs
      rw [List.drop_eq_getElem_cons hxM] at i4
      simp only [missedG] at i4
      rw [rowOf_get h hD, missed_own o1 o2 (by omega)] at i4
      obtain ⟨m1, m2, _⟩ := missedO_ok (hR.all x hxM) hO.t0 hst
      rw [rowOf_get h hD, missed_own o1 o2 (by omega)] at m1 m2
      obtain ⟨u1, u2, u3, u4⟩ := due_one (t := s - t) (p := L[x]) (by omega) o1 o2
      rw [inb_nat h, at_nat h, inb_nat hD, at_nat hD, show inb (x : Int) 8 = true from inb_nat (by omega), show (L[x].P != 0) = true from bne_iff_ne.2 (by omega), wrap_id (n := s - t) (by omega) (by omega), Int.tdiv_eq_ediv_of_nonneg (show 0 ≤ s - t by omega), wrap_id (n := (s - t) / L[x].P) (by omega) (by omega), wrap_id (n := (s - t) / L[x].P * L[x].E) (by omega) (by omega)]
      by_cases c : (s - t) / L[x].P * L[x].E > D[x]
      · rw [decide_eq_true c, cond_true] at i4 m1 m2
        have en : n + (s - t) / L[x].P * L[x].E - D[x] = n + ((s - t) / L[x].P * L[x].E - D[x]) := by omega
        rw [decide_eq_true c, wrap_id (n := n + (s - t) / L[x].P * L[x].E) (by omega) (by omega), wrap_id (n := n + (s - t) / L[x].P * L[x].E - D[x]) (by omega) (by omega), en]
        refine ⟨(n + ((s - t) / L[x].P * L[x].E - D[x]), x + 1), ⟨h, by dsimp only; omega, by dsimp only; omega, fun g => (by rw [hs] at g; cases g), fun _ => i4⟩, by dsimp only; omega, ?_⟩
        repeat' first | exact hwx.symm | apply And.intro | exact True.intro | with_reducible rfl | exact rfl
      · rw [decide_eq_false c, cond_false, Int.add_zero] at i4
        rw [decide_eq_false c]
        refine ⟨(n, x + 1), ⟨h, hn0, by dsimp only; omega, fun g => (by rw [hs] at g; cases g), fun _ => i4⟩, by dsimp only; omega, ?_⟩
        repeat' first | exact hwx.symm | apply And.intro | exact True.intro | with_reducible rfl | exact rfl
  · have e := missed_end hi (.inr (by omega))
    rw [dec_ge (by omega)]
    repeat' first | exact e | apply And.intro | exact True.intro | with_reducible rfl | exact rfl
noncomputable def r14MissedCon : Con T O := fun args cs => match args, cs with
  | [.ptr 0 0, .raw (.int .i64 s)], [.mix [.own 1, .raw (.int .i64 t), .raw (.int .i64 last)] 0 8 D [.raw (.int .i64 _), .raw (.int .i64 _)] 67, .ro 3 L] => chk (decide (RefOk t L D ∧ t ≤ last)) (.ret ⟨some (.raw (.int .i64 (missedM (rowOf t L D) last s))), []⟩)
  | _, _ => .fail
theorem r14MissedOk : ConOk R Try.prog 32 r14MissedCon := con_of_fn R (X34) (TabOk.con R X34Ok) mixed Try.call32 Try.func32 r14MissedCon (by
  intro args cs K h
  unfold r14MissedCon at h
  split at h
  · rename_i s t last D served idle L
    rw [Tree.holds_chk] at h
    obtain ⟨hp, h⟩ := h
    refine ⟨oneLoop 4 { σ := Int × Nat, st := fun S x => ((S.keep [0, 1, 5]).int 6 x.1).int 7 x.2, inv := fun _ x => miss14I t L D last s x.1 x.2, m := fun x => L.length - x.2 }, _, fun v S hv => ⟨_, h, hv⟩, ?_⟩
    rw [r14MissedVc L D t last served idle s]
    exact r14MissedHolds L D t last served idle s (of_decide_eq_true hp)
  · exact h.elim)
/-! ### regatta/regattaref14.Same -/
def r14SameText (A B : List Job) : Prop := (match ((↑A.length : Int) != (↑B.length : Int)) with | true => (((sameJ A B = false) ∧ True) ∧ ((A = A) ∧ ((B = B) ∧ True))) | false => ((∃ x : Nat, (((x ≤ A.length) ∧ (List.take x A = List.take x B)) ∧ ((True ∧ (True ∧ (((↑x : Int) = (0 : Int)) ∧ True))) ∧ ((A = A) ∧ ((B = B) ∧ True))))) ∧ (∀ x : Nat, (((x ≤ A.length) ∧ (List.take x A = List.take x B)) → (match (decide ((↑x : Int) < (↑A.length : Int))) with | true => (match (inb (↑x : Int) A.length) with | true => (match (inb (↑x : Int) A.length) with | true => (match (inb (↑x : Int) B.length) with | true => (match (inb (↑x : Int) B.length) with | true => (match (!((at' jobE.zero A (↑x : Int)).Part == (at' jobE.zero B (↑x : Int)).Part && ((at' jobE.zero A (↑x : Int)).Index == (at' jobE.zero B (↑x : Int)).Index && ((at' jobE.zero A (↑x : Int)).Release == (at' jobE.zero B (↑x : Int)).Release && ((at' jobE.zero A (↑x : Int)).Deadline == (at' jobE.zero B (↑x : Int)).Deadline && ((at' jobE.zero A (↑x : Int)).Left == (at' jobE.zero B (↑x : Int)).Left && true)))))) with | true => (((sameJ A B = false) ∧ True) ∧ ((A = A) ∧ ((B = B) ∧ True))) | false => (∃ x' : Nat, (((x' ≤ A.length) ∧ (List.take x' A = List.take x' B)) ∧ ((A.length - x' < A.length - x) ∧ ((True ∧ (True ∧ (((↑x' : Int) = IntKind.i64.wrap ((↑x : Int) + (1 : Int))) ∧ True))) ∧ ((A = A) ∧ ((B = B) ∧ True))))))) | false => False) | false => False) | false => False) | false => False) | false => (((sameJ A B = true) ∧ True) ∧ ((A = A) ∧ ((B = B) ∧ True))))))))
theorem r14SameVc (A B : List Job) : fnX X34 (oneLoop 4 { σ := Nat, st := fun S x => (S.keep [0, 1]).int 5 x, inv := fun _ x => x ≤ A.length ∧ A.take x = B.take x, m := fun x => A.length - x }) Try.f30 [.own 0, .own 1] [.ro 4 A, .ro 4 B] (ends [.ro 4 A, .ro 4 B] ⟨some (.raw (.bool (sameJ A B))), []⟩) = r14SameText A B := by kernel_rfl
theorem r14SameHolds (A B : List Job) (hp : A.length ≤ 100000 ∧ B.length ≤ 100000) : r14SameText A B := by
  unfold r14SameText
  obtain ⟨p1, p2⟩ := hp
  by_cases hl : A.length = B.length
  · rw [show ((A.length : Int) != (B.length : Int)) = false from by rw [hl]; exact bne_self_eq_false _]
    refine ⟨⟨0, ⟨Nat.zero_le _, rfl⟩, by repeat' first | apply And.intro | exact True.intro | with_reducible rfl | exact rfl⟩, ?_⟩
    rintro x ⟨i1, i2⟩
    by_cases h : x < A.length
    · have hB : x < B.length := by omega
      have hwx := wrap_succ h (show A.length ≤ 140737488355328 by omega)
      rw [dec_lt h, inb_nat h, at_nat h, inb_nat hB, at_nat hB]
      rw [show ((A[x].Part == B[x].Part && (A[x].Index == B[x].Index && (A[x].Release == B[x].Release && (A[x].Deadline == B[x].Deadline && (A[x].Left == B[x].Left && true)))))) = decide (A[x] = B[x]) from eqJ _ _]
      by_cases c : A[x] = B[x]
      · rw [decide_eq_true c, show (!true) = false from rfl]
        refine ⟨x + 1, ⟨h, by rw [take_at h, take_at hB, i2, c]⟩, by omega, ?_⟩
        repeat' first | exact hwx.symm | apply And.intro | exact True.intro | with_reducible rfl | exact rfl
      · have e : sameJ A B = false := decide_eq_false (by rintro rfl; exact c rfl)
        rw [decide_eq_false c, show (!false) = true from rfl]
        repeat' first | exact e | apply And.intro | exact True.intro | with_reducible rfl | exact rfl
    · have e : sameJ A B = true := by
        rw [List.take_of_length_le (by omega), List.take_of_length_le (by omega)] at i2
        exact decide_eq_true i2
      rw [dec_ge (by omega)]
      repeat' first | exact e | apply And.intro | exact True.intro | with_reducible rfl | exact rfl
  · have e : sameJ A B = false := decide_eq_false (by rintro rfl; exact hl rfl)
    rw [show ((A.length : Int) != (B.length : Int)) = true from bne_iff_ne.2 (by omega)]
    repeat' first | exact e | apply And.intro | exact True.intro | with_reducible rfl | exact rfl
noncomputable def r14SameBCon : Con T O := fun args cs => match args, cs with
  | [.own 0, .own 1], [.ro 4 A, .ro 4 B] => chk (decide (A.length ≤ 100000 ∧ B.length ≤ 100000)) (.ret ⟨some (.raw (.bool (sameJ A B))), []⟩)
  | _, _ => .fail
theorem r14SameBOk : ConOk R Try.prog 30 r14SameBCon := con_of_fn R (X34) (TabOk.con R X34Ok) mixed Try.call30 Try.func30 r14SameBCon (by
  intro args cs K h
  unfold r14SameBCon at h
  split at h
  · rename_i A B
    rw [Tree.holds_chk] at h
    obtain ⟨hp, h⟩ := h
    refine ⟨oneLoop 4 { σ := Nat, st := fun S x => (S.keep [0, 1]).int 5 x, inv := fun _ x => x ≤ A.length ∧ A.take x = B.take x, m := fun x => A.length - x }, _, fun v S hv => ⟨_, h, hv⟩, ?_⟩
    rw [r14SameVc A B]
    exact r14SameHolds A B (of_decide_eq_true hp)
  · exact h.elim)
noncomputable def r14SameCon : Con T O := relax 4 r14SameBCon
theorem r14SameOk : ConOk R Try.prog 30 r14SameCon := relax_ok R 4 r14SameBOk
noncomputable def tab35 : Tab T O := (29, r14GrantCon) :: (32, r14MissedCon) :: (30, r14SameCon) :: tab34
theorem tabOk35 : TabOk R Try.prog tab35 := TabOk.cons R r14GrantOk <| TabOk.cons R r14MissedOk <| TabOk.cons R r14SameOk <| tabOk34
noncomputable def X35 : Ctx T O := { X0 with con := conOf tab35 }
theorem X35Ok : TabOk R X35.P tab35 := tabOk35
end Go.Proofs.Ytmnnjclnldaejaa

namespace Go.Proofs.Ytmnnjclnldaejaa
open Go.Sx Go.Proofs Classical
/-! ### (*regatta/regattaref14.Super).Jobs -/
def r14JobsText (L : List Part) (D : List Int) (t last served idle s : Int) : Prop := ((∃ x : List Job × Nat, ((jobs1I t L D last s x.fst x.snd) ∧ ((True ∧ ((s = s) ∧ ((slotOk last s = slotOk last s) ∧ (True ∧ (((↑x.snd : Int) = (0 : Int)) ∧ True))))) ∧ (((True ∧ ((t = t) ∧ ((last = last) ∧ True))) ∧ ((D = D) ∧ ((served = served) ∧ ((idle = idle) ∧ True)))) ∧ ((L = L) ∧ ((x.fst = []) ∧ True)))))) ∧ (∀ x : List Job × Nat, ((jobs1I t L D last s x.fst x.snd) → (match (decide ((↑x.snd : Int) < (↑L.length : Int))) with | true => (match (slotOk last s) with | true => (match (inb (↑x.snd : Int) (8 : Nat)) with | true => (match (inb (↑x.snd : Int) D.length) with | true => (match (inb (↑x.snd : Int) L.length) with | true => (match (inb (↑x.snd : Int) L.length) with | true => (match ((at' partE.zero L (↑x.snd : Int)).E != (0 : Int)) with | true => ((∃ x1 : List Job × Nat, ((jobs2I t L D s (↑x.snd : Int) x1.fst x1.snd) ∧ ((True ∧ ((s = s) ∧ ((slotOk last s = slotOk last s) ∧ (True ∧ (((↑x.snd : Int) = (↑x.snd : Int)) ∧ ((IntKind.i64.wrap (Int.tdiv (at' (0 : Int) D (↑x.snd : Int)) (at' partE.zero L (↑x.snd : Int)).E) = IntKind.i64.wrap (Int.tdiv (at' (0 : Int) D (↑x.snd : Int)) (at' partE.zero L (↑x.snd : Int)).E)) ∧ ((IntKind.i64.wrap (Int.tdiv (at' (0 : Int) D (↑x.snd : Int)) (at' partE.zero L (↑x.snd : Int)).E) + (↑x1.snd : Int) = IntKind.i64.wrap (Int.tdiv (at' (0 : Int) D (↑x.snd : Int)) (at' partE.zero L (↑x.snd : Int)).E)) ∧ True))))))) ∧ (((True ∧ ((t = t) ∧ ((last = last) ∧ True))) ∧ ((D = D) ∧ ((served = served) ∧ ((idle = idle) ∧ True)))) ∧ ((L = L) ∧ ((x1.fst = x.fst) ∧ True)))))) ∧ (∀ x1 : List Job × Nat, ((jobs2I t L D s (↑x.snd : Int) x1.fst x1.snd) → (match (decide (RefOk t L D ∧ (0 : Int) ≤ (↑x.snd : Int) ∧ (↑x.snd : Int) < (↑L.length : Int) ∧ t ≤ s ∧ s ≤ (1099511627776 : Int))) with | true => (match (decide (IntKind.i64.wrap (Int.tdiv (at' (0 : Int) D (↑x.snd : Int)) (at' partE.zero L (↑x.snd : Int)).E) + (↑x1.snd : Int) < (s - t) / (at' partE.zero L (↑x.snd : Int)).P + (1 : Int))) with | true => (match (decide (IntKind.i64.wrap (Int.tdiv (at' (0 : Int) D (↑x.snd : Int)) (at' partE.zero L (↑x.snd : Int)).E) + (↑x1.snd : Int) < IntKind.i64.wrap (IntKind.i64.wrap (Int.tdiv (at' (0 : Int) D (↑x.snd : Int)) (at' partE.zero L (↑x.snd : Int)).E) + (1000 : Int)))) with | true => (match (decide (RefOk t L D ∧ (0 : Int) ≤ (↑x.snd : Int) ∧ (↑x.snd : Int) < (↑L.length : Int) ∧ (0 : Int) ≤ IntKind.i64.wrap (Int.tdiv (at' (0 : Int) D (↑x.snd : Int)) (at' partE.zero L (↑x.snd : Int)).E) + (↑x1.snd : Int) ∧ IntKind.i64.wrap (Int.tdiv (at' (0 : Int) D (↑x.snd : Int)) (at' partE.zero L (↑x.snd : Int)).E) + (↑x1.snd : Int) ≤ (1099512677376 : Int))) with | true => ((∃ x2 : (List Job × Bool) × Nat, ((jobs3I t L D (↑x.snd : Int) (IntKind.i64.wrap (Int.tdiv (at' (0 : Int) D (↑x.snd : Int)) (at' partE.zero L (↑x.snd : Int)).E) + (↑x1.snd : Int)) x1.fst x2.fst x2.snd) ∧ ((True ∧ ((s = s) ∧ ((slotOk last s = slotOk last s) ∧ (True ∧ (((↑x.snd : Int) = (↑x.snd : Int)) ∧ ((IntKind.i64.wrap (Int.tdiv (at' (0 : Int) D (↑x.snd : Int)) (at' partE.zero L (↑x.snd : Int)).E) = IntKind.i64.wrap (Int.tdiv (at' (0 : Int) D (↑x.snd : Int)) (at' partE.zero L (↑x.snd : Int)).E)) ∧ ((IntKind.i64.wrap (Int.tdiv (at' (0 : Int) D (↑x.snd : Int)) (at' partE.zero L (↑x.snd : Int)).E) + (↑x1.snd : Int) = IntKind.i64.wrap (Int.tdiv (at' (0 : Int) D (↑x.snd : Int)) (at' partE.zero L (↑x.snd : Int)).E) + (↑x1.snd : Int)) ∧ (True ∧ (True ∧ ((x2.fst.snd = false) ∧ (((↑x2.snd : Int) = (0 : Int)) ∧ True))))))))))) ∧ (((True ∧ ((t = t) ∧ ((last = last) ∧ True))) ∧ ((D = D) ∧ ((served = served) ∧ ((idle = idle) ∧ True)))) ∧ ((L = L) ∧ ((x1.fst = x1.fst) ∧ ((((jobAt t (↑x.snd : Int) (at' partE.zero L (↑x.snd : Int)) (at' (0 : Int) D (↑x.snd : Int)) (IntKind.i64.wrap (Int.tdiv (at' (0 : Int) D (↑x.snd : Int)) (at' partE.zero L (↑x.snd : Int)).E) + (↑x1.snd : Int))).Part = (jobAt t (↑x.snd : Int) (at' partE.zero L (↑x.snd : Int)) (at' (0 : Int) D (↑x.snd : Int)) (IntKind.i64.wrap (Int.tdiv (at' (0 : Int) D (↑x.snd : Int)) (at' partE.zero L (↑x.snd : Int)).E) + (↑x1.snd : Int))).Part) ∧ (((jobAt t (↑x.snd : Int) (at' partE.zero L (↑x.snd : Int)) (at' (0 : Int) D (↑x.snd : Int)) (IntKind.i64.wrap (Int.tdiv (at' (0 : Int) D (↑x.snd : Int)) (at' partE.zero L (↑x.snd : Int)).E) + (↑x1.snd : Int))).Index = (jobAt t (↑x.snd : Int) (at' partE.zero L (↑x.snd : Int)) (at' (0 : Int) D (↑x.snd : Int)) (IntKind.i64.wrap (Int.tdiv (at' (0 : Int) D (↑x.snd : Int)) (at' partE.zero L (↑x.snd : Int)).E) + (↑x1.snd : Int))).Index) ∧ (((jobAt t (↑x.snd : Int) (at' partE.zero L (↑x.snd : Int)) (at' (0 : Int) D (↑x.snd : Int)) (IntKind.i64.wrap (Int.tdiv (at' (0 : Int) D (↑x.snd : Int)) (at' partE.zero L (↑x.snd : Int)).E) + (↑x1.snd : Int))).Release = (jobAt t (↑x.snd : Int) (at' partE.zero L (↑x.snd : Int)) (at' (0 : Int) D (↑x.snd : Int)) (IntKind.i64.wrap (Int.tdiv (at' (0 : Int) D (↑x.snd : Int)) (at' partE.zero L (↑x.snd : Int)).E) + (↑x1.snd : Int))).Release) ∧ (((jobAt t (↑x.snd : Int) (at' partE.zero L (↑x.snd : Int)) (at' (0 : Int) D (↑x.snd : Int)) (IntKind.i64.wrap (Int.tdiv (at' (0 : Int) D (↑x.snd : Int)) (at' partE.zero L (↑x.snd : Int)).E) + (↑x1.snd : Int))).Deadline = (jobAt t (↑x.snd : Int) (at' partE.zero L (↑x.snd : Int)) (at' (0 : Int) D (↑x.snd : Int)) (IntKind.i64.wrap (Int.tdiv (at' (0 : Int) D (↑x.snd : Int)) (at' partE.zero L (↑x.snd : Int)).E) + (↑x1.snd : Int))).Deadline) ∧ (((jobAt t (↑x.snd : Int) (at' partE.zero L (↑x.snd : Int)) (at' (0 : Int) D (↑x.snd : Int)) (IntKind.i64.wrap (Int.tdiv (at' (0 : Int) D (↑x.snd : Int)) (at' partE.zero L (↑x.snd : Int)).E) + (↑x1.snd : Int))).Left = (jobAt t (↑x.snd : Int) (at' partE.zero L (↑x.snd : Int)) (at' (0 : Int) D (↑x.snd : Int)) (IntKind.i64.wrap (Int.tdiv (at' (0 : Int) D (↑x.snd : Int)) (at' partE.zero L (↑x.snd : Int)).E) + (↑x1.snd : Int))).Left) ∧ True))))) ∧ ((x2.fst.fst = []) ∧ True)))))))) ∧ (∀ x2 : (List Job × Bool) × Nat, ((jobs3I t L D (↑x.snd : Int) (IntKind.i64.wrap (Int.tdiv (at' (0 : Int) D (↑x.snd : Int)) (at' partE.zero L (↑x.snd : Int)).E) + (↑x1.snd : Int)) x1.fst x2.fst x2.snd) → (match (decide ((↑x2.snd : Int) < (↑x1.fst.length : Int))) with | true => (match (!x2.fst.snd) with | true => (match (inb (↑x2.snd : Int) x1.fst.length) with | true => (match (inb (↑x2.snd : Int) x1.fst.length) with | true => (match (decide ((jobAt t (↑x.snd : Int) (at' partE.zero L (↑x.snd : Int)) (at' (0 : Int) D (↑x.snd : Int)) (IntKind.i64.wrap (Int.tdiv (at' (0 : Int) D (↑x.snd : Int)) (at' partE.zero L (↑x.snd : Int)).E) + (↑x1.snd : Int))).Deadline < (at' jobE.zero x1.fst (↑x2.snd : Int)).Deadline)) with | true => (match (roomy (x2.fst.fst.length + (1 : Nat)) (nat_lit 40)) with | true => (match (inb (↑x2.snd : Int) x1.fst.length) with | true => (match (inb (↑x2.snd : Int) x1.fst.length) with | true => (match (roomy ((x2.fst.fst ++ [jobAt t (↑x.snd : Int) (at' partE.zero L (↑x.snd : Int)) (at' (0 : Int) D (↑x.snd : Int)) (IntKind.i64.wrap (Int.tdiv (at' (0 : Int) D (↑x.snd : Int)) (at' partE.zero L (↑x.snd : Int)).E) + (↑x1.snd : Int))]).length + (1 : Nat)) (nat_lit 40)) with | true => (∃ x' : (List Job × Bool) × Nat, ((jobs3I t L D (↑x.snd : Int) (IntKind.i64.wrap (Int.tdiv (at' (0 : Int) D (↑x.snd : Int)) (at' partE.zero L (↑x.snd : Int)).E) + (↑x1.snd : Int)) x1.fst x'.fst x'.snd) ∧ (((10001 : Nat) - x'.snd < (10001 : Nat) - x2.snd) ∧ ((True ∧ ((s = s) ∧ ((slotOk last s = slotOk last s) ∧ (True ∧ (((↑x.snd : Int) = (↑x.snd : Int)) ∧ ((IntKind.i64.wrap (Int.tdiv (at' (0 : Int) D (↑x.snd : Int)) (at' partE.zero L (↑x.snd : Int)).E) = IntKind.i64.wrap (Int.tdiv (at' (0 : Int) D (↑x.snd : Int)) (at' partE.zero L (↑x.snd : Int)).E)) ∧ ((IntKind.i64.wrap (Int.tdiv (at' (0 : Int) D (↑x.snd : Int)) (at' partE.zero L (↑x.snd : Int)).E) + (↑x1.snd : Int) = IntKind.i64.wrap (Int.tdiv (at' (0 : Int) D (↑x.snd : Int)) (at' partE.zero L (↑x.snd : Int)).E) + (↑x1.snd : Int)) ∧ (True ∧ (True ∧ ((x'.fst.snd = true) ∧ (((↑x'.snd : Int) = IntKind.i64.wrap ((↑x2.snd : Int) + (1 : Int))) ∧ True))))))))))) ∧ (((True ∧ ((t = t) ∧ ((last = last) ∧ True))) ∧ ((D = D) ∧ ((served = served) ∧ ((idle = idle) ∧ True)))) ∧ ((L = L) ∧ ((x1.fst = x1.fst) ∧ ((((jobAt t (↑x.snd : Int) (at' partE.zero L (↑x.snd : Int)) (at' (0 : Int) D (↑x.snd : Int)) (IntKind.i64.wrap (Int.tdiv (at' (0 : Int) D (↑x.snd : Int)) (at' partE.zero L (↑x.snd : Int)).E) + (↑x1.snd : Int))).Part = (jobAt t (↑x.snd : Int) (at' partE.zero L (↑x.snd : Int)) (at' (0 : Int) D (↑x.snd : Int)) (IntKind.i64.wrap (Int.tdiv (at' (0 : Int) D (↑x.snd : Int)) (at' partE.zero L (↑x.snd : Int)).E) + (↑x1.snd : Int))).Part) ∧ (((jobAt t (↑x.snd : Int) (at' partE.zero L (↑x.snd : Int)) (at' (0 : Int) D (↑x.snd : Int)) (IntKind.i64.wrap (Int.tdiv (at' (0 : Int) D (↑x.snd : Int)) (at' partE.zero L (↑x.snd : Int)).E) + (↑x1.snd : Int))).Index = (jobAt t (↑x.snd : Int) (at' partE.zero L (↑x.snd : Int)) (at' (0 : Int) D (↑x.snd : Int)) (IntKind.i64.wrap (Int.tdiv (at' (0 : Int) D (↑x.snd : Int)) (at' partE.zero L (↑x.snd : Int)).E) + (↑x1.snd : Int))).Index) ∧ (((jobAt t (↑x.snd : Int) (at' partE.zero L (↑x.snd : Int)) (at' (0 : Int) D (↑x.snd : Int)) (IntKind.i64.wrap (Int.tdiv (at' (0 : Int) D (↑x.snd : Int)) (at' partE.zero L (↑x.snd : Int)).E) + (↑x1.snd : Int))).Release = (jobAt t (↑x.snd : Int) (at' partE.zero L (↑x.snd : Int)) (at' (0 : Int) D (↑x.snd : Int)) (IntKind.i64.wrap (Int.tdiv (at' (0 : Int) D (↑x.snd : Int)) (at' partE.zero L (↑x.snd : Int)).E) + (↑x1.snd : Int))).Release) ∧ (((jobAt t (↑x.snd : Int) (at' partE.zero L (↑x.snd : Int)) (at' (0 : Int) D (↑x.snd : Int)) (IntKind.i64.wrap (Int.tdiv (at' (0 : Int) D (↑x.snd : Int)) (at' partE.zero L (↑x.snd : Int)).E) + (↑x1.snd : Int))).Deadline = (jobAt t (↑x.snd : Int) (at' partE.zero L (↑x.snd : Int)) (at' (0 : Int) D (↑x.snd : Int)) (IntKind.i64.wrap (Int.tdiv (at' (0 : Int) D (↑x.snd : Int)) (at' partE.zero L (↑x.snd : Int)).E) + (↑x1.snd : Int))).Deadline) ∧ (((jobAt t (↑x.snd : Int) (at' partE.zero L (↑x.snd : Int)) (at' (0 : Int) D (↑x.snd : Int)) (IntKind.i64.wrap (Int.tdiv (at' (0 : Int) D (↑x.snd : Int)) (at' partE.zero L (↑x.snd : Int)).E) + (↑x1.snd : Int))).Left = (jobAt t (↑x.snd : Int) (at' partE.zero L (↑x.snd : Int)) (at' (0 : Int) D (↑x.snd : Int)) (IntKind.i64.wrap (Int.tdiv (at' (0 : Int) D (↑x.snd : Int)) (at' partE.zero L (↑x.snd : Int)).E) + (↑x1.snd : Int))).Left) ∧ True))))) ∧ ((x'.fst.fst = x2.fst.fst ++ [jobAt t (↑x.snd : Int) (at' partE.zero L (↑x.snd : Int)) (at' (0 : Int) D (↑x.snd : Int)) (IntKind.i64.wrap (Int.tdiv (at' (0 : Int) D (↑x.snd : Int)) (at' partE.zero L (↑x.snd : Int)).E) + (↑x1.snd : Int))] ++ [at' jobE.zero x1.fst (↑x2.snd : Int)]) ∧ True))))))))) | false => False) | false => False) | false => False) | false => False) | false => (match (inb (↑x2.snd : Int) x1.fst.length) with | true => (match (inb (↑x2.snd : Int) x1.fst.length) with | true => (match ((jobAt t (↑x.snd : Int) (at' partE.zero L (↑x.snd : Int)) (at' (0 : Int) D (↑x.snd : Int)) (IntKind.i64.wrap (Int.tdiv (at' (0 : Int) D (↑x.snd : Int)) (at' partE.zero L (↑x.snd : Int)).E) + (↑x1.snd : Int))).Deadline == (at' jobE.zero x1.fst (↑x2.snd : Int)).Deadline) with | true => (match (inb (↑x2.snd : Int) x1.fst.length) with | true => (match (inb (↑x2.snd : Int) x1.fst.length) with | true => (match (decide ((jobAt t (↑x.snd : Int) (at' partE.zero L (↑x.snd : Int)) (at' (0 : Int) D (↑x.snd : Int)) (IntKind.i64.wrap (Int.tdiv (at' (0 : Int) D (↑x.snd : Int)) (at' partE.zero L (↑x.snd : Int)).E) + (↑x1.snd : Int))).Part < (at' jobE.zero x1.fst (↑x2.snd : Int)).Part)) with | true => (match (roomy (x2.fst.fst.length + (1 : Nat)) (nat_lit 40)) with | true => (match (inb (↑x2.snd : Int) x1.fst.length) with | true => (match (inb (↑x2.snd : Int) x1.fst.length) with | true => (match (roomy ((x2.fst.fst ++ [jobAt t (↑x.snd : Int) (at' partE.zero L (↑x.snd : Int)) (at' (0 : Int) D (↑x.snd : Int)) (IntKind.i64.wrap (Int.tdiv (at' (0 : Int) D (↑x.snd : Int)) (at' partE.zero L (↑x.snd : Int)).E) + (↑x1.snd : Int))]).length + (1 : Nat)) (nat_lit 40)) with | true => (∃ x' : (List Job × Bool) × Nat, ((jobs3I t L D (↑x.snd : Int) (IntKind.i64.wrap (Int.tdiv (at' (0 : Int) D (↑x.snd : Int)) (at' partE.zero L (↑x.snd : Int)).E) + (↑x1.snd : Int)) x1.fst x'.fst x'.snd) ∧ (((10001 : Nat) - x'.snd < (10001 : Nat) - x2.snd) ∧ ((True ∧ ((s = s) ∧ ((slotOk last s = slotOk last s) ∧ (True ∧ (((↑x.snd : Int) = (↑x.snd : Int)) ∧ ((IntKind.i64.wrap (Int.tdiv (at' (0 : Int) D (↑x.snd : Int)) (at' partE.zero L (↑x.snd : Int)).E) = IntKind.i64.wrap (Int.tdiv (at' (0 : Int) D (↑x.snd : Int)) (at' partE.zero L (↑x.snd : Int)).E)) ∧ ((IntKind.i64.wrap (Int.tdiv (at' (0 : Int) D (↑x.snd : Int)) (at' partE.zero L (↑x.snd : Int)).E) + (↑x1.snd : Int) = IntKind.i64.wrap (Int.tdiv (at' (0 : Int) D (↑x.snd : Int)) (at' partE.zero L (↑x.snd : Int)).E) + (↑x1.snd : Int)) ∧ (True ∧ (True ∧ ((x'.fst.snd = true) ∧ (((↑x'.snd : Int) = IntKind.i64.wrap ((↑x2.snd : Int) + (1 : Int))) ∧ True))))))))))) ∧ (((True ∧ ((t = t) ∧ ((last = last) ∧ True))) ∧ ((D = D) ∧ ((served = served) ∧ ((idle = idle) ∧ True)))) ∧ ((L = L) ∧ ((x1.fst = x1.fst) ∧ ((((jobAt t (↑x.snd : Int) (at' partE.zero L (↑x.snd : Int)) (at' (0 : Int) D (↑x.snd : Int)) (IntKind.i64.wrap (Int.tdiv (at' (0 : Int) D (↑x.snd : Int)) (at' partE.zero L (↑x.snd : Int)).E) + (↑x1.snd : Int))).Part = (jobAt t (↑x.snd : Int) (at' partE.zero L (↑x.snd : Int)) (at' (0 : Int) D (↑x.snd : Int)) (IntKind.i64.wrap (Int.tdiv (at' (0 : Int) D (↑x.snd : Int)) (at' partE.zero L (↑x.snd : Int)).E) + (↑x1.snd : Int))).Part) ∧ (((jobAt t (↑x.snd : Int) (at' partE.zero L (↑x.snd : Int)) (at' (0 : Int) D (↑x.snd : Int)) (IntKind.i64.wrap (Int.tdiv (at' (0 : Int) D (↑x.snd : Int)) (at' partE.zero L (↑x.snd : Int)).E) + (↑x1.snd : Int))).Index = (jobAt t (↑x.snd : Int) (at' partE.zero L (↑x.snd : Int)) (at' (0 : Int) D (↑x.snd : Int)) (IntKind.i64.wrap (Int.tdiv (at' (0 : Int) D (↑x.snd : Int)) (at' partE.zero L (↑x.snd : Int)).E) + (↑x1.snd : Int))).Index) ∧ (((jobAt t (↑x.snd : Int) (at' partE.zero L (↑x.snd : Int)) (at' (0 : Int) D (↑x.snd : Int)) (IntKind.i64.wrap (Int.tdiv (at' (0 : Int) D (↑x.snd : Int)) (at' partE.zero L (↑x.snd : Int)).E) + (↑x1.snd : Int))).Release = (jobAt t (↑x.snd : Int) (at' partE.zero L (↑x.snd : Int)) (at' (0 : Int) D (↑x.snd : Int)) (IntKind.i64.wrap (Int.tdiv (at' (0 : Int) D (↑x.snd : Int)) (at' partE.zero L (↑x.snd : Int)).E) + (↑x1.snd : Int))).Release) ∧ (((jobAt t (↑x.snd : Int) (at' partE.zero L (↑x.snd : Int)) (at' (0 : Int) D (↑x.snd : Int)) (IntKind.i64.wrap (Int.tdiv (at' (0 : Int) D (↑x.snd : Int)) (at' partE.zero L (↑x.snd : Int)).E) + (↑x1.snd : Int))).Deadline = (jobAt t (↑x.snd : Int) (at' partE.zero L (↑x.snd : Int)) (at' (0 : Int) D (↑x.snd : Int)) (IntKind.i64.wrap (Int.tdiv (at' (0 : Int) D (↑x.snd : Int)) (at' partE.zero L (↑x.snd : Int)).E) + (↑x1.snd : Int))).Deadline) ∧ (((jobAt t (↑x.snd : Int) (at' partE.zero L (↑x.snd : Int)) (at' (0 : Int) D (↑x.snd : Int)) (IntKind.i64.wrap (Int.tdiv (at' (0 : Int) D (↑x.snd : Int)) (at' partE.zero L (↑x.snd : Int)).E) + (↑x1.snd : Int))).Left = (jobAt t (↑x.snd : Int) (at' partE.zero L (↑x.snd : Int)) (at' (0 : Int) D (↑x.snd : Int)) (IntKind.i64.wrap (Int.tdiv (at' (0 : Int) D (↑x.snd : Int)) (at' partE.zero L (↑x.snd : Int)).E) + (↑x1.snd : Int))).Left) ∧ True))))) ∧ ((x'.fst.fst = x2.fst.fst ++ [jobAt t (↑x.snd : Int) (at' partE.zero L (↑x.snd : Int)) (at' (0 : Int) D (↑x.snd : Int)) (IntKind.i64.wrap (Int.tdiv (at' (0 : Int) D (↑x.snd : Int)) (at' partE.zero L (↑x.snd : Int)).E) + (↑x1.snd : Int))] ++ [at' jobE.zero x1.fst (↑x2.snd : Int)]) ∧ True))))))))) | false => False) | false => False) | false => False) | false => False) | false => (match (inb (↑x2.snd : Int) x1.fst.length) with | true => (match (inb (↑x2.snd : Int) x1.fst.length) with | true => (match (roomy (x2.fst.fst.length + (1 : Nat)) (nat_lit 40)) with | true => (∃ x' : (List Job × Bool) × Nat, ((jobs3I t L D (↑x.snd : Int) (IntKind.i64.wrap (Int.tdiv (at' (0 : Int) D (↑x.snd : Int)) (at' partE.zero L (↑x.snd : Int)).E) + (↑x1.snd : Int)) x1.fst x'.fst x'.snd) ∧ (((10001 : Nat) - x'.snd < (10001 : Nat) - x2.snd) ∧ ((True ∧ ((s = s) ∧ ((slotOk last s = slotOk last s) ∧ (True ∧ (((↑x.snd : Int) = (↑x.snd : Int)) ∧ ((IntKind.i64.wrap (Int.tdiv (at' (0 : Int) D (↑x.snd : Int)) (at' partE.zero L (↑x.snd : Int)).E) = IntKind.i64.wrap (Int.tdiv (at' (0 : Int) D (↑x.snd : Int)) (at' partE.zero L (↑x.snd : Int)).E)) ∧ ((IntKind.i64.wrap (Int.tdiv (at' (0 : Int) D (↑x.snd : Int)) (at' partE.zero L (↑x.snd : Int)).E) + (↑x1.snd : Int) = IntKind.i64.wrap (Int.tdiv (at' (0 : Int) D (↑x.snd : Int)) (at' partE.zero L (↑x.snd : Int)).E) + (↑x1.snd : Int)) ∧ (True ∧ (True ∧ ((x'.fst.snd = x2.fst.snd) ∧ (((↑x'.snd : Int) = IntKind.i64.wrap ((↑x2.snd : Int) + (1 : Int))) ∧ True))))))))))) ∧ (((True ∧ ((t = t) ∧ ((last = last) ∧ True))) ∧ ((D = D) ∧ ((served = served) ∧ ((idle = idle) ∧ True)))) ∧ ((L = L) ∧ ((x1.fst = x1.fst) ∧ ((((jobAt t (↑x.snd : Int) (at' partE.zero L (↑x.snd : Int)) (at' (0 : Int) D (↑x.snd : Int)) (IntKind.i64.wrap (Int.tdiv (at' (0 : Int) D (↑x.snd : Int)) (at' partE.zero L (↑x.snd : Int)).E) + (↑x1.snd : Int))).Part = (jobAt t (↑x.snd : Int) (at' partE.zero L (↑x.snd : Int)) (at' (0 : Int) D (↑x.snd : Int)) (IntKind.i64.wrap (Int.tdiv (at' (0 : Int) D (↑x.snd : Int)) (at' partE.zero L (↑x.snd : Int)).E) + (↑x1.snd : Int))).Part) ∧ (((jobAt t (↑x.snd : Int) (at' partE.zero L (↑x.snd : Int)) (at' (0 : Int) D (↑x.snd : Int)) (IntKind.i64.wrap (Int.tdiv (at' (0 : Int) D (↑x.snd : Int)) (at' partE.zero L (↑x.snd : Int)).E) + (↑x1.snd : Int))).Index = (jobAt t (↑x.snd : Int) (at' partE.zero L (↑x.snd : Int)) (at' (0 : Int) D (↑x.snd : Int)) (IntKind.i64.wrap (Int.tdiv (at' (0 : Int) D (↑x.snd : Int)) (at' partE.zero L (↑x.snd : Int)).E) + (↑x1.snd : Int))).Index) ∧ (((jobAt t (↑x.snd : Int) (at' partE.zero L (↑x.snd : Int)) (at' (0 : Int) D (↑x.snd : Int)) (IntKind.i64.wrap (Int.tdiv (at' (0 : Int) D (↑x.snd : Int)) (at' partE.zero L (↑x.snd : Int)).E) + (↑x1.snd : Int))).Release = (jobAt t (↑x.snd : Int) (at' partE.zero L (↑x.snd : Int)) (at' (0 : Int) D (↑x.snd : Int)) (IntKind.i64.wrap (Int.tdiv (at' (0 : Int) D (↑x.snd : Int)) (at' partE.zero L (↑x.snd : Int)).E) + (↑x1.snd : Int))).Release) ∧ (((jobAt t (↑x.snd : Int) (at' partE.zero L (↑x.snd : Int)) (at' (0 : Int) D (↑x.snd : Int)) (IntKind.i64.wrap (Int.tdiv (at' (0 : Int) D (↑x.snd : Int)) (at' partE.zero L (↑x.snd : Int)).E) + (↑x1.snd : Int))).Deadline = (jobAt t (↑x.snd : Int) (at' partE.zero L (↑x.snd : Int)) (at' (0 : Int) D (↑x.snd : Int)) (IntKind.i64.wrap (Int.tdiv (at' (0 : Int) D (↑x.snd : Int)) (at' partE.zero L (↑x.snd : Int)).E) + (↑x1.snd : Int))).Deadline) ∧ (((jobAt t (↑x.snd : Int) (at' partE.zero L (↑x.snd : Int)) (at' (0 : Int) D (↑x.snd : Int)) (IntKind.i64.wrap (Int.tdiv (at' (0 : Int) D (↑x.snd : Int)) (at' partE.zero L (↑x.snd : Int)).E) + (↑x1.snd : Int))).Left = (jobAt t (↑x.snd : Int) (at' partE.zero L (↑x.snd : Int)) (at' (0 : Int) D (↑x.snd : Int)) (IntKind.i64.wrap (Int.tdiv (at' (0 : Int) D (↑x.snd : Int)) (at' partE.zero L (↑x.snd : Int)).E) + (↑x1.snd : Int))).Left) ∧ True))))) ∧ ((x'.fst.fst = x2.fst.fst ++ [at' jobE.zero x1.fst (↑x2.snd : Int)]) ∧ True))))))))) | false => False) | false => False) | false => False)) | false => False) | false => False) | false => (match (inb (↑x2.snd : Int) x1.fst.length) with | true => (match (inb (↑x2.snd : Int) x1.fst.length) with | true => (match (roomy (x2.fst.fst.length + (1 : Nat)) (nat_lit 40)) with | true => (∃ x' : (List Job × Bool) × Nat, ((jobs3I t L D (↑x.snd : Int) (IntKind.i64.wrap (Int.tdiv (at' (0 : Int) D (↑x.snd : Int)) (at' partE.zero L (↑x.snd : Int)).E) + (↑x1.snd : Int)) x1.fst x'.fst x'.snd) ∧ (((10001 : Nat) - x'.snd < (10001 : Nat) - x2.snd) ∧ ((True ∧ ((s = s) ∧ ((slotOk last s = slotOk last s) ∧ (True ∧ (((↑x.snd : Int) = (↑x.snd : Int)) ∧ ((IntKind.i64.wrap (Int.tdiv (at' (0 : Int) D (↑x.snd : Int)) (at' partE.zero L (↑x.snd : Int)).E) = IntKind.i64.wrap (Int.tdiv (at' (0 : Int) D (↑x.snd : Int)) (at' partE.zero L (↑x.snd : Int)).E)) ∧ ((IntKind.i64.wrap (Int.tdiv (at' (0 : Int) D (↑x.snd : Int)) (at' partE.zero L (↑x.snd : Int)).E) + (↑x1.snd : Int) = IntKind.i64.wrap (Int.tdiv (at' (0 : Int) D (↑x.snd : Int)) (at' partE.zero L (↑x.snd : Int)).E) + (↑x1.snd : Int)) ∧ (True ∧ (True ∧ ((x'.fst.snd = x2.fst.snd) ∧ (((↑x'.snd : Int) = IntKind.i64.wrap ((↑x2.snd : Int) + (1 : Int))) ∧ True))))))))))) ∧ (((True ∧ ((t = t) ∧ ((last = last) ∧ True))) ∧ ((D = D) ∧ ((served = served) ∧ ((idle = idle) ∧ True)))) ∧ ((L = L) ∧ ((x1.fst = x1.fst) ∧ ((((jobAt t (↑x.snd : Int) (at' partE.zero L (↑x.snd : Int)) (at' (0 : Int) D (↑x.snd : Int)) (IntKind.i64.wrap (Int.tdiv (at' (0 : Int) D (↑x.snd : Int)) (at' partE.zero L (↑x.snd : Int)).E) + (↑x1.snd : Int))).Part = (jobAt t (↑x.snd : Int) (at' partE.zero L (↑x.snd : Int)) (at' (0 : Int) D (↑x.snd : Int)) (IntKind.i64.wrap (Int.tdiv (at' (0 : Int) D (↑x.snd : Int)) (at' partE.zero L (↑x.snd : Int)).E) + (↑x1.snd : Int))).Part) ∧ (((jobAt t (↑x.snd : Int) (at' partE.zero L (↑x.snd : Int)) (at' (0 : Int) D (↑x.snd : Int)) (IntKind.i64.wrap (Int.tdiv (at' (0 : Int) D (↑x.snd : Int)) (at' partE.zero L (↑x.snd : Int)).E) + (↑x1.snd : Int))).Index = (jobAt t (↑x.snd : Int) (at' partE.zero L (↑x.snd : Int)) (at' (0 : Int) D (↑x.snd : Int)) (IntKind.i64.wrap (Int.tdiv (at' (0 : Int) D (↑x.snd : Int)) (at' partE.zero L (↑x.snd : Int)).E) + (↑x1.snd : Int))).Index) ∧ (((jobAt t (↑x.snd : Int) (at' partE.zero L (↑x.snd : Int)) (at' (0 : Int) D (↑x.snd : Int)) (IntKind.i64.wrap (Int.tdiv (at' (0 : Int) D (↑x.snd : Int)) (at' partE.zero L (↑x.snd : Int)).E) + (↑x1.snd : Int))).Release = (jobAt t (↑x.snd : Int) (at' partE.zero L (↑x.snd : Int)) (at' (0 : Int) D (↑x.snd : Int)) (IntKind.i64.wrap (Int.tdiv (at' (0 : Int) D (↑x.snd : Int)) (at' partE.zero L (↑x.snd : Int)).E) + (↑x1.snd : Int))).Release) ∧ (((jobAt t (↑x.snd : Int) (at' partE.zero L (↑x.snd : Int)) (at' (0 : Int) D (↑x.snd : Int)) (IntKind.i64.wrap (Int.tdiv (at' (0 : Int) D (↑x.snd : Int)) (at' partE.zero L (↑x.snd : Int)).E) + (↑x1.snd : Int))).Deadline = (jobAt t (↑x.snd : Int) (at' partE.zero L (↑x.snd : Int)) (at' (0 : Int) D (↑x.snd : Int)) (IntKind.i64.wrap (Int.tdiv (at' (0 : Int) D (↑x.snd : Int)) (at' partE.zero L (↑x.snd : Int)).E) + (↑x1.snd : Int))).Deadline) ∧ (((jobAt t (↑x.snd : Int) (at' partE.zero L (↑x.snd : Int)) (at' (0 : Int) D (↑x.snd : Int)) (IntKind.i64.wrap (Int.tdiv (at' (0 : Int) D (↑x.snd : Int)) (at' partE.zero L (↑x.snd : Int)).E) + (↑x1.snd : Int))).Left = (jobAt t (↑x.snd : Int) (at' partE.zero L (↑x.snd : Int)) (at' (0 : Int) D (↑x.snd : Int)) (IntKind.i64.wrap (Int.tdiv (at' (0 : Int) D (↑x.snd : Int)) (at' partE.zero L (↑x.snd : Int)).E) + (↑x1.snd : Int))).Left) ∧ True))))) ∧ ((x'.fst.fst = x2.fst.fst ++ [at' jobE.zero x1.fst (↑x2.snd : Int)]) ∧ True))))))))) | false => False) | false => False) | false => False)) | false => False) | false => False)) | false => False) | false => False) | false => (match (inb (↑x2.snd : Int) x1.fst.length) with | true => (match (inb (↑x2.snd : Int) x1.fst.length) with | true => (match (roomy (x2.fst.fst.length + (1 : Nat)) (nat_lit 40)) with | true => (∃ x' : (List Job × Bool) × Nat, ((jobs3I t L D (↑x.snd : Int) (IntKind.i64.wrap (Int.tdiv (at' (0 : Int) D (↑x.snd : Int)) (at' partE.zero L (↑x.snd : Int)).E) + (↑x1.snd : Int)) x1.fst x'.fst x'.snd) ∧ (((10001 : Nat) - x'.snd < (10001 : Nat) - x2.snd) ∧ ((True ∧ ((s = s) ∧ ((slotOk last s = slotOk last s) ∧ (True ∧ (((↑x.snd : Int) = (↑x.snd : Int)) ∧ ((IntKind.i64.wrap (Int.tdiv (at' (0 : Int) D (↑x.snd : Int)) (at' partE.zero L (↑x.snd : Int)).E) = IntKind.i64.wrap (Int.tdiv (at' (0 : Int) D (↑x.snd : Int)) (at' partE.zero L (↑x.snd : Int)).E)) ∧ ((IntKind.i64.wrap (Int.tdiv (at' (0 : Int) D (↑x.snd : Int)) (at' partE.zero L (↑x.snd : Int)).E) + (↑x1.snd : Int) = IntKind.i64.wrap (Int.tdiv (at' (0 : Int) D (↑x.snd : Int)) (at' partE.zero L (↑x.snd : Int)).E) + (↑x1.snd : Int)) ∧ (True ∧ (True ∧ ((x'.fst.snd = x2.fst.snd) ∧ (((↑x'.snd : Int) = IntKind.i64.wrap ((↑x2.snd : Int) + (1 : Int))) ∧ True))))))))))) ∧ (((True ∧ ((t = t) ∧ ((last = last) ∧ True))) ∧ ((D = D) ∧ ((served = served) ∧ ((idle = idle) ∧ True)))) ∧ ((L = L) ∧ ((x1.fst = x1.fst) ∧ ((((jobAt t (↑x.snd : Int) (at' partE.zero L (↑x.snd : Int)) (at' (0 : Int) D (↑x.snd : Int)) (IntKind.i64.wrap (Int.tdiv (at' (0 : Int) D (↑x.snd : Int)) (at' partE.zero L (↑x.snd : Int)).E) + (↑x1.snd : Int))).Part = (jobAt t (↑x.snd : Int) (at' partE.zero L (↑x.snd : Int)) (at' (0 : Int) D (↑x.snd : Int)) (IntKind.i64.wrap (Int.tdiv (at' (0 : Int) D (↑x.snd : Int)) (at' partE.zero L (↑x.snd : Int)).E) + (↑x1.snd : Int))).Part) ∧ (((jobAt t (↑x.snd : Int) (at' partE.zero L (↑x.snd : Int)) (at' (0 : Int) D (↑x.snd : Int)) (IntKind.i64.wrap (Int.tdiv (at' (0 : Int) D (↑x.snd : Int)) (at' partE.zero L (↑x.snd : Int)).E) + (↑x1.snd : Int))).Index = (jobAt t (↑x.snd : Int) (at' partE.zero L (↑x.snd : Int)) (at' (0 : Int) D (↑x.snd : Int)) (IntKind.i64.wrap (Int.tdiv (at' (0 : Int) D (↑x.snd : Int)) (at' partE.zero L (↑x.snd : Int)).E) + (↑x1.snd : Int))).Index) ∧ (((jobAt t (↑x.snd : Int) (at' partE.zero L (↑x.snd : Int)) (at' (0 : Int) D (↑x.snd : Int)) (IntKind.i64.wrap (Int.tdiv (at' (0 : Int) D (↑x.snd : Int)) (at' partE.zero L (↑x.snd : Int)).E) + (↑x1.snd : Int))).Release = (jobAt t (↑x.snd : Int) (at' partE.zero L (↑x.snd : Int)) (at' (0 : Int) D (↑x.snd : Int)) (IntKind.i64.wrap (Int.tdiv (at' (0 : Int) D (↑x.snd : Int)) (at' partE.zero L (↑x.snd : Int)).E) + (↑x1.snd : Int))).Release) ∧ (((jobAt t (↑x.snd : Int) (at' partE.zero L (↑x.snd : Int)) (at' (0 : Int) D (↑x.snd : Int)) (IntKind.i64.wrap (Int.tdiv (at' (0 : Int) D (↑x.snd : Int)) (at' partE.zero L (↑x.snd : Int)).E) + (↑x1.snd : Int))).Deadline = (jobAt t (↑x.snd : Int) (at' partE.zero L (↑x.snd : Int)) (at' (0 : Int) D (↑x.snd : Int)) (IntKind.i64.wrap (Int.tdiv (at' (0 : Int) D (↑x.snd : Int)) (at' partE.zero L (↑x.snd : Int)).E) + (↑x1.snd : Int))).Deadline) ∧ (((jobAt t (↑x.snd : Int) (at' partE.zero L (↑x.snd : Int)) (at' (0 : Int) D (↑x.snd : Int)) (IntKind.i64.wrap (Int.tdiv (at' (0 : Int) D (↑x.snd : Int)) (at' partE.zero L (↑x.snd : Int)).E) + (↑x1.snd : Int))).Left = (jobAt t (↑x.snd : Int) (at' partE.zero L (↑x.snd : Int)) (at' (0 : Int) D (↑x.snd : Int)) (IntKind.i64.wrap (Int.tdiv (at' (0 : Int) D (↑x.snd : Int)) (at' partE.zero L (↑x.snd : Int)).E) + (↑x1.snd : Int))).Left) ∧ True))))) ∧ ((x'.fst.fst = x2.fst.fst ++ [at' jobE.zero x1.fst (↑x2.snd : Int)]) ∧ True))))))))) | false => False) | false => False) | false => False)) | false => (match (!x2.fst.snd) with | true => (match (roomy (x2.fst.fst.length + (1 : Nat)) (nat_lit 40)) with | true => (∃ x' : List Job × Nat, ((jobs2I t L D s (↑x.snd : Int) x'.fst x'.snd) ∧ (((1001 : Nat) - x'.snd < (1001 : Nat) - x1.snd) ∧ ((True ∧ ((s = s) ∧ ((slotOk last s = slotOk last s) ∧ (True ∧ (((↑x.snd : Int) = (↑x.snd : Int)) ∧ ((IntKind.i64.wrap (Int.tdiv (at' (0 : Int) D (↑x.snd : Int)) (at' partE.zero L (↑x.snd : Int)).E) = IntKind.i64.wrap (Int.tdiv (at' (0 : Int) D (↑x.snd : Int)) (at' partE.zero L (↑x.snd : Int)).E)) ∧ ((IntKind.i64.wrap (Int.tdiv (at' (0 : Int) D (↑x.snd : Int)) (at' partE.zero L (↑x.snd : Int)).E) + (↑x'.snd : Int) = IntKind.i64.wrap (IntKind.i64.wrap (Int.tdiv (at' (0 : Int) D (↑x.snd : Int)) (at' partE.zero L (↑x.snd : Int)).E) + (↑x1.snd : Int) + (1 : Int))) ∧ True))))))) ∧ (((True ∧ ((t = t) ∧ ((last = last) ∧ True))) ∧ ((D = D) ∧ ((served = served) ∧ ((idle = idle) ∧ True)))) ∧ ((L = L) ∧ ((x'.fst = x2.fst.fst ++ [jobAt t (↑x.snd : Int) (at' partE.zero L (↑x.snd : Int)) (at' (0 : Int) D (↑x.snd : Int)) (IntKind.i64.wrap (Int.tdiv (at' (0 : Int) D (↑x.snd : Int)) (at' partE.zero L (↑x.snd : Int)).E) + (↑x1.snd : Int))]) ∧ True))))))) | false => False) | false => (∃ x' : List Job × Nat, ((jobs2I t L D s (↑x.snd : Int) x'.fst x'.snd) ∧ (((1001 : Nat) - x'.snd < (1001 : Nat) - x1.snd) ∧ ((True ∧ ((s = s) ∧ ((slotOk last s = slotOk last s) ∧ (True ∧ (((↑x.snd : Int) = (↑x.snd : Int)) ∧ ((IntKind.i64.wrap (Int.tdiv (at' (0 : Int) D (↑x.snd : Int)) (at' partE.zero L (↑x.snd : Int)).E) = IntKind.i64.wrap (Int.tdiv (at' (0 : Int) D (↑x.snd : Int)) (at' partE.zero L (↑x.snd : Int)).E)) ∧ ((IntKind.i64.wrap (Int.tdiv (at' (0 : Int) D (↑x.snd : Int)) (at' partE.zero L (↑x.snd : Int)).E) + (↑x'.snd : Int) = IntKind.i64.wrap (IntKind.i64.wrap (Int.tdiv (at' (0 : Int) D (↑x.snd : Int)) (at' partE.zero L (↑x.snd : Int)).E) + (↑x1.snd : Int) + (1 : Int))) ∧ True))))))) ∧ (((True ∧ ((t = t) ∧ ((last = last) ∧ True))) ∧ ((D = D) ∧ ((served = served) ∧ ((idle = idle) ∧ True)))) ∧ ((L = L) ∧ ((x'.fst = x2.fst.fst) ∧ True)))))))))))) | false => False) | false => (∃ x' : List Job × Nat, ((jobs1I t L D last s x'.fst x'.snd) ∧ ((L.length - x'.snd < L.length - x.snd) ∧ ((True ∧ ((s = s) ∧ ((slotOk last s = slotOk last s) ∧ (True ∧ (((↑x'.snd : Int) = IntKind.i64.wrap ((↑x.snd : Int) + (1 : Int))) ∧ True))))) ∧ (((True ∧ ((t = t) ∧ ((last = last) ∧ True))) ∧ ((D = D) ∧ ((served = served) ∧ ((idle = idle) ∧ True)))) ∧ ((L = L) ∧ ((x'.fst = x1.fst) ∧ True)))))))) | false => (∃ x' : List Job × Nat, ((jobs1I t L D last s x'.fst x'.snd) ∧ ((L.length - x'.snd < L.length - x.snd) ∧ ((True ∧ ((s = s) ∧ ((slotOk last s = slotOk last s) ∧ (True ∧ (((↑x'.snd : Int) = IntKind.i64.wrap ((↑x.snd : Int) + (1 : Int))) ∧ True))))) ∧ (((True ∧ ((t = t) ∧ ((last = last) ∧ True))) ∧ ((D = D) ∧ ((served = served) ∧ ((idle = idle) ∧ True)))) ∧ ((L = L) ∧ ((x'.fst = x1.fst) ∧ True)))))))) | false => False)))) | false => False) | false => False) | false => False) | false => False) | false => False) | false => ((True ∧ True) ∧ (((True ∧ ((t = t) ∧ ((last = last) ∧ True))) ∧ ((D = D) ∧ ((served = served) ∧ ((idle = idle) ∧ True)))) ∧ ((L = L) ∧ ((jobs14 t L D last s = x.fst) ∧ True))))) | false => ((True ∧ True) ∧ (((True ∧ ((t = t) ∧ ((last = last) ∧ True))) ∧ ((D = D) ∧ ((served = served) ∧ ((idle = idle) ∧ True)))) ∧ ((L = L) ∧ ((jobs14 t L D last s = x.fst) ∧ True))))))))
theorem r14JobsVc (L : List Part) (D : List Int) (t last served idle s : Int) : fnX X35 (annOf [(4, { σ := List Job × Nat, st := fun S x => ((S.keep [0, 1, 5]).int 7 x.2).new 6 (.vec 4 x.1 52), inv := fun _ x => jobs1I t L D last s x.1 x.2, m := fun x => L.length - x.2 }), (8, { σ := List Job × Nat, st := fun S x => ((((S.keep [0, 1, 5, 7, 8]).gc 2).int 9 (S.gi 8 + x.2)).new 6 (.vec 4 x.1 52)), inv := fun S x => jobs2I t L D s (S.gi 7) x.1 x.2, m := fun x => 1001 - x.2 }), (14, { σ := (List Job × Bool) × Nat, st := fun S x => ((((S.keep [0, 1, 5, 6, 7, 8, 9, 10]).gc 2).bool 12 x.1.2).int 13 x.2).new 11 (.vec 4 x.1.1 52), inv := fun S x => jobs3I t L D (S.gi 7) (S.gi 9) (S.gv 6 4) x.1 x.2, m := fun x => 10001 - x.2 })] []) Try.f31 [.ptr 0 0, .raw (.int .i64 s)] [.mix [.own 1, .raw (.int .i64 t), .raw (.int .i64 last)] 0 8 D [.raw (.int .i64 served), .raw (.int .i64 idle)] 67, .ro 3 L] (ends [.mix [.own 1, .raw (.int .i64 t), .raw (.int .i64 last)] 0 8 D [.raw (.int .i64 served), .raw (.int .i64 idle)] 67, .ro 3 L] ⟨some (.own 2), [(2, some (.vec 4 (jobs14 t L D last s) 52))]⟩) = r14JobsText L D t last served idle s := by kernel_rfl
set_option maxHeartbeats 1000000 in
set_option maxRecDepth 20000 in
theorem r14JobsHolds (L : List Part) (D : List Int) (t last served idle s : Int) (hp : RefOk t L D ∧ t ≤ last) : r14JobsText L D t last served idle s := by
  unfold r14JobsText
  obtain ⟨hO, htl⟩ := hp
  have hR := hO.row
  have hlen := hO.len
  have hml := rowOf_length t L D
  refine ⟨⟨([], 0), jobs1I.init, by repeat' first | apply And.intro | exact True.intro | with_reducible rfl | exact rfl⟩, ?_⟩
  intro x hi
  obtain ⟨A, x⟩ := x
  dsimp only at hi ⊢
  by_cases h : x < L.length
  · rw [dec_lt h]
    cases hs : slotOk last s
    · have e := jobs1_end hi (.inl hs)
      repeat' first | exact e | apply And.intro | exact True.intro | with_reducible rfl | exact rfl
    · obtain ⟨hsl, hst⟩ := slotOk_iff.1 hs
      have hD := hO.lt h
      obtain ⟨o1, o2, o3⟩ := hO.parts x h
      obtain ⟨b1, b2, b3, b4, b5⟩ := hO.bound h hD
      have t0 := hO.t0
      have hwx := wrap_succ h (show L.length ≤ 140737488355328 by omega)
      have hxM : x < (rowOf t L D).length := by rw [hml]; exact h
      have hg := rowOf_get (t := t) h hD
      rw [inb_nat h, at_nat h, inb_nat hD, at_nat hD, show inb (x : Int) 8 = true from inb_nat (by omega), show (L[x].E != 0) = true from bne_iff_ne.2 (by omega), Int.tdiv_eq_ediv_of_nonneg b1, wrap_id (n := D[x] / L[x].E) (by omega) (by omega)]
      have hq0 : D[x] / L[x].E + ((0 : Nat) : Int) = D[x] / L[x].E := by omega
      refine ⟨⟨(A, 0), jobs2I.init hi, by repeat' first | exact hq0 | apply And.intro | exact True.intro | with_reducible rfl | exact rfl⟩, ?_⟩
      intro x1 hj
      obtain ⟨B, n⟩ := x1
      dsimp only at hj ⊢
      have hBl := jobs2_len hO hj
      obtain ⟨hget, hget2⟩ := eachN_get s mostJ (rowOf t L D)[x] n (by rw [hg]; rfl) (by rw [hg]; show 1 ≤ L[x].P; omega)
      rw [← eachA_def] at hget
      have hel : (rowOf t L D)[x] = at' ownE.zero (rowOf t L D) (x : Int) := (at_nat hxM).symm
      have hrl : (jobN (rowOf t L D)[x] n).Release = t + (D[x] / L[x].E + n) * L[x].P := by
        rw [jobN_rel n _ (by rw [hg]; rfl), hg]
        show t + D[x] / L[x].E * L[x].P + n * L[x].P = _
        rw [Int.add_mul]; omega
      have hrel := released_iff (t := t) (s := s) (P := L[x].P) (n := D[x] / L[x].E + n) (by omega) (by omega)
      have hnl := hj.le
      rw [← hel] at hnl
      have hnm : n ≤ 1000 := by
        have := eachN_length mostJ s (rowOf t L D)[x]
        rw [← eachA_def, mostJ_eq] at this
        omega
      have exitM : ¬ n < (eachA s (rowOf t L D)[x]).length → jobs1I t L D last s B (x + 1) := fun g => jobs2I.done h hs hj (by rw [← hel]; exact g)
      rw [decide_eq_true (⟨hO, by omega, by omega, by omega, hst⟩ : RefOk t L D ∧ 0 ≤ (x : Int) ∧ (x : Int) < (L.length : Int) ∧ t ≤ s ∧ s ≤ 1099511627776), wrap_id (n := D[x] / L[x].E + 1000) (by omega) (by omega)]
      by_cases c1 : D[x] / L[x].E + (n : Int) < (s - t) / L[x].P + 1
      · rw [decide_eq_true c1]
        by_cases c2 : n < 1000
        · have hin : n < (eachA s (rowOf t L D)[x]).length := hget.2 ⟨by rw [mostJ_eq]; exact c2, by
            rw [hrl]
            refine Int.not_lt.1 fun g => ?_
            have := hrel.2 g
            omega⟩
          rw [decide_eq_true (show D[x] / L[x].E + (n : Int) < D[x] / L[x].E + 1000 by omega), decide_eq_true (⟨hO, by omega, by omega, by omega, by omega⟩ : RefOk t L D ∧ 0 ≤ (x : Int) ∧ (x : Int) < (L.length : Int) ∧ 0 ≤ D[x] / L[x].E + (n : Int) ∧ D[x] / L[x].E + (n : Int) ≤ 1099512677376)]
          have hst2 := jobs2I.step hO hst h hj (by rw [← hel]; exact hin)
          have hjn : (eachA s (at' ownE.zero (rowOf t L D) (x : Int)))[n]'(by rw [← hel]; exact hin) = jobAt t x L[x] D[x] (D[x] / L[x].E + n) := by
            have e1 := hget2 (by rw [← eachA_def]; exact hin)
            simp only [← hel]
            refine Eq.trans e1 ?_
            rw [hg, jobN_at o1]
          rw [hjn] at hst2
          refine ⟨⟨(([], false), 0), ⟨Nat.zero_le _, by rw [List.take_zero]; rfl⟩, by repeat' first | apply And.intro | exact True.intro | with_reducible rfl | exact rfl⟩, ?_⟩
          intro x2 hk
          obtain ⟨⟨N, put⟩, k⟩ := x2
          dsimp only at hk ⊢
          have k1 := hk.le
          have k2 := hk.eq
          rw [at_nat h, at_nat hD] at k2
          obtain ⟨j, hj0⟩ : ∃ j, j = jobAt t x L[x] D[x] (D[x] / L[x].E + n) := ⟨_, rfl⟩
          rw [← hj0] at k2 hst2 ⊢
          have hlenF := putF_len j (B.take k)
          rw [← k2, List.length_take] at hlenF
          have hNl : N.length ≤ k + 1 := by
            dsimp only at hlenF
            cases put
            · rw [cond_false] at hlenF; omega
            · rw [cond_true] at hlenF; omega
          have hwn : D[x] / L[x].E + ((n + 1 : Nat) : Int) = IntKind.i64.wrap (D[x] / L[x].E + (n : Int) + 1) := by rw [wrap_id (by omega) (by omega)]; omega
          by_cases hkB : k < B.length
          · have hwk := wrap_succ hkB (show B.length ≤ 140737488355328 by omega)
            have hstep : ∀ q : List Job × Bool, q = putS j (N, put) B[k] → jobs3I t L D x (D[x] / L[x].E + n) B q (k + 1) := by
              rintro q rfl
              refine ⟨hkB, ?_⟩
              rw [at_nat h, at_nat hD, ← hj0, take_at hkB, putF_snoc, ← k2]
            have r1 : roomy (N.length + 1) 40 = true := decide_eq_true (by omega)
            have r2 : roomy ((N ++ [j]).length + 1) 40 = true := decide_eq_true (by rw [List.length_append]; show (N.length + 1 + 1) * 40 ≤ _; omega)
            have hap : (N ++ [j]) ++ [B[k]] = N ++ [j, B[k]] := by rw [List.append_assoc]; rfl
            have hlt := ltJ_parts j B[k]
            rw [dec_lt hkB, inb_nat hkB, at_nat hkB, r1, r2]
            cases put
            · have pt : ltJ j B[k] = true → putS j (N, false) B[k] = (N ++ [j] ++ [B[k]], true) := by intro g; unfold putS; rw [g, hap]; rfl
              have pf : ltJ j B[k] = false → putS j (N, false) B[k] = (N ++ [B[k]], false) := by intro g; unfold putS; rw [g]; rfl
              rw [show (!false) = true from rfl]
              by_cases d1 : j.Deadline < B[k].Deadline
              · rw [decide_eq_true d1, Bool.true_or] at hlt
                rw [decide_eq_true d1]
                refine ⟨((N ++ [j] ++ [B[k]], true), k + 1), hstep _ (pt hlt).symm, by dsimp only; omega, ?_⟩
                repeat' first | exact hwk.symm | apply And.intro | exact True.intro | with_reducible rfl | exact rfl
              · rw [decide_eq_false d1, Bool.false_or] at hlt
                rw [decide_eq_false d1]
                cases d2 : j.Deadline == B[k].Deadline
                · rw [d2, Bool.false_and] at hlt
                  refine ⟨((N ++ [B[k]], false), k + 1), hstep _ (pf hlt).symm, by dsimp only; omega, ?_⟩
                  repeat' first | exact hwk.symm | apply And.intro | exact True.intro | with_reducible rfl | exact rfl
                · rw [d2, Bool.true_and] at hlt
                  cases d3 : decide (j.Part < B[k].Part)
                  · rw [d3] at hlt
                    refine ⟨((N ++ [B[k]], false), k + 1), hstep _ (pf hlt).symm, by dsimp only; omega, ?_⟩
                    repeat' first | exact hwk.symm | apply And.intro | exact True.intro | with_reducible rfl | exact rfl
                  · rw [d3] at hlt
                    refine ⟨((N ++ [j] ++ [B[k]], true), k + 1), hstep _ (pt hlt).symm, by dsimp only; omega, ?_⟩
                    repeat' first | exact hwk.symm | apply And.intro | exact True.intro | with_reducible rfl | exact rfl
            · have pf : putS j (N, true) B[k] = (N ++ [B[k]], true) := rfl
              rw [show (!true) = false from rfl]
              refine ⟨((N ++ [B[k]], true), k + 1), hstep _ pf.symm, by dsimp only; omega, ?_⟩
              repeat' first | exact hwk.symm | apply And.intro | exact True.intro | with_reducible rfl | exact rfl
          · rw [List.take_of_length_le (by omega)] at k2
            have r1 : roomy (N.length + 1) 40 = true := decide_eq_true (by omega)
            have hE : putE j B = bif put then N else N ++ [j] := by unfold putE; rw [← k2]
            rw [hE] at hst2
            rw [dec_ge (by omega), r1]
            cases put
            · rw [show (!false) = true from rfl]
              refine ⟨(N ++ [j], n + 1), hst2, by dsimp only; omega, ?_⟩
              repeat' first | exact hwn | apply And.intro | exact True.intro | with_reducible rfl | exact rfl
            · rw [show (!true) = false from rfl]
              refine ⟨(N, n + 1), hst2, by dsimp only; omega, ?_⟩
              repeat' first | exact hwn | apply And.intro | exact True.intro | with_reducible rfl | exact rfl
        · have hout := exitM (fun g => by have := (hget.1 g).1; rw [mostJ_eq] at this; omega)
          rw [decide_eq_false (show ¬ D[x] / L[x].E + (n : Int) < D[x] / L[x].E + 1000 by omega)]
          refine ⟨(B, x + 1), hout, by dsimp only; omega, ?_⟩
          repeat' first | exact hwx.symm | apply And.intro | exact True.intro | with_reducible rfl | exact rfl
      · have hout := exitM (fun g => by
          have g2 := (hget.1 g).2
          rw [hrl] at g2
          have := hrel.1 (by omega)
          omega)
        rw [decide_eq_false c1]
        refine ⟨(B, x + 1), hout, by dsimp only; omega, ?_⟩
        repeat' first | exact hwx.symm | apply And.intro | exact True.intro | with_reducible rfl | exact rfl
  · have e := jobs1_end hi (.inr (by have := hi.le; omega))
    rw [dec_ge (by omega)]
    repeat' first | exact e | apply And.intro | exact True.intro | with_reducible rfl | exact rfl
noncomputable def r14JobsCon : Con T O := fun args cs => match args, cs with
  | [.ptr 0 0, .raw (.int .i64 s)], [.mix [.own 1, .raw (.int .i64 t), .raw (.int .i64 last)] 0 8 D [.raw (.int .i64 _), .raw (.int .i64 _)] 67, .ro 3 L] => chk (decide (RefOk t L D ∧ t ≤ last)) (.ret ⟨some (.own 2), [(2, some (.vec 4 (jobs14 t L D last s) 52))]⟩)
  | _, _ => .fail
theorem r14JobsOk : ConOk R Try.prog 31 r14JobsCon := con_of_fn R (X35) (TabOk.con R X35Ok) mixed Try.call31 Try.func31 r14JobsCon (by
  intro args cs K h
  unfold r14JobsCon at h
  split at h
  · rename_i s t last D served idle L
    rw [Tree.holds_chk] at h
    obtain ⟨hp, h⟩ := h
    refine ⟨annOf [(4, { σ := List Job × Nat, st := fun S x => ((S.keep [0, 1, 5]).int 7 x.2).new 6 (.vec 4 x.1 52), inv := fun _ x => jobs1I t L D last s x.1 x.2, m := fun x => L.length - x.2 }), (8, { σ := List Job × Nat, st := fun S x => ((((S.keep [0, 1, 5, 7, 8]).gc 2).int 9 (S.gi 8 + x.2)).new 6 (.vec 4 x.1 52)), inv := fun S x => jobs2I t L D s (S.gi 7) x.1 x.2, m := fun x => 1001 - x.2 }), (14, { σ := (List Job × Bool) × Nat, st := fun S x => ((((S.keep [0, 1, 5, 6, 7, 8, 9, 10]).gc 2).bool 12 x.1.2).int 13 x.2).new 11 (.vec 4 x.1.1 52), inv := fun S x => jobs3I t L D (S.gi 7) (S.gi 9) (S.gv 6 4) x.1 x.2, m := fun x => 10001 - x.2 })] [], _, fun v S hv => ⟨_, h, hv⟩, ?_⟩
    rw [r14JobsVc L D t last served idle s]
    exact r14JobsHolds L D t last served idle s (of_decide_eq_true hp)
  · exact h.elim)
noncomputable def tab36 : Tab T O := (31, r14JobsCon) :: tab35
theorem tabOk36 : TabOk R Try.prog tab36 := TabOk.cons R r14JobsOk <| tabOk35
noncomputable def X36 : Ctx T O := { X0 with con := conOf tab36 }
theorem X36Ok : TabOk R X36.P tab36 := tabOk36
end Go.Proofs.Ytmnnjclnldaejaa

namespace Go.Proofs.Ytmnnjclnldaejaa
open Go.Sx Go.Proofs Classical
structure playsI (L : List Part) (t : Int) (D : List Int) (served idle last now : Int) (i : Nat) : Prop where
  le : i ≤ 60
  ok : RefOk t L D
  top : t ≤ 100
  l0 : t ≤ last
  l1 : last ≤ 1000
  n0 : -8 * i ≤ now
  n1 : now ≤ 100 + 8 * i
  s0 : 0 ≤ served
  s1 : served ≤ i
  d0 : 0 ≤ idle
  d1 : idle ≤ i
theorem grant_cnt (M : List Own) (last s d t : Int) : s ≤ grantServed M last s t ∧ grantServed M last s t ≤ s + 1 ∧ d ≤ grantIdle M last d t ∧ grantIdle M last d t ≤ d + 1 := by
  unfold grantServed grantIdle
  cases slotOk last t <;> cases decide (bestM M t ≥ 0) <;> simp <;> omega
theorem grantLast_ge (last t : Int) : last ≤ grantLast last t ∧ grantLast last t ≤ max last t := by
  unfold grantLast
  cases hs : slotOk last t
  · rw [cond_false]; omega
  · have := (slotOk_iff.1 hs).1
    rw [cond_true]; omega
theorem playsI.step {L : List Part} {t : Int} {D : List Int} {s d last now u : Int} {i : Nat} (h : playsI L t D s d last now i) (hi : i < 60) (h0 : now - 8 ≤ u) (h1 : u ≤ now + 8) :
    playsI L t (grantD L D t last u) (grantServed (rowOf t L D) last s u) (grantIdle (rowOf t L D) last d u) (grantLast last u) u (i + 1) := by
  obtain ⟨c1, c2, c3, c4⟩ := grant_cnt (rowOf t L D) last s d u
  obtain ⟨l1, l2⟩ := grantLast_ge last u
  have := h.l0; have := h.l1; have := h.n0; have := h.n1; have := h.s0; have := h.s1; have := h.d0; have := h.d1; have := h.top
  exact ⟨hi, grantD_ok h.ok, h.top, by omega, by omega, by omega, by omega, by omega, by omega, by omega, by omega⟩
theorem slot_again {last t : Int} (h : slotOk last t = true) : slotOk (grantLast last t) t = true := by
  rw [grantLast_on h]
  exact slotOk_iff.2 ⟨Int.le_refl _, (slotOk_iff.1 h).2⟩
theorem slot_off {last t : Int} (h : slotOk last t = false) : grantLast last t = last := by unfold grantLast; rw [h]; rfl
theorem same_self (A : List Job) : sameJ A A = true := decide_eq_true rfl

def refSt (S : SS T O) (k : Nat) (t last : Int) (D : List Int) (served idle : Int) : SS T O := match getT S.tmps k with
  | some v => match headC S.get v with
    | some (.mix (c :: _) _ _ _ _ _) => S.at' k (.mix [c, .raw (.int .i64 t), .raw (.int .i64 last)] 0 8 D [.raw (.int .i64 served), .raw (.int .i64 idle)] 67)
    | _ => S
  | none => S

/-! ### regatta/regattalaw14.SuperPlays -/
def superPlaysText (A : List Pair) (at_ : Int) (G : List Int) : Prop := (match (decide ((madeL A).length ≤ (100000 : Nat))) with | true => (match (newOk (madeL A) ((IntKind.i64.wrap (at_.tmod (101 : Int) + (101 : Int))).tmod (101 : Int))) with | true => (match (decide ((madeL A).length ≤ (100000 : Nat))) with | true => (match ((weight14 (madeL A)).snd != (0 : Int)) with | true => (((true = false) ∧ True) ∧ ((A = A) ∧ ((G = G) ∧ True))) | false => ((∃ x : (List Int × Int × Int × Int) × Int × Nat, ((playsI (madeL A) ((IntKind.i64.wrap (at_.tmod (101 : Int) + (101 : Int))).tmod (101 : Int)) x.fst.fst x.fst.snd.fst x.fst.snd.snd.fst x.fst.snd.snd.snd x.snd.fst x.snd.snd) ∧ ((True ∧ ((true = true) ∧ (((IntKind.i64.wrap (at_.tmod (101 : Int) + (101 : Int))).tmod (101 : Int) = (IntKind.i64.wrap (at_.tmod (101 : Int) + (101 : Int))).tmod (101 : Int)) ∧ (True ∧ (True ∧ ((x.snd.fst = (IntKind.i64.wrap (at_.tmod (101 : Int) + (101 : Int))).tmod (101 : Int)) ∧ (((↑x.snd.snd : Int) = (0 : Int)) ∧ True))))))) ∧ ((A = A) ∧ ((G = G) ∧ ((madeL A = madeL A) ∧ ((True ∧ ((x.fst.snd.snd.snd = (IntKind.i64.wrap (at_.tmod (101 : Int) + (101 : Int))).tmod (101 : Int)) ∧ ((x.fst.snd.fst = (0 : Int)) ∧ ((x.fst.snd.snd.fst = (0 : Int)) ∧ True)))) ∧ (((True ∧ (((IntKind.i64.wrap (at_.tmod (101 : Int) + (101 : Int))).tmod (101 : Int) = (IntKind.i64.wrap (at_.tmod (101 : Int) + (101 : Int))).tmod (101 : Int)) ∧ ((x.fst.snd.snd.snd = (IntKind.i64.wrap (at_.tmod (101 : Int) + (101 : Int))).tmod (101 : Int)) ∧ True))) ∧ ((x.fst.fst = zeros8) ∧ ((x.fst.snd.fst = (0 : Int)) ∧ ((x.fst.snd.snd.fst = (0 : Int)) ∧ True)))) ∧ ((rowOf ((IntKind.i64.wrap (at_.tmod (101 : Int) + (101 : Int))).tmod (101 : Int)) (madeL A) x.fst.fst = startL ((IntKind.i64.wrap (at_.tmod (101 : Int) + (101 : Int))).tmod (101 : Int)) (madeL A) (madeL A).length) ∧ True))))))))) ∧ (∀ x : (List Int × Int × Int × Int) × Int × Nat, ((playsI (madeL A) ((IntKind.i64.wrap (at_.tmod (101 : Int) + (101 : Int))).tmod (101 : Int)) x.fst.fst x.fst.snd.fst x.fst.snd.snd.fst x.fst.snd.snd.snd x.snd.fst x.snd.snd) → (match (decide ((↑x.snd.snd : Int) < (↑G.length : Int))) with | true => (match (decide ((↑x.snd.snd : Int) < (60 : Int))) with | true => (match (inb (↑x.snd.snd : Int) G.length) with | true => (match (inb (↑x.snd.snd : Int) G.length) with | true => (match (decide ((∃ b, RowOk b (rowOf ((IntKind.i64.wrap (at_.tmod (101 : Int) + (101 : Int))).tmod (101 : Int)) (madeL A) x.fst.fst)) ∧ (0 : Int) ≤ x.fst.snd.fst ∧ x.fst.snd.fst ≤ (1099511627776 : Int) ∧ (0 : Int) ≤ x.fst.snd.snd.fst ∧ x.fst.snd.snd.fst ≤ (1099511627776 : Int))) with | true => (match (decide (RefOk ((IntKind.i64.wrap (at_.tmod (101 : Int) + (101 : Int))).tmod (101 : Int)) (madeL A) x.fst.fst ∧ (IntKind.i64.wrap (at_.tmod (101 : Int) + (101 : Int))).tmod (101 : Int) ≤ x.fst.snd.snd.snd ∧ (0 : Int) ≤ x.fst.snd.fst ∧ x.fst.snd.fst ≤ (1099511627776 : Int) ∧ (0 : Int) ≤ x.fst.snd.snd.fst ∧ x.fst.snd.snd.fst ≤ (1099511627776 : Int))) with | true => (match (decide (∃ b, RowOk b (grantM (rowOf ((IntKind.i64.wrap (at_.tmod (101 : Int) + (101 : Int))).tmod (101 : Int)) (madeL A) x.fst.fst) x.fst.snd.snd.snd (IntKind.i64.wrap (x.snd.fst + Int.tmod (at' (0 : Int) G (↑x.snd.snd : Int)) (9 : Int)))))) with | true => (match (slotOk (grantLast x.fst.snd.snd.snd (IntKind.i64.wrap (x.snd.fst + Int.tmod (at' (0 : Int) G (↑x.snd.snd : Int)) (9 : Int)))) (IntKind.i64.wrap (x.snd.fst + Int.tmod (at' (0 : Int) G (↑x.snd.snd : Int)) (9 : Int)))) with | true => (match (decide (RefOk ((IntKind.i64.wrap (at_.tmod (101 : Int) + (101 : Int))).tmod (101 : Int)) (madeL A) (grantD (madeL A) x.fst.fst ((IntKind.i64.wrap (at_.tmod (101 : Int) + (101 : Int))).tmod (101 : Int)) x.fst.snd.snd.snd (IntKind.i64.wrap (x.snd.fst + Int.tmod (at' (0 : Int) G (↑x.snd.snd : Int)) (9 : Int)))) ∧ (IntKind.i64.wrap (at_.tmod (101 : Int) + (101 : Int))).tmod (101 : Int) ≤ grantLast x.fst.snd.snd.snd (IntKind.i64.wrap (x.snd.fst + Int.tmod (at' (0 : Int) G (↑x.snd.snd : Int)) (9 : Int))))) with | true => (match (decide ((jobsL (IntKind.i64.wrap (x.snd.fst + Int.tmod (at' (0 : Int) G (↑x.snd.snd : Int)) (9 : Int))) (grantM (rowOf ((IntKind.i64.wrap (at_.tmod (101 : Int) + (101 : Int))).tmod (101 : Int)) (madeL A) x.fst.fst) x.fst.snd.snd.snd (IntKind.i64.wrap (x.snd.fst + Int.tmod (at' (0 : Int) G (↑x.snd.snd : Int)) (9 : Int))))).length ≤ (100000 : Nat) ∧ (jobs14 ((IntKind.i64.wrap (at_.tmod (101 : Int) + (101 : Int))).tmod (101 : Int)) (madeL A) (grantD (madeL A) x.fst.fst ((IntKind.i64.wrap (at_.tmod (101 : Int) + (101 : Int))).tmod (101 : Int)) x.fst.snd.snd.snd (IntKind.i64.wrap (x.snd.fst + Int.tmod (at' (0 : Int) G (↑x.snd.snd : Int)) (9 : Int)))) (grantLast x.fst.snd.snd.snd (IntKind.i64.wrap (x.snd.fst + Int.tmod (at' (0 : Int) G (↑x.snd.snd : Int)) (9 : Int)))) (IntKind.i64.wrap (x.snd.fst + Int.tmod (at' (0 : Int) G (↑x.snd.snd : Int)) (9 : Int)))).length ≤ (100000 : Nat))) with | true => (match (!((grantJ (rowOf ((IntKind.i64.wrap (at_.tmod (101 : Int) + (101 : Int))).tmod (101 : Int)) (madeL A) x.fst.fst) x.fst.snd.snd.snd (IntKind.i64.wrap (x.snd.fst + Int.tmod (at' (0 : Int) G (↑x.snd.snd : Int)) (9 : Int)))).Part == (grantJ (rowOf ((IntKind.i64.wrap (at_.tmod (101 : Int) + (101 : Int))).tmod (101 : Int)) (madeL A) x.fst.fst) x.fst.snd.snd.snd (IntKind.i64.wrap (x.snd.fst + Int.tmod (at' (0 : Int) G (↑x.snd.snd : Int)) (9 : Int)))).Part && ((grantJ (rowOf ((IntKind.i64.wrap (at_.tmod (101 : Int) + (101 : Int))).tmod (101 : Int)) (madeL A) x.fst.fst) x.fst.snd.snd.snd (IntKind.i64.wrap (x.snd.fst + Int.tmod (at' (0 : Int) G (↑x.snd.snd : Int)) (9 : Int)))).Index == (grantJ (rowOf ((IntKind.i64.wrap (at_.tmod (101 : Int) + (101 : Int))).tmod (101 : Int)) (madeL A) x.fst.fst) x.fst.snd.snd.snd (IntKind.i64.wrap (x.snd.fst + Int.tmod (at' (0 : Int) G (↑x.snd.snd : Int)) (9 : Int)))).Index && ((grantJ (rowOf ((IntKind.i64.wrap (at_.tmod (101 : Int) + (101 : Int))).tmod (101 : Int)) (madeL A) x.fst.fst) x.fst.snd.snd.snd (IntKind.i64.wrap (x.snd.fst + Int.tmod (at' (0 : Int) G (↑x.snd.snd : Int)) (9 : Int)))).Release == (grantJ (rowOf ((IntKind.i64.wrap (at_.tmod (101 : Int) + (101 : Int))).tmod (101 : Int)) (madeL A) x.fst.fst) x.fst.snd.snd.snd (IntKind.i64.wrap (x.snd.fst + Int.tmod (at' (0 : Int) G (↑x.snd.snd : Int)) (9 : Int)))).Release && ((grantJ (rowOf ((IntKind.i64.wrap (at_.tmod (101 : Int) + (101 : Int))).tmod (101 : Int)) (madeL A) x.fst.fst) x.fst.snd.snd.snd (IntKind.i64.wrap (x.snd.fst + Int.tmod (at' (0 : Int) G (↑x.snd.snd : Int)) (9 : Int)))).Deadline == (grantJ (rowOf ((IntKind.i64.wrap (at_.tmod (101 : Int) + (101 : Int))).tmod (101 : Int)) (madeL A) x.fst.fst) x.fst.snd.snd.snd (IntKind.i64.wrap (x.snd.fst + Int.tmod (at' (0 : Int) G (↑x.snd.snd : Int)) (9 : Int)))).Deadline && ((grantJ (rowOf ((IntKind.i64.wrap (at_.tmod (101 : Int) + (101 : Int))).tmod (101 : Int)) (madeL A) x.fst.fst) x.fst.snd.snd.snd (IntKind.i64.wrap (x.snd.fst + Int.tmod (at' (0 : Int) G (↑x.snd.snd : Int)) (9 : Int)))).Left == (grantJ (rowOf ((IntKind.i64.wrap (at_.tmod (101 : Int) + (101 : Int))).tmod (101 : Int)) (madeL A) x.fst.fst) x.fst.snd.snd.snd (IntKind.i64.wrap (x.snd.fst + Int.tmod (at' (0 : Int) G (↑x.snd.snd : Int)) (9 : Int)))).Left && true)))))) with | true => (((true = false) ∧ True) ∧ ((A = A) ∧ ((G = G) ∧ True))) | false => (match (grantIs (rowOf ((IntKind.i64.wrap (at_.tmod (101 : Int) + (101 : Int))).tmod (101 : Int)) (madeL A) x.fst.fst) x.fst.snd.snd.snd (IntKind.i64.wrap (x.snd.fst + Int.tmod (at' (0 : Int) G (↑x.snd.snd : Int)) (9 : Int))) != grantIs (rowOf ((IntKind.i64.wrap (at_.tmod (101 : Int) + (101 : Int))).tmod (101 : Int)) (madeL A) x.fst.fst) x.fst.snd.snd.snd (IntKind.i64.wrap (x.snd.fst + Int.tmod (at' (0 : Int) G (↑x.snd.snd : Int)) (9 : Int)))) with | true => (((true = false) ∧ True) ∧ ((A = A) ∧ ((G = G) ∧ True))) | false => (match (!sameJ (jobsL (IntKind.i64.wrap (x.snd.fst + Int.tmod (at' (0 : Int) G (↑x.snd.snd : Int)) (9 : Int))) (grantM (rowOf ((IntKind.i64.wrap (at_.tmod (101 : Int) + (101 : Int))).tmod (101 : Int)) (madeL A) x.fst.fst) x.fst.snd.snd.snd (IntKind.i64.wrap (x.snd.fst + Int.tmod (at' (0 : Int) G (↑x.snd.snd : Int)) (9 : Int))))) (jobs14 ((IntKind.i64.wrap (at_.tmod (101 : Int) + (101 : Int))).tmod (101 : Int)) (madeL A) (grantD (madeL A) x.fst.fst ((IntKind.i64.wrap (at_.tmod (101 : Int) + (101 : Int))).tmod (101 : Int)) x.fst.snd.snd.snd (IntKind.i64.wrap (x.snd.fst + Int.tmod (at' (0 : Int) G (↑x.snd.snd : Int)) (9 : Int)))) (grantLast x.fst.snd.snd.snd (IntKind.i64.wrap (x.snd.fst + Int.tmod (at' (0 : Int) G (↑x.snd.snd : Int)) (9 : Int)))) (IntKind.i64.wrap (x.snd.fst + Int.tmod (at' (0 : Int) G (↑x.snd.snd : Int)) (9 : Int))))) with | true => (((true = false) ∧ True) ∧ ((A = A) ∧ ((G = G) ∧ True))) | false => (match (decide (∃ b, RowOk b (grantM (rowOf ((IntKind.i64.wrap (at_.tmod (101 : Int) + (101 : Int))).tmod (101 : Int)) (madeL A) x.fst.fst) x.fst.snd.snd.snd (IntKind.i64.wrap (x.snd.fst + Int.tmod (at' (0 : Int) G (↑x.snd.snd : Int)) (9 : Int)))))) with | true => (match (decide (RefOk ((IntKind.i64.wrap (at_.tmod (101 : Int) + (101 : Int))).tmod (101 : Int)) (madeL A) (grantD (madeL A) x.fst.fst ((IntKind.i64.wrap (at_.tmod (101 : Int) + (101 : Int))).tmod (101 : Int)) x.fst.snd.snd.snd (IntKind.i64.wrap (x.snd.fst + Int.tmod (at' (0 : Int) G (↑x.snd.snd : Int)) (9 : Int)))) ∧ (IntKind.i64.wrap (at_.tmod (101 : Int) + (101 : Int))).tmod (101 : Int) ≤ grantLast x.fst.snd.snd.snd (IntKind.i64.wrap (x.snd.fst + Int.tmod (at' (0 : Int) G (↑x.snd.snd : Int)) (9 : Int))))) with | true => (match (missedM (grantM (rowOf ((IntKind.i64.wrap (at_.tmod (101 : Int) + (101 : Int))).tmod (101 : Int)) (madeL A) x.fst.fst) x.fst.snd.snd.snd (IntKind.i64.wrap (x.snd.fst + Int.tmod (at' (0 : Int) G (↑x.snd.snd : Int)) (9 : Int)))) (grantLast x.fst.snd.snd.snd (IntKind.i64.wrap (x.snd.fst + Int.tmod (at' (0 : Int) G (↑x.snd.snd : Int)) (9 : Int)))) (IntKind.i64.wrap (x.snd.fst + Int.tmod (at' (0 : Int) G (↑x.snd.snd : Int)) (9 : Int))) != missedM (rowOf ((IntKind.i64.wrap (at_.tmod (101 : Int) + (101 : Int))).tmod (101 : Int)) (madeL A) (grantD (madeL A) x.fst.fst ((IntKind.i64.wrap (at_.tmod (101 : Int) + (101 : Int))).tmod (101 : Int)) x.fst.snd.snd.snd (IntKind.i64.wrap (x.snd.fst + Int.tmod (at' (0 : Int) G (↑x.snd.snd : Int)) (9 : Int))))) (grantLast x.fst.snd.snd.snd (IntKind.i64.wrap (x.snd.fst + Int.tmod (at' (0 : Int) G (↑x.snd.snd : Int)) (9 : Int)))) (IntKind.i64.wrap (x.snd.fst + Int.tmod (at' (0 : Int) G (↑x.snd.snd : Int)) (9 : Int)))) with | true => (((true = false) ∧ True) ∧ ((A = A) ∧ ((G = G) ∧ True))) | false => (match (grantServed (rowOf ((IntKind.i64.wrap (at_.tmod (101 : Int) + (101 : Int))).tmod (101 : Int)) (madeL A) x.fst.fst) x.fst.snd.snd.snd x.fst.snd.fst (IntKind.i64.wrap (x.snd.fst + Int.tmod (at' (0 : Int) G (↑x.snd.snd : Int)) (9 : Int))) != grantServed (rowOf ((IntKind.i64.wrap (at_.tmod (101 : Int) + (101 : Int))).tmod (101 : Int)) (madeL A) x.fst.fst) x.fst.snd.snd.snd x.fst.snd.fst (IntKind.i64.wrap (x.snd.fst + Int.tmod (at' (0 : Int) G (↑x.snd.snd : Int)) (9 : Int)))) with | true => (((true = false) ∧ True) ∧ ((A = A) ∧ ((G = G) ∧ True))) | false => (match (grantIdle (rowOf ((IntKind.i64.wrap (at_.tmod (101 : Int) + (101 : Int))).tmod (101 : Int)) (madeL A) x.fst.fst) x.fst.snd.snd.snd x.fst.snd.snd.fst (IntKind.i64.wrap (x.snd.fst + Int.tmod (at' (0 : Int) G (↑x.snd.snd : Int)) (9 : Int))) != grantIdle (rowOf ((IntKind.i64.wrap (at_.tmod (101 : Int) + (101 : Int))).tmod (101 : Int)) (madeL A) x.fst.fst) x.fst.snd.snd.snd x.fst.snd.snd.fst (IntKind.i64.wrap (x.snd.fst + Int.tmod (at' (0 : Int) G (↑x.snd.snd : Int)) (9 : Int)))) with | true => (((true = false) ∧ True) ∧ ((A = A) ∧ ((G = G) ∧ True))) | false => (∃ x' : (List Int × Int × Int × Int) × Int × Nat, ((playsI (madeL A) ((IntKind.i64.wrap (at_.tmod (101 : Int) + (101 : Int))).tmod (101 : Int)) x'.fst.fst x'.fst.snd.fst x'.fst.snd.snd.fst x'.fst.snd.snd.snd x'.snd.fst x'.snd.snd) ∧ (((60 : Nat) - x'.snd.snd < (60 : Nat) - x.snd.snd) ∧ ((True ∧ ((true = true) ∧ (((IntKind.i64.wrap (at_.tmod (101 : Int) + (101 : Int))).tmod (101 : Int) = (IntKind.i64.wrap (at_.tmod (101 : Int) + (101 : Int))).tmod (101 : Int)) ∧ (True ∧ (True ∧ ((x'.snd.fst = IntKind.i64.wrap (x.snd.fst + Int.tmod (at' (0 : Int) G (↑x.snd.snd : Int)) (9 : Int))) ∧ (((↑x'.snd.snd : Int) = IntKind.i64.wrap ((↑x.snd.snd : Int) + (1 : Int))) ∧ True))))))) ∧ ((A = A) ∧ ((G = G) ∧ ((madeL A = madeL A) ∧ ((True ∧ ((x'.fst.snd.snd.snd = grantLast x.fst.snd.snd.snd (IntKind.i64.wrap (x.snd.fst + Int.tmod (at' (0 : Int) G (↑x.snd.snd : Int)) (9 : Int)))) ∧ ((x'.fst.snd.fst = grantServed (rowOf ((IntKind.i64.wrap (at_.tmod (101 : Int) + (101 : Int))).tmod (101 : Int)) (madeL A) x.fst.fst) x.fst.snd.snd.snd x.fst.snd.fst (IntKind.i64.wrap (x.snd.fst + Int.tmod (at' (0 : Int) G (↑x.snd.snd : Int)) (9 : Int)))) ∧ ((x'.fst.snd.snd.fst = grantIdle (rowOf ((IntKind.i64.wrap (at_.tmod (101 : Int) + (101 : Int))).tmod (101 : Int)) (madeL A) x.fst.fst) x.fst.snd.snd.snd x.fst.snd.snd.fst (IntKind.i64.wrap (x.snd.fst + Int.tmod (at' (0 : Int) G (↑x.snd.snd : Int)) (9 : Int)))) ∧ True)))) ∧ (((True ∧ (((IntKind.i64.wrap (at_.tmod (101 : Int) + (101 : Int))).tmod (101 : Int) = (IntKind.i64.wrap (at_.tmod (101 : Int) + (101 : Int))).tmod (101 : Int)) ∧ ((x'.fst.snd.snd.snd = grantLast x.fst.snd.snd.snd (IntKind.i64.wrap (x.snd.fst + Int.tmod (at' (0 : Int) G (↑x.snd.snd : Int)) (9 : Int)))) ∧ True))) ∧ ((x'.fst.fst = grantD (madeL A) x.fst.fst ((IntKind.i64.wrap (at_.tmod (101 : Int) + (101 : Int))).tmod (101 : Int)) x.fst.snd.snd.snd (IntKind.i64.wrap (x.snd.fst + Int.tmod (at' (0 : Int) G (↑x.snd.snd : Int)) (9 : Int)))) ∧ ((x'.fst.snd.fst = grantServed (rowOf ((IntKind.i64.wrap (at_.tmod (101 : Int) + (101 : Int))).tmod (101 : Int)) (madeL A) x.fst.fst) x.fst.snd.snd.snd x.fst.snd.fst (IntKind.i64.wrap (x.snd.fst + Int.tmod (at' (0 : Int) G (↑x.snd.snd : Int)) (9 : Int)))) ∧ ((x'.fst.snd.snd.fst = grantIdle (rowOf ((IntKind.i64.wrap (at_.tmod (101 : Int) + (101 : Int))).tmod (101 : Int)) (madeL A) x.fst.fst) x.fst.snd.snd.snd x.fst.snd.snd.fst (IntKind.i64.wrap (x.snd.fst + Int.tmod (at' (0 : Int) G (↑x.snd.snd : Int)) (9 : Int)))) ∧ True)))) ∧ ((rowOf ((IntKind.i64.wrap (at_.tmod (101 : Int) + (101 : Int))).tmod (101 : Int)) (madeL A) x'.fst.fst = grantM (rowOf ((IntKind.i64.wrap (at_.tmod (101 : Int) + (101 : Int))).tmod (101 : Int)) (madeL A) x.fst.fst) x.fst.snd.snd.snd (IntKind.i64.wrap (x.snd.fst + Int.tmod (at' (0 : Int) G (↑x.snd.snd : Int)) (9 : Int)))) ∧ True))))))))))))) | false => False) | false => False)))) | false => False) | false => False) | false => (match (decide (RefOk ((IntKind.i64.wrap (at_.tmod (101 : Int) + (101 : Int))).tmod (101 : Int)) (madeL A) (grantD (madeL A) x.fst.fst ((IntKind.i64.wrap (at_.tmod (101 : Int) + (101 : Int))).tmod (101 : Int)) x.fst.snd.snd.snd (IntKind.i64.wrap (x.snd.fst + Int.tmod (at' (0 : Int) G (↑x.snd.snd : Int)) (9 : Int)))) ∧ (IntKind.i64.wrap (at_.tmod (101 : Int) + (101 : Int))).tmod (101 : Int) ≤ grantLast x.fst.snd.snd.snd (IntKind.i64.wrap (x.snd.fst + Int.tmod (at' (0 : Int) G (↑x.snd.snd : Int)) (9 : Int))))) with | true => (match (decide ((0 : Nat) ≤ (100000 : Nat) ∧ (jobs14 ((IntKind.i64.wrap (at_.tmod (101 : Int) + (101 : Int))).tmod (101 : Int)) (madeL A) (grantD (madeL A) x.fst.fst ((IntKind.i64.wrap (at_.tmod (101 : Int) + (101 : Int))).tmod (101 : Int)) x.fst.snd.snd.snd (IntKind.i64.wrap (x.snd.fst + Int.tmod (at' (0 : Int) G (↑x.snd.snd : Int)) (9 : Int)))) (grantLast x.fst.snd.snd.snd (IntKind.i64.wrap (x.snd.fst + Int.tmod (at' (0 : Int) G (↑x.snd.snd : Int)) (9 : Int)))) (IntKind.i64.wrap (x.snd.fst + Int.tmod (at' (0 : Int) G (↑x.snd.snd : Int)) (9 : Int)))).length ≤ (100000 : Nat))) with | true => (match (!((grantJ (rowOf ((IntKind.i64.wrap (at_.tmod (101 : Int) + (101 : Int))).tmod (101 : Int)) (madeL A) x.fst.fst) x.fst.snd.snd.snd (IntKind.i64.wrap (x.snd.fst + Int.tmod (at' (0 : Int) G (↑x.snd.snd : Int)) (9 : Int)))).Part == (grantJ (rowOf ((IntKind.i64.wrap (at_.tmod (101 : Int) + (101 : Int))).tmod (101 : Int)) (madeL A) x.fst.fst) x.fst.snd.snd.snd (IntKind.i64.wrap (x.snd.fst + Int.tmod (at' (0 : Int) G (↑x.snd.snd : Int)) (9 : Int)))).Part && ((grantJ (rowOf ((IntKind.i64.wrap (at_.tmod (101 : Int) + (101 : Int))).tmod (101 : Int)) (madeL A) x.fst.fst) x.fst.snd.snd.snd (IntKind.i64.wrap (x.snd.fst + Int.tmod (at' (0 : Int) G (↑x.snd.snd : Int)) (9 : Int)))).Index == (grantJ (rowOf ((IntKind.i64.wrap (at_.tmod (101 : Int) + (101 : Int))).tmod (101 : Int)) (madeL A) x.fst.fst) x.fst.snd.snd.snd (IntKind.i64.wrap (x.snd.fst + Int.tmod (at' (0 : Int) G (↑x.snd.snd : Int)) (9 : Int)))).Index && ((grantJ (rowOf ((IntKind.i64.wrap (at_.tmod (101 : Int) + (101 : Int))).tmod (101 : Int)) (madeL A) x.fst.fst) x.fst.snd.snd.snd (IntKind.i64.wrap (x.snd.fst + Int.tmod (at' (0 : Int) G (↑x.snd.snd : Int)) (9 : Int)))).Release == (grantJ (rowOf ((IntKind.i64.wrap (at_.tmod (101 : Int) + (101 : Int))).tmod (101 : Int)) (madeL A) x.fst.fst) x.fst.snd.snd.snd (IntKind.i64.wrap (x.snd.fst + Int.tmod (at' (0 : Int) G (↑x.snd.snd : Int)) (9 : Int)))).Release && ((grantJ (rowOf ((IntKind.i64.wrap (at_.tmod (101 : Int) + (101 : Int))).tmod (101 : Int)) (madeL A) x.fst.fst) x.fst.snd.snd.snd (IntKind.i64.wrap (x.snd.fst + Int.tmod (at' (0 : Int) G (↑x.snd.snd : Int)) (9 : Int)))).Deadline == (grantJ (rowOf ((IntKind.i64.wrap (at_.tmod (101 : Int) + (101 : Int))).tmod (101 : Int)) (madeL A) x.fst.fst) x.fst.snd.snd.snd (IntKind.i64.wrap (x.snd.fst + Int.tmod (at' (0 : Int) G (↑x.snd.snd : Int)) (9 : Int)))).Deadline && ((grantJ (rowOf ((IntKind.i64.wrap (at_.tmod (101 : Int) + (101 : Int))).tmod (101 : Int)) (madeL A) x.fst.fst) x.fst.snd.snd.snd (IntKind.i64.wrap (x.snd.fst + Int.tmod (at' (0 : Int) G (↑x.snd.snd : Int)) (9 : Int)))).Left == (grantJ (rowOf ((IntKind.i64.wrap (at_.tmod (101 : Int) + (101 : Int))).tmod (101 : Int)) (madeL A) x.fst.fst) x.fst.snd.snd.snd (IntKind.i64.wrap (x.snd.fst + Int.tmod (at' (0 : Int) G (↑x.snd.snd : Int)) (9 : Int)))).Left && true)))))) with | true => (((true = false) ∧ True) ∧ ((A = A) ∧ ((G = G) ∧ True))) | false => (match (grantIs (rowOf ((IntKind.i64.wrap (at_.tmod (101 : Int) + (101 : Int))).tmod (101 : Int)) (madeL A) x.fst.fst) x.fst.snd.snd.snd (IntKind.i64.wrap (x.snd.fst + Int.tmod (at' (0 : Int) G (↑x.snd.snd : Int)) (9 : Int))) != grantIs (rowOf ((IntKind.i64.wrap (at_.tmod (101 : Int) + (101 : Int))).tmod (101 : Int)) (madeL A) x.fst.fst) x.fst.snd.snd.snd (IntKind.i64.wrap (x.snd.fst + Int.tmod (at' (0 : Int) G (↑x.snd.snd : Int)) (9 : Int)))) with | true => (((true = false) ∧ True) ∧ ((A = A) ∧ ((G = G) ∧ True))) | false => (match (!sameJ [] (jobs14 ((IntKind.i64.wrap (at_.tmod (101 : Int) + (101 : Int))).tmod (101 : Int)) (madeL A) (grantD (madeL A) x.fst.fst ((IntKind.i64.wrap (at_.tmod (101 : Int) + (101 : Int))).tmod (101 : Int)) x.fst.snd.snd.snd (IntKind.i64.wrap (x.snd.fst + Int.tmod (at' (0 : Int) G (↑x.snd.snd : Int)) (9 : Int)))) (grantLast x.fst.snd.snd.snd (IntKind.i64.wrap (x.snd.fst + Int.tmod (at' (0 : Int) G (↑x.snd.snd : Int)) (9 : Int)))) (IntKind.i64.wrap (x.snd.fst + Int.tmod (at' (0 : Int) G (↑x.snd.snd : Int)) (9 : Int))))) with | true => (((true = false) ∧ True) ∧ ((A = A) ∧ ((G = G) ∧ True))) | false => (match (decide (∃ b, RowOk b (grantM (rowOf ((IntKind.i64.wrap (at_.tmod (101 : Int) + (101 : Int))).tmod (101 : Int)) (madeL A) x.fst.fst) x.fst.snd.snd.snd (IntKind.i64.wrap (x.snd.fst + Int.tmod (at' (0 : Int) G (↑x.snd.snd : Int)) (9 : Int)))))) with | true => (match (decide (RefOk ((IntKind.i64.wrap (at_.tmod (101 : Int) + (101 : Int))).tmod (101 : Int)) (madeL A) (grantD (madeL A) x.fst.fst ((IntKind.i64.wrap (at_.tmod (101 : Int) + (101 : Int))).tmod (101 : Int)) x.fst.snd.snd.snd (IntKind.i64.wrap (x.snd.fst + Int.tmod (at' (0 : Int) G (↑x.snd.snd : Int)) (9 : Int)))) ∧ (IntKind.i64.wrap (at_.tmod (101 : Int) + (101 : Int))).tmod (101 : Int) ≤ grantLast x.fst.snd.snd.snd (IntKind.i64.wrap (x.snd.fst + Int.tmod (at' (0 : Int) G (↑x.snd.snd : Int)) (9 : Int))))) with | true => (match (missedM (grantM (rowOf ((IntKind.i64.wrap (at_.tmod (101 : Int) + (101 : Int))).tmod (101 : Int)) (madeL A) x.fst.fst) x.fst.snd.snd.snd (IntKind.i64.wrap (x.snd.fst + Int.tmod (at' (0 : Int) G (↑x.snd.snd : Int)) (9 : Int)))) (grantLast x.fst.snd.snd.snd (IntKind.i64.wrap (x.snd.fst + Int.tmod (at' (0 : Int) G (↑x.snd.snd : Int)) (9 : Int)))) (IntKind.i64.wrap (x.snd.fst + Int.tmod (at' (0 : Int) G (↑x.snd.snd : Int)) (9 : Int))) != missedM (rowOf ((IntKind.i64.wrap (at_.tmod (101 : Int) + (101 : Int))).tmod (101 : Int)) (madeL A) (grantD (madeL A) x.fst.fst ((IntKind.i64.wrap (at_.tmod (101 : Int) + (101 : Int))).tmod (101 : Int)) x.fst.snd.snd.snd (IntKind.i64.wrap (x.snd.fst + Int.tmod (at' (0 : Int) G (↑x.snd.snd : Int)) (9 : Int))))) (grantLast x.fst.snd.snd.snd (IntKind.i64.wrap (x.snd.fst + Int.tmod (at' (0 : Int) G (↑x.snd.snd : Int)) (9 : Int)))) (IntKind.i64.wrap (x.snd.fst + Int.tmod (at' (0 : Int) G (↑x.snd.snd : Int)) (9 : Int)))) with | true => (((true = false) ∧ True) ∧ ((A = A) ∧ ((G = G) ∧ True))) | false => (match (grantServed (rowOf ((IntKind.i64.wrap (at_.tmod (101 : Int) + (101 : Int))).tmod (101 : Int)) (madeL A) x.fst.fst) x.fst.snd.snd.snd x.fst.snd.fst (IntKind.i64.wrap (x.snd.fst + Int.tmod (at' (0 : Int) G (↑x.snd.snd : Int)) (9 : Int))) != grantServed (rowOf ((IntKind.i64.wrap (at_.tmod (101 : Int) + (101 : Int))).tmod (101 : Int)) (madeL A) x.fst.fst) x.fst.snd.snd.snd x.fst.snd.fst (IntKind.i64.wrap (x.snd.fst + Int.tmod (at' (0 : Int) G (↑x.snd.snd : Int)) (9 : Int)))) with | true => (((true = false) ∧ True) ∧ ((A = A) ∧ ((G = G) ∧ True))) | false => (match (grantIdle (rowOf ((IntKind.i64.wrap (at_.tmod (101 : Int) + (101 : Int))).tmod (101 : Int)) (madeL A) x.fst.fst) x.fst.snd.snd.snd x.fst.snd.snd.fst (IntKind.i64.wrap (x.snd.fst + Int.tmod (at' (0 : Int) G (↑x.snd.snd : Int)) (9 : Int))) != grantIdle (rowOf ((IntKind.i64.wrap (at_.tmod (101 : Int) + (101 : Int))).tmod (101 : Int)) (madeL A) x.fst.fst) x.fst.snd.snd.snd x.fst.snd.snd.fst (IntKind.i64.wrap (x.snd.fst + Int.tmod (at' (0 : Int) G (↑x.snd.snd : Int)) (9 : Int)))) with | true => (((true = false) ∧ True) ∧ ((A = A) ∧ ((G = G) ∧ True))) | false => (∃ x' : (List Int × Int × Int × Int) × Int × Nat, ((playsI (madeL A) ((IntKind.i64.wrap (at_.tmod (101 : Int) + (101 : Int))).tmod (101 : Int)) x'.fst.fst x'.fst.snd.fst x'.fst.snd.snd.fst x'.fst.snd.snd.snd x'.snd.fst x'.snd.snd) ∧ (((60 : Nat) - x'.snd.snd < (60 : Nat) - x.snd.snd) ∧ ((True ∧ ((true = true) ∧ (((IntKind.i64.wrap (at_.tmod (101 : Int) + (101 : Int))).tmod (101 : Int) = (IntKind.i64.wrap (at_.tmod (101 : Int) + (101 : Int))).tmod (101 : Int)) ∧ (True ∧ (True ∧ ((x'.snd.fst = IntKind.i64.wrap (x.snd.fst + Int.tmod (at' (0 : Int) G (↑x.snd.snd : Int)) (9 : Int))) ∧ (((↑x'.snd.snd : Int) = IntKind.i64.wrap ((↑x.snd.snd : Int) + (1 : Int))) ∧ True))))))) ∧ ((A = A) ∧ ((G = G) ∧ ((madeL A = madeL A) ∧ ((True ∧ ((x'.fst.snd.snd.snd = grantLast x.fst.snd.snd.snd (IntKind.i64.wrap (x.snd.fst + Int.tmod (at' (0 : Int) G (↑x.snd.snd : Int)) (9 : Int)))) ∧ ((x'.fst.snd.fst = grantServed (rowOf ((IntKind.i64.wrap (at_.tmod (101 : Int) + (101 : Int))).tmod (101 : Int)) (madeL A) x.fst.fst) x.fst.snd.snd.snd x.fst.snd.fst (IntKind.i64.wrap (x.snd.fst + Int.tmod (at' (0 : Int) G (↑x.snd.snd : Int)) (9 : Int)))) ∧ ((x'.fst.snd.snd.fst = grantIdle (rowOf ((IntKind.i64.wrap (at_.tmod (101 : Int) + (101 : Int))).tmod (101 : Int)) (madeL A) x.fst.fst) x.fst.snd.snd.snd x.fst.snd.snd.fst (IntKind.i64.wrap (x.snd.fst + Int.tmod (at' (0 : Int) G (↑x.snd.snd : Int)) (9 : Int)))) ∧ True)))) ∧ (((True ∧ (((IntKind.i64.wrap (at_.tmod (101 : Int) + (101 : Int))).tmod (101 : Int) = (IntKind.i64.wrap (at_.tmod (101 : Int) + (101 : Int))).tmod (101 : Int)) ∧ ((x'.fst.snd.snd.snd = grantLast x.fst.snd.snd.snd (IntKind.i64.wrap (x.snd.fst + Int.tmod (at' (0 : Int) G (↑x.snd.snd : Int)) (9 : Int)))) ∧ True))) ∧ ((x'.fst.fst = grantD (madeL A) x.fst.fst ((IntKind.i64.wrap (at_.tmod (101 : Int) + (101 : Int))).tmod (101 : Int)) x.fst.snd.snd.snd (IntKind.i64.wrap (x.snd.fst + Int.tmod (at' (0 : Int) G (↑x.snd.snd : Int)) (9 : Int)))) ∧ ((x'.fst.snd.fst = grantServed (rowOf ((IntKind.i64.wrap (at_.tmod (101 : Int) + (101 : Int))).tmod (101 : Int)) (madeL A) x.fst.fst) x.fst.snd.snd.snd x.fst.snd.fst (IntKind.i64.wrap (x.snd.fst + Int.tmod (at' (0 : Int) G (↑x.snd.snd : Int)) (9 : Int)))) ∧ ((x'.fst.snd.snd.fst = grantIdle (rowOf ((IntKind.i64.wrap (at_.tmod (101 : Int) + (101 : Int))).tmod (101 : Int)) (madeL A) x.fst.fst) x.fst.snd.snd.snd x.fst.snd.snd.fst (IntKind.i64.wrap (x.snd.fst + Int.tmod (at' (0 : Int) G (↑x.snd.snd : Int)) (9 : Int)))) ∧ True)))) ∧ ((rowOf ((IntKind.i64.wrap (at_.tmod (101 : Int) + (101 : Int))).tmod (101 : Int)) (madeL A) x'.fst.fst = grantM (rowOf ((IntKind.i64.wrap (at_.tmod (101 : Int) + (101 : Int))).tmod (101 : Int)) (madeL A) x.fst.fst) x.fst.snd.snd.snd (IntKind.i64.wrap (x.snd.fst + Int.tmod (at' (0 : Int) G (↑x.snd.snd : Int)) (9 : Int)))) ∧ True))))))))))))) | false => False) | false => False)))) | false => False) | false => False)) | false => False) | false => False) | false => False) | false => False) | false => False) | false => (((true = true) ∧ True) ∧ ((A = A) ∧ ((G = G) ∧ True)))) | false => (((true = true) ∧ True) ∧ ((A = A) ∧ ((G = G) ∧ True)))))))) | false => False) | false => (match (decide ((madeL A).length ≤ (100000 : Nat))) with | true => (match ((weight14 (madeL A)).snd != (0 : Int)) with | true => (((true = true) ∧ True) ∧ ((A = A) ∧ ((G = G) ∧ True))) | false => (((true = false) ∧ True) ∧ ((A = A) ∧ ((G = G) ∧ True)))) | false => False)) | false => False)
theorem superPlaysVc (A : List Pair) (at_ : Int) (G : List Int) : fnX X36 (oneLoop 13 { σ := (List Int × Int × Int × Int) × (Int × Nat), st := fun S x => supSt (refSt (((S.keep [2, 7, 9, 10, 13]).int 14 x.2.1).int 15 x.2.2) 13 (S.gi 9) x.1.2.2.2 x.1.1 x.1.2.1 x.1.2.2.1) 2 10 (rowOf (S.gi 9) (madeL A) x.1.1) x.1.2.2.2 x.1.2.1 x.1.2.2.1, inv := fun S x => playsI (madeL A) (S.gi 9) x.1.1 x.1.2.1 x.1.2.2.1 x.1.2.2.2 x.2.1 x.2.2, m := fun x => 60 - x.2.2 }) Try.f9 [.own 0, .raw (.int .i64 at_), .own 1] [.ro 6 A, .ro 0 G] (ends [.ro 6 A, .ro 0 G] ⟨some (.raw (.bool true)), []⟩) = superPlaysText A at_ G := by kernel_rfl
set_option maxHeartbeats 2000000 in
set_option maxRecDepth 20000 in
theorem superPlaysHolds (A : List Pair) (at_ : Int) (G : List Int) : superPlaysText A at_ G := by
  unfold superPlaysText
  have hl8 := madeL_length A
  rw [decide_eq_true (show (madeL A).length ≤ 100000 by omega), rem_mod at_ (by decide) (by decide)]
  obtain ⟨t, ht⟩ : ∃ t, t = at_ % 101 := ⟨_, rfl⟩
  have t0 : 0 ≤ t := by rw [ht]; exact Int.emod_nonneg _ (by decide)
  have t1 : t ≤ 100 := by have := Int.emod_lt_of_pos at_ (show (0 : Int) < 101 by decide); omega
  rw [← ht, ← weight_same]
  clear ht
  generalize madeL A = L at hl8 ⊢
  by_cases hw : (weightR L).2 = 0
  · have hP := weightR_parts hw
    have hn : newOk L t = true := by unfold newOk; rw [hw, decide_eq_true t0, decide_eq_true (by omega)]; rfl
    rw [hn, show ((weightR L).2 != 0) = false by rw [hw]; rfl]
    have hst0 : rowOf t L zeros8 = startL t L L.length := rowOf_start t hP
    refine ⟨⟨((zeros8, 0, 0, t), (t, 0)), ⟨Nat.zero_le _, refOk_start hP t0 (by omega), t1, Int.le_refl _, by dsimp only; omega, by dsimp only; omega, by dsimp only; omega, Int.le_refl _, Int.le_refl _, Int.le_refl _, Int.le_refl _⟩, by repeat' first | exact hst0 | apply And.intro | exact True.intro | with_reducible rfl | exact rfl⟩, ?_⟩
    intro x hi
    obtain ⟨⟨D, served, idle, last⟩, now, x⟩ := x
    dsimp only at hi ⊢
    have hO := hi.ok
    have hR := hO.row
    have hle := hi.le
    have l0 := hi.l0
    have l1 := hi.l1
    have n0 := hi.n0
    have n1 := hi.n1
    have s0 := hi.s0
    have s1 := hi.s1
    have d0 := hi.d0
    have d1 := hi.d1
    by_cases h : x < G.length
    · rw [dec_lt h]
      by_cases h2 : x < 60
      · have hwx : IntKind.i64.wrap ((x : Int) + 1) = ((x + 1 : Nat) : Int) := by rw [wrap_id (by omega) (by omega)]; omega
        have g0 : -9 < G[x].tmod 9 := Int.lt_tmod_of_pos _ (by decide)
        have g1 : G[x].tmod 9 < 9 := Int.tmod_lt_of_pos _ (by decide)
        rw [show decide ((x : Int) < 60) = true from decide_eq_true (by omega), inb_nat h, at_nat h, wrap_id (n := now + G[x].tmod 9) (by omega) (by omega), hwx]
        obtain ⟨u, hu⟩ : ∃ u, u = now + G[x].tmod 9 := ⟨_, rfl⟩
        rw [← hu]
        have u0 : now - 8 ≤ u := by omega
        have u1 : u ≤ now + 8 := by omega
        clear hu
        have hst := hi.step h2 u0 u1
        have hO2 := hst.ok
        have hrow := grantD_row (last := last) (s := u) hO
        obtain ⟨gl1, gl2⟩ := grantLast_ge last u
        have hRg : RowOk t (grantM (rowOf t L D) last u) := hR.grant
        have hlj : (jobsL u (grantM (rowOf t L D) last u)).length ≤ 10000 := by unfold jobsL; rw [srtT_length]; exact allJ_len hRg
        rw [decide_eq_true (⟨⟨t, hR⟩, s0, by omega, d0, by omega⟩ : (∃ b, RowOk b (rowOf t L D)) ∧ 0 ≤ served ∧ served ≤ 1099511627776 ∧ 0 ≤ idle ∧ idle ≤ 1099511627776), decide_eq_true (⟨hO, l0, s0, by omega, d0, by omega⟩ : RefOk t L D ∧ t ≤ last ∧ 0 ≤ served ∧ served ≤ 1099511627776 ∧ 0 ≤ idle ∧ idle ≤ 1099511627776), decide_eq_true (⟨t, hRg⟩ : ∃ b, RowOk b (grantM (rowOf t L D) last u)), decide_eq_true (⟨hO2, by omega⟩ : RefOk t L (grantD L D t last u) ∧ t ≤ grantLast last u)]
        simp only [beq_self_eq_true, Bool.and_self, Bool.not_true, bne_self_eq_false, hrow]
        cases hs : slotOk last u
        · have hs2 : slotOk (grantLast last u) u = false := by rw [slot_off hs]; exact hs
          have ej : jobs14 t L (grantD L D t last u) (grantLast last u) u = [] := by unfold jobs14; rw [hs2]; rfl
          rw [hs2, ej, show sameJ ([] : List Job) [] = true from rfl, show (!true) = false from rfl, show decide (0 ≤ 100000 ∧ ([] : List Job).length ≤ 100000) = true from decide_eq_true ⟨Nat.zero_le _, Nat.zero_le _⟩]
          refine ⟨((grantD L D t last u, grantServed (rowOf t L D) last served u, grantIdle (rowOf t L D) last idle u, grantLast last u), (u, x + 1)), hst, by dsimp only; omega, ?_⟩
          repeat' first | exact hrow | apply And.intro | exact True.intro | with_reducible rfl | exact rfl
        · have hs2 := slot_again hs
          have ej : jobs14 t L (grantD L D t last u) (grantLast last u) u = jobsL u (grantM (rowOf t L D) last u) := by unfold jobs14; rw [hs2, hrow]; rfl
          rw [hs2, ej, same_self, decide_eq_true (⟨by omega, by omega⟩ : (jobsL u (grantM (rowOf t L D) last u)).length ≤ 100000 ∧ (jobsL u (grantM (rowOf t L D) last u)).length ≤ 100000)]
          refine ⟨((grantD L D t last u, grantServed (rowOf t L D) last served u, grantIdle (rowOf t L D) last idle u, grantLast last u), (u, x + 1)), hst, by dsimp only; omega, ?_⟩
          repeat' first | exact hrow | apply And.intro | exact True.intro | with_reducible rfl | exact rfl
      · obtain rfl : x = 60 := by omega
        rw [show decide (((60 : Nat) : Int) < 60) = false from rfl]
        repeat' first | apply And.intro | exact True.intro | with_reducible rfl | exact rfl
    · rw [dec_ge (by omega)]
      repeat' first | apply And.intro | exact True.intro | with_reducible rfl | exact rfl
  · have hn : newOk L t = false := by unfold newOk; rw [show ((weightR L).2 == 0) = false from beq_eq_false_iff_ne.2 hw]; rfl
    rw [hn, show ((weightR L).2 != 0) = true from bne_iff_ne.2 hw]
    repeat' first | apply And.intro | exact True.intro | with_reducible rfl | exact rfl
noncomputable def superPlaysCon : Con T O := fun args cs => match args, cs with
  | [.own 0, .raw (.int .i64 _), .own 1], [.ro 6 _, .ro 0 _] => .ret ⟨some (.raw (.bool true)), []⟩
  | _, _ => .fail
theorem superPlaysOk : ConOk R Try.prog 9 superPlaysCon := con_of_fn R (X36) (TabOk.con R X36Ok) mixed Try.call9 Try.func9 superPlaysCon (by
  intro args cs K h
  unfold superPlaysCon at h
  split at h
  · rename_i at_ A G
    refine ⟨oneLoop 13 { σ := (List Int × Int × Int × Int) × (Int × Nat), st := fun S x => supSt (refSt (((S.keep [2, 7, 9, 10, 13]).int 14 x.2.1).int 15 x.2.2) 13 (S.gi 9) x.1.2.2.2 x.1.1 x.1.2.1 x.1.2.2.1) 2 10 (rowOf (S.gi 9) (madeL A) x.1.1) x.1.2.2.2 x.1.2.1 x.1.2.2.1, inv := fun S x => playsI (madeL A) (S.gi 9) x.1.1 x.1.2.1 x.1.2.2.1 x.1.2.2.2 x.2.1 x.2.2, m := fun x => 60 - x.2.2 }, _, fun v S hv => ⟨_, h, hv⟩, ?_⟩
    rw [superPlaysVc A at_ G]
    exact superPlaysHolds A at_ G
  · exact h.elim)
noncomputable def tab37 : Tab T O := (9, superPlaysCon) :: tab36
theorem tabOk37 : TabOk R Try.prog tab37 := TabOk.cons R superPlaysOk <| tabOk36
noncomputable def X37 : Ctx T O := { X0 with con := conOf tab37 }
theorem X37Ok : TabOk R X37.P tab37 := tabOk37
end Go.Proofs.Ytmnnjclnldaejaa
