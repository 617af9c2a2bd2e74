/-
  Part of a proof over the seat Ytmnnjclnldaejaa: printed by a small program or typed by hand.
-/
import Derived.Test.YtmnnjclnldaejaaJSurS33
import Derived.KernelRfl
namespace Go.Proofs.Ytmnnjclnldaejaa
open Go.Sx Go.Proofs Classical
/-! begun later -/
def shiftO (k : Int) (q : Own) : Own := { q with JobRelease := q.JobRelease + k, JobDeadline := q.JobDeadline + k }
def shiftL (k : Int) (M : List Own) : List Own := M.map (shiftO k)
theorem shiftL_length (k : Int) (M : List Own) : (shiftL k M).length = M.length := List.length_map _
theorem shiftL_get {k : Int} {M : List Own} {i : Nat} (h : i < M.length) : (shiftL k M)[i]'(by rw [shiftL_length]; exact h) = shiftO k M[i] := by simp [shiftL]
theorem shift_after (k : Int) (q : Own) : afterO (shiftO k q) = shiftO k (afterO q) := by
  unfold afterO
  show (bif q.JobLeft - 1 == 0 then nextO (decO (shiftO k q)) else decO (shiftO k q)) = _
  cases q.JobLeft - 1 == 0
  · rfl
  · rw [cond_true, cond_true]
    unfold nextO decO shiftO
    dsimp only
    rw [show q.JobDeadline + k + q.PartP = q.JobDeadline + q.PartP + k by omega]
theorem shift_row {b k : Int} {M : List Own} (hR : RowOk b M) (h0 : 0 ≤ b + k) (h1 : b + k ≤ 1099511627776) (ht : ∀ i (h : i < M.length), M[i].JobRelease + k ≤ 1099512676352) : RowOk (b + k) (shiftL k M) := by
  refine ⟨h0, h1, by rw [shiftL_length]; exact hR.len, ?_⟩
  intro i hi
  rw [shiftL_length] at hi
  rw [shiftL_get hi]
  have h := hR.all i hi
  refine ⟨h.e1, h.ep, h.p, h.part, h.idx, ?_, ?_, h.l1, h.le, ht i hi⟩
  · show M[i].JobRelease + k = b + k + M[i].JobIndex * M[i].PartP
    have := h.rel; omega
  · show M[i].JobDeadline + k = M[i].JobRelease + k + M[i].PartP
    have := h.dead; omega
theorem shift_lt (k : Int) (a c : Own) : ltJ (ownJ (shiftO k a)) (ownJ (shiftO k c)) = ltJ (ownJ a) (ownJ c) := by
  cases h : ltJ (ownJ a) (ownJ c)
  · rw [ltJ_not] at h ⊢
    simp only [ownJ, shiftO] at h ⊢
    omega
  · rw [ltJ_iff] at h ⊢
    simp only [ownJ, shiftO] at h ⊢
    omega
theorem shift_best (k t : Int) (M : List Own) : ∀ n : Nat, n ≤ M.length → bestG (shiftL k M) (t + k) n = bestG M t n
  | 0, _ => rfl
  | x + 1, hx => by
    have ih := shift_best k t M x (by omega)
    have hxl : x < M.length := hx
    have hxl' : x < (shiftL k M).length := by rw [shiftL_length]; exact hx
    simp only [bestG]
    rw [ih, at_nat hxl, at_nat hxl', shiftL_get hxl]
    have e1 : decide ((ownJ (shiftO k M[x])).Release > t + k) = decide ((ownJ M[x]).Release > t) := by
      by_cases c : M[x].JobRelease > t
      · rw [show decide ((ownJ M[x]).Release > t) = true from decide_eq_true c]
        exact decide_eq_true (show M[x].JobRelease + k > t + k by omega)
      · rw [show decide ((ownJ M[x]).Release > t) = false from decide_eq_false c]
        exact decide_eq_false (show ¬ M[x].JobRelease + k > t + k by omega)
    rw [e1]
    obtain ⟨lo, hi⟩ := bestG_lo M t x
    by_cases hb : bestG M t x ≥ 0
    · obtain ⟨j, hj⟩ := Int.eq_ofNat_of_zero_le hb
      have hjl : j < M.length := by omega
      have hjl' : j < (shiftL k M).length := by rw [shiftL_length]; exact hjl
      rw [hj, at_nat hjl, at_nat hjl', shiftL_get hjl, shift_lt]
    · rw [decide_eq_false hb, Bool.false_and, Bool.false_and]
theorem shift_bestM (k t : Int) (M : List Own) : bestM (shiftL k M) (t + k) = bestM M t := by
  unfold bestM
  rw [shiftL_length]
  exact shift_best k t M _ (Nat.le_refl _)
theorem shift_grantM {b k last t : Int} {M : List Own} (hR : RowOk b M) (hs : slotOk last t = true) (hs' : slotOk (last + k) (t + k) = true) :
    grantM (shiftL k M) (last + k) (t + k) = shiftL k (grantM M last t) ∧ grantIs (shiftL k M) (last + k) (t + k) = grantIs M last t ∧ (∀ s, grantServed (shiftL k M) (last + k) s (t + k) = grantServed M last s t) ∧ (∀ s, grantIdle (shiftL k M) (last + k) s (t + k) = grantIdle M last s t) ∧
    (grantIs M last t = true → (grantJ (shiftL k M) (last + k) (t + k)).Part = (grantJ M last t).Part ∧ (grantJ (shiftL k M) (last + k) (t + k)).Index = (grantJ M last t).Index ∧ (grantJ (shiftL k M) (last + k) (t + k)).Release = (grantJ M last t).Release + k ∧ (grantJ (shiftL k M) (last + k) (t + k)).Deadline = (grantJ M last t).Deadline + k ∧ (grantJ (shiftL k M) (last + k) (t + k)).Left = (grantJ M last t).Left ∧
      -9223372036854775808 ≤ (grantJ M last t).Release ∧ (grantJ M last t).Release ≤ 1099512676352 ∧ -9223372036854775808 ≤ (grantJ M last t).Deadline ∧ (grantJ M last t).Deadline ≤ 1099513724928) := by
  by_cases hb : 0 ≤ bestM M t
  · obtain ⟨i, hi, ho⟩ := best_some hR hb
    have hil : i < (shiftL k M).length := by rw [shiftL_length]; exact ho.lt
    have hi' : bestM (shiftL k M) (t + k) = i := by rw [shift_bestM]; exact hi
    obtain ⟨g1, g2, g3, g4, g5⟩ := grantM_some hs hi ho.lt
    obtain ⟨f1, f2, f3, f4, f5⟩ := grantM_some hs' hi' hil
    rw [g1, g2, g3, f1, f2, f3, shiftL_get ho.lt, shift_after]
    refine ⟨?_, rfl, fun s => by rw [g4, f4], fun s => by rw [g5, f5], fun _ => ⟨rfl, rfl, rfl, rfl, rfl, ?_⟩⟩
    · unfold shiftL
      rw [List.map_set]
    · have hq := hR.all i ho.lt
      have r0 := hq.rel0 hR.t0
      have rt := hq.top
      have hd := hq.dead
      have hp := hq.p
      have e1 := hq.e1
      have ep := hq.ep
      show _ ≤ (M[i]'ho.lt).JobRelease ∧ (M[i]'ho.lt).JobRelease ≤ _ ∧ _ ≤ (M[i]'ho.lt).JobDeadline ∧ (M[i]'ho.lt).JobDeadline ≤ _
      omega
  · have hb' : ¬ 0 ≤ bestM (shiftL k M) (t + k) := by rw [shift_bestM]; exact hb
    obtain ⟨g1, g2, g3, g4, g5⟩ := grantM_none (M := M) hs hb
    obtain ⟨f1, f2, f3, f4, f5⟩ := grantM_none (M := shiftL k M) hs' hb'
    rw [g1, g2, g3, f1, f2, f3]
    exact ⟨rfl, rfl, fun s => by rw [g4, f4], fun s => by rw [g5, f5], fun h => by cases h⟩
theorem shift_missedO (k t : Int) (q : Own) : missedO (t + k) (shiftO k q) = missedO t q := by
  unfold missedO
  show (bif decide (q.JobDeadline + k ≤ t + k) then q.JobLeft + (t + k - (q.JobDeadline + k)) / q.PartP * q.PartE else 0) = _
  rw [show t + k - (q.JobDeadline + k) = t - q.JobDeadline by omega]
  by_cases c : q.JobDeadline ≤ t
  · rw [decide_eq_true c, decide_eq_true (by omega)]
  · rw [decide_eq_false c, decide_eq_false (by omega)]
theorem shift_missedG (k t : Int) : ∀ (M : List Own) (n : Int), missedG (t + k) n (shiftL k M) = missedG t n M
  | [], _ => rfl
  | q :: M, n => by
    show missedG (t + k) (n + missedO (t + k) (shiftO k q)) (shiftL k M) = missedG t (n + missedO t q) M
    rw [shift_missedO, shift_missedG k t M]
theorem startL_shift (k : Int) (L : List Part) : startL k L L.length = shiftL k (startL 0 L L.length) := by
  unfold startL shiftL
  rw [List.map_map]
  congr 1
  funext i
  show startO k i _ = shiftO k (startO 0 i _)
  unfold startO shiftO
  dsimp only
  rw [Int.zero_add, Int.zero_add, Int.add_comm]
theorem newOk_shift {L : List Part} {k : Int} (h0 : 0 ≤ k) (h1 : k ≤ 1099511627776) : newOk L k = newOk L 0 := by
  unfold newOk
  rw [decide_eq_true h0, decide_eq_true h1]
  rfl
/-- the releases stay near the slots -/
def Near (now : Int) (M : List Own) : Prop := ∀ i (h : i < M.length), M[i].JobRelease ≤ now + 1048576
theorem Near.grant {b now t : Int} {M : List Own} (hR : RowOk b M) (hN : Near now M) (ht : now ≤ t) (ht2 : t ≤ 1099511627776) : Near t (grantM M now t) := by
  have hs : slotOk now t = true := slotOk_iff.2 ⟨ht, ht2⟩
  by_cases hb : 0 ≤ bestM M t
  · obtain ⟨k, hk, ho⟩ := best_some hR hb
    rw [(grantM_some hs hk ho.lt).1]
    intro i hi
    rw [List.length_set] at hi
    rw [List.getElem_set]
    split
    · have hq := hR.all k ho.lt
      have := ho.rel
      have := hq.dead
      have := hq.p
      unfold afterO
      cases (M[k]'ho.lt).JobLeft - 1 == 0
      · show (M[k]'ho.lt).JobRelease ≤ _; omega
      · show (M[k]'ho.lt).JobDeadline ≤ _; omega
    · have := hN i hi; omega
  · rw [(grantM_none hs hb).1]
    intro i hi
    have := hN i hi; omega
structure laterI (k : Int) (M : List Own) (served idle now : Int) (i : Nat) : Prop where
  le : i ≤ 40
  now0 : 0 ≤ now
  now1 : now ≤ 7 * i
  s0 : 0 ≤ served
  s1 : served ≤ i
  d0 : 0 ≤ idle
  d1 : idle ≤ i
  row : RowOk 0 M
  near : Near now M
theorem laterI.rowk {k : Int} {M : List Own} {s d now : Int} {i : Nat} (h : laterI k M s d now i) (h0 : 0 ≤ k) (h1 : k ≤ 1000) : RowOk k (shiftL k M) := by
  have := shift_row (k := k) h.row (by omega) (by omega) (fun i hi => by have := h.near i hi; have := h.now1; have := h.le; omega)
  rwa [Int.zero_add] at this
theorem grant_counts (M : List Own) (last s d t : Int) : s ≤ grantServed M last s t ∧ grantServed M last s t ≤ s + 1 ∧ d ≤ grantIdle M last d t ∧ grantIdle M last d t ≤ d + 1 := by
  unfold grantServed grantIdle
  cases slotOk last t <;> cases decide (bestM M t ≥ 0) <;> simp <;> omega
theorem laterI.step {k : Int} {M : List Own} {s d now t : Int} {i : Nat} (h : laterI k M s d now i) (hi : i < 40) (h0 : now ≤ t) (h1 : t ≤ now + 7) : laterI k (grantM M now t) (grantServed M now s t) (grantIdle M now d t) t (i + 1) := by
  have := h.now0; have := h.now1; have := h.s0; have := h.s1; have := h.d0; have := h.d1
  obtain ⟨c1, c2, c3, c4⟩ := grant_counts M now s d t
  exact ⟨hi, by omega, by omega, by omega, by omega, by omega, by omega, h.row.grant, Near.grant h.row h.near h0 (by omega)⟩
theorem laterI.init {k : Int} {L : List Part} (hP : PartsOk L) : laterI k (startL 0 L L.length) 0 0 0 0 := by
  refine ⟨by decide, by decide, by decide, by decide, by decide, by decide, by decide, startL_ok hP (by decide) (by decide), ?_⟩
  intro i hi
  have e : ((startL 0 L L.length)[i]'hi).JobRelease = 0 := by simp [startL, startO]
  omega

/-! ### regatta/regattalaw14.SuperLater -/
def superLaterText (A : List Pair) (by_ : Int) (G : List Int) : Prop := (match (decide ((madeL A).length ≤ (100000 : Nat))) with | true => (match (newOk (madeL A) (0 : Int)) with | true => (match (decide ((madeL A).length ≤ (100000 : Nat))) with | true => (match (newOk (madeL A) ((IntKind.i64.wrap (by_.tmod (1001 : Int) + (1001 : Int))).tmod (1001 : Int))) with | true => ((∃ x : (List Own × Int × Int) × Int × Nat, ((laterI ((IntKind.i64.wrap (by_.tmod (1001 : Int) + (1001 : Int))).tmod (1001 : Int)) x.fst.fst x.fst.snd.fst x.fst.snd.snd x.snd.fst x.snd.snd) ∧ ((True ∧ ((true = true) ∧ (((IntKind.i64.wrap (by_.tmod (1001 : Int) + (1001 : Int))).tmod (1001 : Int) = (IntKind.i64.wrap (by_.tmod (1001 : Int) + (1001 : Int))).tmod (1001 : Int)) ∧ (True ∧ (True ∧ ((x.snd.fst = (0 : Int)) ∧ (((↑x.snd.snd : Int) = (0 : Int)) ∧ True))))))) ∧ ((A = A) ∧ ((G = G) ∧ ((True ∧ ((x.snd.fst = (0 : Int)) ∧ ((x.fst.snd.fst = (0 : Int)) ∧ ((x.fst.snd.snd = (0 : Int)) ∧ True)))) ∧ ((True ∧ ((x.snd.fst + (IntKind.i64.wrap (by_.tmod (1001 : Int) + (1001 : Int))).tmod (1001 : Int) = (IntKind.i64.wrap (by_.tmod (1001 : Int) + (1001 : Int))).tmod (1001 : Int)) ∧ ((x.fst.snd.fst = (0 : Int)) ∧ ((x.fst.snd.snd = (0 : Int)) ∧ True)))) ∧ ((x.fst.fst = startL (0 : Int) (madeL A) (madeL A).length) ∧ ((shiftL ((IntKind.i64.wrap (by_.tmod (1001 : Int) + (1001 : Int))).tmod (1001 : Int)) x.fst.fst = startL ((IntKind.i64.wrap (by_.tmod (1001 : Int) + (1001 : Int))).tmod (1001 : Int)) (madeL A) (madeL A).length) ∧ True))))))))) ∧ (∀ x : (List Own × Int × Int) × Int × Nat, ((laterI ((IntKind.i64.wrap (by_.tmod (1001 : Int) + (1001 : Int))).tmod (1001 : Int)) x.fst.fst x.fst.snd.fst x.fst.snd.snd x.snd.fst x.snd.snd) → (match (decide ((↑x.snd.snd : Int) < (↑G.length : Int))) with | true => (match (decide ((↑x.snd.snd : Int) < (40 : Int))) with | true => (match (inb (↑x.snd.snd : Int) G.length) with | true => (match (inb (↑x.snd.snd : Int) G.length) with | true => (match (decide ((∃ b, RowOk b x.fst.fst) ∧ (0 : Int) ≤ x.fst.snd.fst ∧ x.fst.snd.fst ≤ (1099511627776 : Int) ∧ (0 : Int) ≤ x.fst.snd.snd ∧ x.fst.snd.snd ≤ (1099511627776 : Int))) with | true => (match (decide ((∃ b, RowOk b (shiftL ((IntKind.i64.wrap (by_.tmod (1001 : Int) + (1001 : Int))).tmod (1001 : Int)) x.fst.fst)) ∧ (0 : Int) ≤ x.fst.snd.fst ∧ x.fst.snd.fst ≤ (1099511627776 : Int) ∧ (0 : Int) ≤ x.fst.snd.snd ∧ x.fst.snd.snd ≤ (1099511627776 : Int))) with | true => (match (grantIs x.fst.fst x.snd.fst (IntKind.i64.wrap (x.snd.fst + bits BinOp.and IntKind.i64 (at' (0 : Int) G (↑x.snd.snd : Int)) (7 : Int))) != grantIs (shiftL ((IntKind.i64.wrap (by_.tmod (1001 : Int) + (1001 : Int))).tmod (1001 : Int)) x.fst.fst) (x.snd.fst + (IntKind.i64.wrap (by_.tmod (1001 : Int) + (1001 : Int))).tmod (1001 : Int)) (IntKind.i64.wrap (IntKind.i64.wrap (x.snd.fst + bits BinOp.and IntKind.i64 (at' (0 : Int) G (↑x.snd.snd : Int)) (7 : Int)) + (IntKind.i64.wrap (by_.tmod (1001 : Int) + (1001 : Int))).tmod (1001 : Int)))) with | true => (((true = false) ∧ True) ∧ ((A = A) ∧ ((G = G) ∧ True))) | false => (match (grantIs x.fst.fst x.snd.fst (IntKind.i64.wrap (x.snd.fst + bits BinOp.and IntKind.i64 (at' (0 : Int) G (↑x.snd.snd : Int)) (7 : Int)))) with | true => (match ((grantJ (shiftL ((IntKind.i64.wrap (by_.tmod (1001 : Int) + (1001 : Int))).tmod (1001 : Int)) x.fst.fst) (x.snd.fst + (IntKind.i64.wrap (by_.tmod (1001 : Int) + (1001 : Int))).tmod (1001 : Int)) (IntKind.i64.wrap (IntKind.i64.wrap (x.snd.fst + bits BinOp.and IntKind.i64 (at' (0 : Int) G (↑x.snd.snd : Int)) (7 : Int)) + (IntKind.i64.wrap (by_.tmod (1001 : Int) + (1001 : Int))).tmod (1001 : Int)))).Part != (grantJ x.fst.fst x.snd.fst (IntKind.i64.wrap (x.snd.fst + bits BinOp.and IntKind.i64 (at' (0 : Int) G (↑x.snd.snd : Int)) (7 : Int)))).Part) with | true => (((true = false) ∧ True) ∧ ((A = A) ∧ ((G = G) ∧ True))) | false => (match ((grantJ (shiftL ((IntKind.i64.wrap (by_.tmod (1001 : Int) + (1001 : Int))).tmod (1001 : Int)) x.fst.fst) (x.snd.fst + (IntKind.i64.wrap (by_.tmod (1001 : Int) + (1001 : Int))).tmod (1001 : Int)) (IntKind.i64.wrap (IntKind.i64.wrap (x.snd.fst + bits BinOp.and IntKind.i64 (at' (0 : Int) G (↑x.snd.snd : Int)) (7 : Int)) + (IntKind.i64.wrap (by_.tmod (1001 : Int) + (1001 : Int))).tmod (1001 : Int)))).Index != (grantJ x.fst.fst x.snd.fst (IntKind.i64.wrap (x.snd.fst + bits BinOp.and IntKind.i64 (at' (0 : Int) G (↑x.snd.snd : Int)) (7 : Int)))).Index) with | true => (((true = false) ∧ True) ∧ ((A = A) ∧ ((G = G) ∧ True))) | false => (match ((grantJ (shiftL ((IntKind.i64.wrap (by_.tmod (1001 : Int) + (1001 : Int))).tmod (1001 : Int)) x.fst.fst) (x.snd.fst + (IntKind.i64.wrap (by_.tmod (1001 : Int) + (1001 : Int))).tmod (1001 : Int)) (IntKind.i64.wrap (IntKind.i64.wrap (x.snd.fst + bits BinOp.and IntKind.i64 (at' (0 : Int) G (↑x.snd.snd : Int)) (7 : Int)) + (IntKind.i64.wrap (by_.tmod (1001 : Int) + (1001 : Int))).tmod (1001 : Int)))).Release != IntKind.i64.wrap ((grantJ x.fst.fst x.snd.fst (IntKind.i64.wrap (x.snd.fst + bits BinOp.and IntKind.i64 (at' (0 : Int) G (↑x.snd.snd : Int)) (7 : Int)))).Release + (IntKind.i64.wrap (by_.tmod (1001 : Int) + (1001 : Int))).tmod (1001 : Int))) with | true => (((true = false) ∧ True) ∧ ((A = A) ∧ ((G = G) ∧ True))) | false => (match ((grantJ (shiftL ((IntKind.i64.wrap (by_.tmod (1001 : Int) + (1001 : Int))).tmod (1001 : Int)) x.fst.fst) (x.snd.fst + (IntKind.i64.wrap (by_.tmod (1001 : Int) + (1001 : Int))).tmod (1001 : Int)) (IntKind.i64.wrap (IntKind.i64.wrap (x.snd.fst + bits BinOp.and IntKind.i64 (at' (0 : Int) G (↑x.snd.snd : Int)) (7 : Int)) + (IntKind.i64.wrap (by_.tmod (1001 : Int) + (1001 : Int))).tmod (1001 : Int)))).Deadline != IntKind.i64.wrap ((grantJ x.fst.fst x.snd.fst (IntKind.i64.wrap (x.snd.fst + bits BinOp.and IntKind.i64 (at' (0 : Int) G (↑x.snd.snd : Int)) (7 : Int)))).Deadline + (IntKind.i64.wrap (by_.tmod (1001 : Int) + (1001 : Int))).tmod (1001 : Int))) with | true => (((true = false) ∧ True) ∧ ((A = A) ∧ ((G = G) ∧ True))) | false => (match ((grantJ (shiftL ((IntKind.i64.wrap (by_.tmod (1001 : Int) + (1001 : Int))).tmod (1001 : Int)) x.fst.fst) (x.snd.fst + (IntKind.i64.wrap (by_.tmod (1001 : Int) + (1001 : Int))).tmod (1001 : Int)) (IntKind.i64.wrap (IntKind.i64.wrap (x.snd.fst + bits BinOp.and IntKind.i64 (at' (0 : Int) G (↑x.snd.snd : Int)) (7 : Int)) + (IntKind.i64.wrap (by_.tmod (1001 : Int) + (1001 : Int))).tmod (1001 : Int)))).Left != (grantJ x.fst.fst x.snd.fst (IntKind.i64.wrap (x.snd.fst + bits BinOp.and IntKind.i64 (at' (0 : Int) G (↑x.snd.snd : Int)) (7 : Int)))).Left) with | true => (((true = false) ∧ True) ∧ ((A = A) ∧ ((G = G) ∧ True))) | false => (match (decide (∃ b, RowOk b (grantM x.fst.fst x.snd.fst (IntKind.i64.wrap (x.snd.fst + bits BinOp.and IntKind.i64 (at' (0 : Int) G (↑x.snd.snd : Int)) (7 : Int)))))) with | true => (match (decide (∃ b, RowOk b (grantM (shiftL ((IntKind.i64.wrap (by_.tmod (1001 : Int) + (1001 : Int))).tmod (1001 : Int)) x.fst.fst) (x.snd.fst + (IntKind.i64.wrap (by_.tmod (1001 : Int) + (1001 : Int))).tmod (1001 : Int)) (IntKind.i64.wrap (IntKind.i64.wrap (x.snd.fst + bits BinOp.and IntKind.i64 (at' (0 : Int) G (↑x.snd.snd : Int)) (7 : Int)) + (IntKind.i64.wrap (by_.tmod (1001 : Int) + (1001 : Int))).tmod (1001 : Int)))))) with | true => (match (missedM (grantM x.fst.fst x.snd.fst (IntKind.i64.wrap (x.snd.fst + bits BinOp.and IntKind.i64 (at' (0 : Int) G (↑x.snd.snd : Int)) (7 : Int)))) (grantLast x.snd.fst (IntKind.i64.wrap (x.snd.fst + bits BinOp.and IntKind.i64 (at' (0 : Int) G (↑x.snd.snd : Int)) (7 : Int)))) (IntKind.i64.wrap (x.snd.fst + bits BinOp.and IntKind.i64 (at' (0 : Int) G (↑x.snd.snd : Int)) (7 : Int))) != missedM (grantM (shiftL ((IntKind.i64.wrap (by_.tmod (1001 : Int) + (1001 : Int))).tmod (1001 : Int)) x.fst.fst) (x.snd.fst + (IntKind.i64.wrap (by_.tmod (1001 : Int) + (1001 : Int))).tmod (1001 : Int)) (IntKind.i64.wrap (IntKind.i64.wrap (x.snd.fst + bits BinOp.and IntKind.i64 (at' (0 : Int) G (↑x.snd.snd : Int)) (7 : Int)) + (IntKind.i64.wrap (by_.tmod (1001 : Int) + (1001 : Int))).tmod (1001 : Int)))) (grantLast (x.snd.fst + (IntKind.i64.wrap (by_.tmod (1001 : Int) + (1001 : Int))).tmod (1001 : Int)) (IntKind.i64.wrap (IntKind.i64.wrap (x.snd.fst + bits BinOp.and IntKind.i64 (at' (0 : Int) G (↑x.snd.snd : Int)) (7 : Int)) + (IntKind.i64.wrap (by_.tmod (1001 : Int) + (1001 : Int))).tmod (1001 : Int)))) (IntKind.i64.wrap (IntKind.i64.wrap (x.snd.fst + bits BinOp.and IntKind.i64 (at' (0 : Int) G (↑x.snd.snd : Int)) (7 : Int)) + (IntKind.i64.wrap (by_.tmod (1001 : Int) + (1001 : Int))).tmod (1001 : Int)))) with | true => (((true = false) ∧ True) ∧ ((A = A) ∧ ((G = G) ∧ True))) | false => (∃ x' : (List Own × Int × Int) × Int × Nat, ((laterI ((IntKind.i64.wrap (by_.tmod (1001 : Int) + (1001 : Int))).tmod (1001 : Int)) x'.fst.fst x'.fst.snd.fst x'.fst.snd.snd x'.snd.fst x'.snd.snd) ∧ (((40 : Nat) - x'.snd.snd < (40 : Nat) - x.snd.snd) ∧ ((True ∧ ((true = true) ∧ (((IntKind.i64.wrap (by_.tmod (1001 : Int) + (1001 : Int))).tmod (1001 : Int) = (IntKind.i64.wrap (by_.tmod (1001 : Int) + (1001 : Int))).tmod (1001 : Int)) ∧ (True ∧ (True ∧ ((x'.snd.fst = IntKind.i64.wrap (x.snd.fst + bits BinOp.and IntKind.i64 (at' (0 : Int) G (↑x.snd.snd : Int)) (7 : Int))) ∧ (((↑x'.snd.snd : Int) = IntKind.i64.wrap ((↑x.snd.snd : Int) + (1 : Int))) ∧ True))))))) ∧ ((A = A) ∧ ((G = G) ∧ ((True ∧ ((x'.snd.fst = grantLast x.snd.fst (IntKind.i64.wrap (x.snd.fst + bits BinOp.and IntKind.i64 (at' (0 : Int) G (↑x.snd.snd : Int)) (7 : Int)))) ∧ ((x'.fst.snd.fst = grantServed x.fst.fst x.snd.fst x.fst.snd.fst (IntKind.i64.wrap (x.snd.fst + bits BinOp.and IntKind.i64 (at' (0 : Int) G (↑x.snd.snd : Int)) (7 : Int)))) ∧ ((x'.fst.snd.snd = grantIdle x.fst.fst x.snd.fst x.fst.snd.snd (IntKind.i64.wrap (x.snd.fst + bits BinOp.and IntKind.i64 (at' (0 : Int) G (↑x.snd.snd : Int)) (7 : Int)))) ∧ True)))) ∧ ((True ∧ ((x'.snd.fst + (IntKind.i64.wrap (by_.tmod (1001 : Int) + (1001 : Int))).tmod (1001 : Int) = grantLast (x.snd.fst + (IntKind.i64.wrap (by_.tmod (1001 : Int) + (1001 : Int))).tmod (1001 : Int)) (IntKind.i64.wrap (IntKind.i64.wrap (x.snd.fst + bits BinOp.and IntKind.i64 (at' (0 : Int) G (↑x.snd.snd : Int)) (7 : Int)) + (IntKind.i64.wrap (by_.tmod (1001 : Int) + (1001 : Int))).tmod (1001 : Int)))) ∧ ((x'.fst.snd.fst = grantServed (shiftL ((IntKind.i64.wrap (by_.tmod (1001 : Int) + (1001 : Int))).tmod (1001 : Int)) x.fst.fst) (x.snd.fst + (IntKind.i64.wrap (by_.tmod (1001 : Int) + (1001 : Int))).tmod (1001 : Int)) x.fst.snd.fst (IntKind.i64.wrap (IntKind.i64.wrap (x.snd.fst + bits BinOp.and IntKind.i64 (at' (0 : Int) G (↑x.snd.snd : Int)) (7 : Int)) + (IntKind.i64.wrap (by_.tmod (1001 : Int) + (1001 : Int))).tmod (1001 : Int)))) ∧ ((x'.fst.snd.snd = grantIdle (shiftL ((IntKind.i64.wrap (by_.tmod (1001 : Int) + (1001 : Int))).tmod (1001 : Int)) x.fst.fst) (x.snd.fst + (IntKind.i64.wrap (by_.tmod (1001 : Int) + (1001 : Int))).tmod (1001 : Int)) x.fst.snd.snd (IntKind.i64.wrap (IntKind.i64.wrap (x.snd.fst + bits BinOp.and IntKind.i64 (at' (0 : Int) G (↑x.snd.snd : Int)) (7 : Int)) + (IntKind.i64.wrap (by_.tmod (1001 : Int) + (1001 : Int))).tmod (1001 : Int)))) ∧ True)))) ∧ ((x'.fst.fst = grantM x.fst.fst x.snd.fst (IntKind.i64.wrap (x.snd.fst + bits BinOp.and IntKind.i64 (at' (0 : Int) G (↑x.snd.snd : Int)) (7 : Int)))) ∧ ((shiftL ((IntKind.i64.wrap (by_.tmod (1001 : Int) + (1001 : Int))).tmod (1001 : Int)) x'.fst.fst = grantM (shiftL ((IntKind.i64.wrap (by_.tmod (1001 : Int) + (1001 : Int))).tmod (1001 : Int)) x.fst.fst) (x.snd.fst + (IntKind.i64.wrap (by_.tmod (1001 : Int) + (1001 : Int))).tmod (1001 : Int)) (IntKind.i64.wrap (IntKind.i64.wrap (x.snd.fst + bits BinOp.and IntKind.i64 (at' (0 : Int) G (↑x.snd.snd : Int)) (7 : Int)) + (IntKind.i64.wrap (by_.tmod (1001 : Int) + (1001 : Int))).tmod (1001 : Int)))) ∧ True))))))))))) | false => False) | false => False)))))) | false => (match (decide (∃ b, RowOk b (grantM x.fst.fst x.snd.fst (IntKind.i64.wrap (x.snd.fst + bits BinOp.and IntKind.i64 (at' (0 : Int) G (↑x.snd.snd : Int)) (7 : Int)))))) with | true => (match (decide (∃ b, RowOk b (grantM (shiftL ((IntKind.i64.wrap (by_.tmod (1001 : Int) + (1001 : Int))).tmod (1001 : Int)) x.fst.fst) (x.snd.fst + (IntKind.i64.wrap (by_.tmod (1001 : Int) + (1001 : Int))).tmod (1001 : Int)) (IntKind.i64.wrap (IntKind.i64.wrap (x.snd.fst + bits BinOp.and IntKind.i64 (at' (0 : Int) G (↑x.snd.snd : Int)) (7 : Int)) + (IntKind.i64.wrap (by_.tmod (1001 : Int) + (1001 : Int))).tmod (1001 : Int)))))) with | true => (match (missedM (grantM x.fst.fst x.snd.fst (IntKind.i64.wrap (x.snd.fst + bits BinOp.and IntKind.i64 (at' (0 : Int) G (↑x.snd.snd : Int)) (7 : Int)))) (grantLast x.snd.fst (IntKind.i64.wrap (x.snd.fst + bits BinOp.and IntKind.i64 (at' (0 : Int) G (↑x.snd.snd : Int)) (7 : Int)))) (IntKind.i64.wrap (x.snd.fst + bits BinOp.and IntKind.i64 (at' (0 : Int) G (↑x.snd.snd : Int)) (7 : Int))) != missedM (grantM (shiftL ((IntKind.i64.wrap (by_.tmod (1001 : Int) + (1001 : Int))).tmod (1001 : Int)) x.fst.fst) (x.snd.fst + (IntKind.i64.wrap (by_.tmod (1001 : Int) + (1001 : Int))).tmod (1001 : Int)) (IntKind.i64.wrap (IntKind.i64.wrap (x.snd.fst + bits BinOp.and IntKind.i64 (at' (0 : Int) G (↑x.snd.snd : Int)) (7 : Int)) + (IntKind.i64.wrap (by_.tmod (1001 : Int) + (1001 : Int))).tmod (1001 : Int)))) (grantLast (x.snd.fst + (IntKind.i64.wrap (by_.tmod (1001 : Int) + (1001 : Int))).tmod (1001 : Int)) (IntKind.i64.wrap (IntKind.i64.wrap (x.snd.fst + bits BinOp.and IntKind.i64 (at' (0 : Int) G (↑x.snd.snd : Int)) (7 : Int)) + (IntKind.i64.wrap (by_.tmod (1001 : Int) + (1001 : Int))).tmod (1001 : Int)))) (IntKind.i64.wrap (IntKind.i64.wrap (x.snd.fst + bits BinOp.and IntKind.i64 (at' (0 : Int) G (↑x.snd.snd : Int)) (7 : Int)) + (IntKind.i64.wrap (by_.tmod (1001 : Int) + (1001 : Int))).tmod (1001 : Int)))) with | true => (((true = false) ∧ True) ∧ ((A = A) ∧ ((G = G) ∧ True))) | false => (∃ x' : (List Own × Int × Int) × Int × Nat, ((laterI ((IntKind.i64.wrap (by_.tmod (1001 : Int) + (1001 : Int))).tmod (1001 : Int)) x'.fst.fst x'.fst.snd.fst x'.fst.snd.snd x'.snd.fst x'.snd.snd) ∧ (((40 : Nat) - x'.snd.snd < (40 : Nat) - x.snd.snd) ∧ ((True ∧ ((true = true) ∧ (((IntKind.i64.wrap (by_.tmod (1001 : Int) + (1001 : Int))).tmod (1001 : Int) = (IntKind.i64.wrap (by_.tmod (1001 : Int) + (1001 : Int))).tmod (1001 : Int)) ∧ (True ∧ (True ∧ ((x'.snd.fst = IntKind.i64.wrap (x.snd.fst + bits BinOp.and IntKind.i64 (at' (0 : Int) G (↑x.snd.snd : Int)) (7 : Int))) ∧ (((↑x'.snd.snd : Int) = IntKind.i64.wrap ((↑x.snd.snd : Int) + (1 : Int))) ∧ True))))))) ∧ ((A = A) ∧ ((G = G) ∧ ((True ∧ ((x'.snd.fst = grantLast x.snd.fst (IntKind.i64.wrap (x.snd.fst + bits BinOp.and IntKind.i64 (at' (0 : Int) G (↑x.snd.snd : Int)) (7 : Int)))) ∧ ((x'.fst.snd.fst = grantServed x.fst.fst x.snd.fst x.fst.snd.fst (IntKind.i64.wrap (x.snd.fst + bits BinOp.and IntKind.i64 (at' (0 : Int) G (↑x.snd.snd : Int)) (7 : Int)))) ∧ ((x'.fst.snd.snd = grantIdle x.fst.fst x.snd.fst x.fst.snd.snd (IntKind.i64.wrap (x.snd.fst + bits BinOp.and IntKind.i64 (at' (0 : Int) G (↑x.snd.snd : Int)) (7 : Int)))) ∧ True)))) ∧ ((True ∧ ((x'.snd.fst + (IntKind.i64.wrap (by_.tmod (1001 : Int) + (1001 : Int))).tmod (1001 : Int) = grantLast (x.snd.fst + (IntKind.i64.wrap (by_.tmod (1001 : Int) + (1001 : Int))).tmod (1001 : Int)) (IntKind.i64.wrap (IntKind.i64.wrap (x.snd.fst + bits BinOp.and IntKind.i64 (at' (0 : Int) G (↑x.snd.snd : Int)) (7 : Int)) + (IntKind.i64.wrap (by_.tmod (1001 : Int) + (1001 : Int))).tmod (1001 : Int)))) ∧ ((x'.fst.snd.fst = grantServed (shiftL ((IntKind.i64.wrap (by_.tmod (1001 : Int) + (1001 : Int))).tmod (1001 : Int)) x.fst.fst) (x.snd.fst + (IntKind.i64.wrap (by_.tmod (1001 : Int) + (1001 : Int))).tmod (1001 : Int)) x.fst.snd.fst (IntKind.i64.wrap (IntKind.i64.wrap (x.snd.fst + bits BinOp.and IntKind.i64 (at' (0 : Int) G (↑x.snd.snd : Int)) (7 : Int)) + (IntKind.i64.wrap (by_.tmod (1001 : Int) + (1001 : Int))).tmod (1001 : Int)))) ∧ ((x'.fst.snd.snd = grantIdle (shiftL ((IntKind.i64.wrap (by_.tmod (1001 : Int) + (1001 : Int))).tmod (1001 : Int)) x.fst.fst) (x.snd.fst + (IntKind.i64.wrap (by_.tmod (1001 : Int) + (1001 : Int))).tmod (1001 : Int)) x.fst.snd.snd (IntKind.i64.wrap (IntKind.i64.wrap (x.snd.fst + bits BinOp.and IntKind.i64 (at' (0 : Int) G (↑x.snd.snd : Int)) (7 : Int)) + (IntKind.i64.wrap (by_.tmod (1001 : Int) + (1001 : Int))).tmod (1001 : Int)))) ∧ True)))) ∧ ((x'.fst.fst = grantM x.fst.fst x.snd.fst (IntKind.i64.wrap (x.snd.fst + bits BinOp.and IntKind.i64 (at' (0 : Int) G (↑x.snd.snd : Int)) (7 : Int)))) ∧ ((shiftL ((IntKind.i64.wrap (by_.tmod (1001 : Int) + (1001 : Int))).tmod (1001 : Int)) x'.fst.fst = grantM (shiftL ((IntKind.i64.wrap (by_.tmod (1001 : Int) + (1001 : Int))).tmod (1001 : Int)) x.fst.fst) (x.snd.fst + (IntKind.i64.wrap (by_.tmod (1001 : Int) + (1001 : Int))).tmod (1001 : Int)) (IntKind.i64.wrap (IntKind.i64.wrap (x.snd.fst + bits BinOp.and IntKind.i64 (at' (0 : Int) G (↑x.snd.snd : Int)) (7 : Int)) + (IntKind.i64.wrap (by_.tmod (1001 : Int) + (1001 : Int))).tmod (1001 : Int)))) ∧ True))))))))))) | false => False) | false => False))) | false => False) | false => False) | false => False) | false => False) | false => (match (x.fst.snd.fst == x.fst.snd.fst) with | true => (((true = (x.fst.snd.snd == x.fst.snd.snd)) ∧ True) ∧ ((A = A) ∧ ((G = G) ∧ True))) | false => (((true = false) ∧ True) ∧ ((A = A) ∧ ((G = G) ∧ True))))) | false => (match (x.fst.snd.fst == x.fst.snd.fst) with | true => (((true = (x.fst.snd.snd == x.fst.snd.snd)) ∧ True) ∧ ((A = A) ∧ ((G = G) ∧ True))) | false => (((true = false) ∧ True) ∧ ((A = A) ∧ ((G = G) ∧ True)))))))) | false => (((true = false) ∧ True) ∧ ((A = A) ∧ ((G = G) ∧ True)))) | false => False) | false => (match (decide ((madeL A).length ≤ (100000 : Nat))) with | true => (match (newOk (madeL A) ((IntKind.i64.wrap (by_.tmod (1001 : Int) + (1001 : Int))).tmod (1001 : Int))) with | true => (((true = false) ∧ True) ∧ ((A = A) ∧ ((G = G) ∧ True))) | false => (((true = true) ∧ True) ∧ ((A = A) ∧ ((G = G) ∧ True)))) | false => False)) | false => False)
theorem superLaterVc (A : List Pair) (by_ : Int) (G : List Int) : fnX X33 (oneLoop 10 { σ := (List Own × Int × Int) × (Int × Nat), st := fun S x => supSt (supSt (((S.keep [2, 7, 9, 10, 11]).int 12 x.2.1).int 13 x.2.2) 2 10 x.1.1 x.2.1 x.1.2.1 x.1.2.2) 2 11 (shiftL (S.gi 9) x.1.1) (x.2.1 + S.gi 9) x.1.2.1 x.1.2.2, inv := fun S x => laterI (S.gi 9) x.1.1 x.1.2.1 x.1.2.2 x.2.1 x.2.2, m := fun x => 40 - x.2.2 }) Try.f7 [.own 0, .raw (.int .i64 by_), .own 1] [.ro 6 A, .ro 0 G] (ends [.ro 6 A, .ro 0 G] ⟨some (.raw (.bool true)), []⟩) = superLaterText A by_ G := by kernel_rfl
set_option maxHeartbeats 1000000 in
set_option maxRecDepth 20000 in
theorem superLaterHolds (A : List Pair) (by_ : Int) (G : List Int) : superLaterText A by_ G := by
  unfold superLaterText
  have hl8 := madeL_length A
  rw [decide_eq_true (show (madeL A).length ≤ 100000 by omega), rem_mod by_ (by decide) (by decide)]
  obtain ⟨k, hk⟩ : ∃ k, k = by_ % 1001 := ⟨_, rfl⟩
  have k0 : 0 ≤ k := by rw [hk]; exact Int.emod_nonneg _ (by decide)
  have k1 : k ≤ 1000 := by have := Int.emod_lt_of_pos by_ (show (0 : Int) < 1001 by decide); omega
  rw [← hk]
  clear hk
  rw [newOk_shift k0 (show k ≤ 1099511627776 by omega)]
  cases hn : newOk (madeL A) 0
  · repeat' first | apply And.intro | exact True.intro | with_reducible rfl | exact rfl
  · obtain ⟨hP, _, _⟩ := newOk_parts hn
    generalize madeL A = L at hP hl8 hn ⊢
    have hst0 := startL_shift k L
    refine ⟨⟨((startL 0 L L.length, 0, 0), (0, 0)), laterI.init hP, by repeat' first | exact hst0.symm | exact (Int.zero_add _) | exact (Int.zero_add _).symm | apply And.intro | exact True.intro | with_reducible rfl | exact rfl⟩, ?_⟩
    intro x hi
    obtain ⟨⟨M, served, idle⟩, now, x⟩ := x
    dsimp only at hi ⊢
    have hR := hi.row
    have hRk := hi.rowk k0 k1
    have n0 := hi.now0
    have n1 := hi.now1
    have s0 := hi.s0
    have s1 := hi.s1
    have d0 := hi.d0
    have d1 := hi.d1
    have hle := hi.le
    by_cases h1 : x < G.length
    · rw [dec_lt h1]
      by_cases h2 : x < 40
      · have hwx : IntKind.i64.wrap ((x : Int) + 1) = ((x + 1 : Nat) : Int) := by rw [wrap_id (by omega) (by omega)]; omega
        rw [show decide ((x : Int) < 40) = true from decide_eq_true (by omega), inb_nat h1, at_nat h1, mask7, wrap_id (n := now + G[x] % 8) (by omega) (by omega), hwx]
        obtain ⟨t, ht⟩ : ∃ t, t = now + G[x] % 8 := ⟨_, rfl⟩
        rw [← ht]
        have t0 : now ≤ t := by omega
        have t1 : t ≤ now + 7 := by omega
        have t2 : t ≤ 1099511627776 := by omega
        clear ht
        rw [wrap_id (n := t + k) (by omega) (by omega)]
        have hs : slotOk now t = true := slotOk_iff.2 ⟨t0, t2⟩
        have hs' : slotOk (now + k) (t + k) = true := slotOk_iff.2 ⟨by omega, by omega⟩
        obtain ⟨g1, g2, g3, g4, g5⟩ := shift_grantM hR hs hs'
        have hst := hi.step h2 t0 t1
        have hRn := hst.row
        have hRnk := hst.rowk k0 k1
        have hst1 : slotOk t t = true := slotOk_iff.2 ⟨Int.le_refl _, t2⟩
        have hst2 : slotOk (t + k) (t + k) = true := slotOk_iff.2 ⟨Int.le_refl _, by omega⟩
        rw [decide_eq_true (⟨⟨0, hR⟩, s0, by omega, d0, by omega⟩ : (∃ b, RowOk b M) ∧ 0 ≤ served ∧ served ≤ 1099511627776 ∧ 0 ≤ idle ∧ idle ≤ 1099511627776), decide_eq_true (⟨⟨k, hRk⟩, s0, by omega, d0, by omega⟩ : (∃ b, RowOk b (shiftL k M)) ∧ 0 ≤ served ∧ served ≤ 1099511627776 ∧ 0 ≤ idle ∧ idle ≤ 1099511627776), grantLast_on hs, grantLast_on hs', g1, g2, g3, g4]
        rw [decide_eq_true (⟨0, hRn⟩ : ∃ b, RowOk b (grantM M now t)), decide_eq_true (⟨k, hRnk⟩ : ∃ b, RowOk b (shiftL k (grantM M now t)))]
        rw [show (missedM (grantM M now t) t t != missedM (shiftL k (grantM M now t)) (t + k) (t + k)) = false by unfold missedM; rw [hst1, hst2, shift_missedG]; exact bne_self_eq_false _]
        cases hgi : grantIs M now t
        · rw [show (false != false) = false from rfl]
          refine ⟨((grantM M now t, grantServed M now served t, grantIdle M now idle t), (t, x + 1)), hst, by dsimp only; omega, ?_⟩
          repeat' first | apply And.intro | exact True.intro | with_reducible rfl | exact rfl
        · obtain ⟨p1, p2, p3, p4, p5, p6, p7, p8, p9⟩ := g5 hgi
          rw [show (true != true) = false from rfl, p1, p2, p3, p4, p5, wrap_id (n := (grantJ M now t).Release + k) (by omega) (by omega), wrap_id (n := (grantJ M now t).Deadline + k) (by omega) (by omega), bne_self_eq_false, bne_self_eq_false, bne_self_eq_false, bne_self_eq_false, bne_self_eq_false]
          refine ⟨((grantM M now t, grantServed M now served t, grantIdle M now idle t), (t, x + 1)), hst, by dsimp only; omega, ?_⟩
          repeat' first | apply And.intro | exact True.intro | with_reducible rfl | exact rfl
      · obtain rfl : x = 40 := by omega
        rw [show decide (((40 : Nat) : Int) < 40) = false from rfl, beq_self_eq_true, beq_self_eq_true]
        repeat' first | apply And.intro | exact True.intro | with_reducible rfl | exact rfl
    · rw [dec_ge (by omega), beq_self_eq_true, beq_self_eq_true]
      repeat' first | apply And.intro | exact True.intro | with_reducible rfl | exact rfl
noncomputable def superLaterCon : Con T O := fun args cs => match args, cs with
  | [.own 0, .raw (.int .i64 _), .own 1], [.ro 6 _, .ro 0 _] => .ret ⟨some (.raw (.bool true)), []⟩
  | _, _ => .fail
theorem superLaterOk : ConOk R Try.prog 7 superLaterCon := con_of_fn R (X33) (TabOk.con R X33Ok) mixed Try.call7 Try.func7 superLaterCon (by
  intro args cs K h
  unfold superLaterCon at h
  split at h
  · rename_i by_ A G
    refine ⟨oneLoop 10 { σ := (List Own × Int × Int) × (Int × Nat), st := fun S x => supSt (supSt (((S.keep [2, 7, 9, 10, 11]).int 12 x.2.1).int 13 x.2.2) 2 10 x.1.1 x.2.1 x.1.2.1 x.1.2.2) 2 11 (shiftL (S.gi 9) x.1.1) (x.2.1 + S.gi 9) x.1.2.1 x.1.2.2, inv := fun S x => laterI (S.gi 9) x.1.1 x.1.2.1 x.1.2.2 x.2.1 x.2.2, m := fun x => 40 - x.2.2 }, _, fun v S hv => ⟨_, h, hv⟩, ?_⟩
    rw [superLaterVc A by_ G]
    exact superLaterHolds A by_ G
  · exact h.elim)
noncomputable def tab34 : Tab T O := (7, superLaterCon) :: tab33
theorem tabOk34 : TabOk R Try.prog tab34 := TabOk.cons R superLaterOk <| tabOk33
noncomputable def X34 : Ctx T O := { X0 with con := conOf tab34 }
theorem X34Ok : TabOk R X34.P tab34 := tabOk34
end Go.Proofs.Ytmnnjclnldaejaa
