/-
  Part of a proof over the seat Ytmnnjclnldaejaa: printed by a small program or typed by hand.
-/
import Derived.Test.YtmnnjclnldaejaaSupS10
import Derived.KernelRfl
namespace Go.Proofs.Ytmnnjclnldaejaa
open Go.Sx Go.Proofs Classical

theorem slOk_cut {k n : Nat} (h : k ≤ n) : slOk none (some (k : Int)) none (n : Int) = true := by simp [slOk, optB]; omega
def lim10 (n : Nat) : List Int := limB 10 n
def isD (L : List Int) : Prop := L = lim10 (nvB 10 L)
theorem ten_gt : 1 < 10 := by decide
theorem isD_lim (n : Nat) : isD (lim10 n) := by unfold isD lim10; rw [nvB_limB ten_gt]
theorem nv_lim10 (n : Nat) : nvB 10 (lim10 n) = n := nvB_limB ten_gt n
theorem isD.ok {L : List Int} (h : isD L) : OkB 10 L := by rw [h]; exact limB_ok ten_gt _
theorem lim10_lt {n k : Nat} (h : n < 10 ^ k) : (lim10 n).length ≤ k := limB_lt ten_gt h
theorem isD_lt {L : List Int} (h : isD L) : nvB 10 L < 10 ^ L.length := nvB_lt ten_gt h.ok
theorem room8' (l : List Int) (h : l.length ≤ 100000) : roomy (l.length + 1) 8 = true := decide_eq_true (by omega)
theorem room4' (l : List Int) (h : l.length ≤ 100000) : roomy (l.length + 1) 4 = true := decide_eq_true (by omega)
/-- as many decimal digits as ten times the limbs -/
theorem lim10_len {n k : Nat} (h : n < b32 ^ k) : (lim10 n).length ≤ 10 * k := by
  refine lim10_lt (Nat.lt_of_lt_of_le h ?_)
  rw [Nat.pow_mul]
  exact Nat.pow_le_pow_left (by decide) k
theorem add_lt_pow {m n a : Nat} (h1 : m < b32 ^ a) (h2 : n < b32 ^ a) : m + n < b32 ^ (a + 1) := by
  rw [Nat.pow_succ]
  have : b32 ^ a * 2 ≤ b32 ^ a * b32 := Nat.mul_le_mul_left _ (by decide)
  omega
theorem add_len10 {A B : List Int} {k : Nat} (ha : isN A) (hb : isN B) (la : A.length ≤ k) (lb : B.length ≤ k) : (lim10 (nvB b32 A + nvB b32 B)).length ≤ 10 * (k + 1) :=
  lim10_len (add_lt_pow (Nat.lt_of_lt_of_le (nv_lt ha) (Nat.pow_le_pow_right (show 0 < b32 by decide) la)) (Nat.lt_of_lt_of_le (nv_lt hb) (Nat.pow_le_pow_right (show 0 < b32 by decide) lb)))
theorem times_step {β : Nat} (hβ : 1 < β) (A : List Int) (K x : Nat) :
    dig β x (K * nvB β A) = (K * gd A x + K * nvB β (A.take x) / β ^ x) % β ∧ K * nvB β (A.take (x + 1)) / β ^ (x + 1) = (K * gd A x + K * nvB β (A.take x) / β ^ x) / β := by
  have e1 : dig β x 0 = 0 := by simp [dig]
  have e2 : ∀ k, mulC β 0 k 0 K A = K * nvB β (A.take k) / β ^ k := by intro k; simp [mulC]
  have h := mul_step (i := 0) (k := x) (v := 0) (x := K) hβ A
  rw [Nat.zero_add, Nat.pow_zero, Nat.one_mul, Nat.zero_add, e1, e2, e2, Nat.add_zero] at h
  exact h
theorem horner {K : Nat} (v d : Nat) (hK : 0 < K) (hd : d < 10) :
    (d + 10 * v) % K = (v % K * 10 + d) % K ∧ (d + 10 * v) / K = (v % K * 10 + d) / K + 10 * (v / K) ∧ (v % K * 10 + d) / K < 10 := by
  have hv := Nat.mod_add_div v K
  have hr := Nat.mod_lt v hK
  have e : d + 10 * v = v % K * 10 + d + K * (10 * (v / K)) := by
    rw [Nat.mul_left_comm]
    omega
  refine ⟨?_, ?_, ?_⟩
  · rw [e, Nat.add_mul_mod_self_left]
  · rw [e, Nat.add_mul_div_left _ _ hK]
  · rw [Nat.div_lt_iff_lt_mul hK]
    omega
theorem digN_cons {β len t q : Nat} (hβ : 1 < β) (ht : t < β) : digN β (len + 1) (t + β * q) = (t : Int) :: digN β len q := by
  unfold digN
  rw [List.range_succ_eq_map, List.map_cons, List.map_map]
  congr 1
  · simp only [dig, Nat.pow_zero, Nat.div_one]
    rw [Nat.add_mul_mod_self_left, Nat.mod_eq_of_lt ht]
  · refine List.map_congr_left fun k _ => ?_
    simp only [Function.comp, dig]
    rw [Nat.pow_succ, Nat.mul_comm (β ^ k) β, ← Nat.div_div_eq_div_mul, Nat.add_mul_div_left _ _ (by omega), Nat.div_eq_of_lt ht, Nat.zero_add]

/-! ### regatta/regattaref02.cut -/
def decCutK0Text (L : List Int) : Prop := ((∃ x : Nat, (((x ≤ L.length) ∧ (cutTo L L.length = cutTo L x)) ∧ ((True ∧ True) ∧ ((L = L) ∧ ((List.take x L = L) ∧ True))))) ∧ (∀ x : Nat, (((x ≤ L.length) ∧ (cutTo L L.length = cutTo L x)) → (match (decide ((↑(List.take x L).length : Int) > (0 : Int))) with | true => (match (inb (IntKind.i64.wrap ((↑(List.take x L).length : Int) - (1 : Int))) (List.take x L).length) with | true => (match (inb (IntKind.i64.wrap ((↑(List.take x L).length : Int) - (1 : Int))) (List.take x L).length) with | true => (match (at' (0 : Int) (List.take x L) (IntKind.i64.wrap ((↑(List.take x L).length : Int) - (1 : Int))) == (0 : Int)) with | true => (match (slOk none (some (IntKind.i64.wrap ((↑(List.take x L).length : Int) - (1 : Int)))) none (↑(List.take x L).length : Int)) with | true => (∃ x' : Nat, (((x' ≤ L.length) ∧ (cutTo L L.length = cutTo L x')) ∧ ((x' < x) ∧ ((True ∧ True) ∧ ((L = L) ∧ ((List.take x' L = cutL none (some (IntKind.i64.wrap ((↑(List.take x L).length : Int) - (1 : Int)))) (List.take x L)) ∧ True)))))) | false => False) | false => ((True ∧ True) ∧ ((L = L) ∧ ((cutD L = List.take x L) ∧ True)))) | false => False) | false => False) | false => ((True ∧ True) ∧ ((L = L) ∧ ((cutD L = List.take x L) ∧ True)))))))
theorem decCutK0Vc (L : List Int) : fnX X10 (oneLoop 1 { σ := Nat, st := fun S x => ((S.keep []).chunk 0 (.ro 0 L)).new 0 (.ro 0 (L.take x)), inv := fun _ x => x ≤ L.length ∧ cutTo L L.length = cutTo L x, m := fun x => x }) Try.f98 [.own 0] [.vec 0 L 3] (ends [.vec 0 L 3] ⟨some (.own 1), [(0, some (.ro 0 L)), (1, some (.ro 0 (cutD L)))]⟩) = decCutK0Text L := by kernel_rfl
theorem decCutK0Holds (L : List Int) (hp : L.length ≤ 100000) : decCutK0Text L := by
  unfold decCutK0Text
  have e0 : L.take L.length = L := List.take_length
  refine ⟨⟨L.length, ⟨Nat.le_refl _, rfl⟩, by repeat' first | exact e0 | trivial | rfl | apply And.intro⟩, ?_⟩
  rintro x ⟨hx, hs⟩
  have ht : (L.take x).length = x := by rw [List.length_take, Nat.min_eq_left hx]
  rw [ht]
  cases x with
  | zero =>
    rw [show decide (((0 : Nat) : Int) > 0) = false from rfl]
    have e : cutD L = L.take 0 := by unfold cutD; rw [hs]; rfl
    repeat' first | exact e | trivial | rfl | apply And.intro
  | succ k =>
    have hk : k < L.length := by omega
    have hat : at' 0 (L.take (k + 1)) (k : Int) = at' 0 L (k : Int) := by rw [at_nat (by omega), at_nat hk, List.getElem_take]
    rw [show decide (((k + 1 : Nat) : Int) > 0) = true from decide_eq_true (by omega), show IntKind.i64.wrap (((k + 1 : Nat) : Int) - 1) = (k : Int) by rw [wrap_id (by omega) (by omega)]; omega, inb_nat (show k < k + 1 by omega), hat]
    simp only [cutTo] at hs
    cases e : at' 0 L (k : Int) == 0
    · rw [e, cond_false] at hs
      have e2 : cutD L = L.take (k + 1) := by unfold cutD; rw [hs]
      repeat' first | exact e2 | trivial | rfl | apply And.intro
    · rw [e, cond_true] at hs
      rw [slOk_cut (show k ≤ k + 1 by omega)]
      have e2 : L.take k = cutL none (some (k : Int)) (L.take (k + 1)) := by
        show _ = (L.take (k + 1)).take k
        rw [List.take_take, Nat.min_eq_left (by omega)]
      refine ⟨k, ⟨by omega, hs⟩, by omega, ?_⟩
      repeat' first | exact e2 | trivial | rfl | apply And.intro
def decCutK1Text (L : List Int) : Prop := ((∃ x : Nat, (((x ≤ L.length) ∧ (cutTo L L.length = cutTo L x)) ∧ ((True ∧ True) ∧ ((L = L) ∧ ((List.take x L = L) ∧ True))))) ∧ (∀ x : Nat, (((x ≤ L.length) ∧ (cutTo L L.length = cutTo L x)) → (match (decide ((↑(List.take x L).length : Int) > (0 : Int))) with | true => (match (inb (IntKind.i64.wrap ((↑(List.take x L).length : Int) - (1 : Int))) (List.take x L).length) with | true => (match (inb (IntKind.i64.wrap ((↑(List.take x L).length : Int) - (1 : Int))) (List.take x L).length) with | true => (match (at' (0 : Int) (List.take x L) (IntKind.i64.wrap ((↑(List.take x L).length : Int) - (1 : Int))) == (0 : Int)) with | true => (match (slOk none (some (IntKind.i64.wrap ((↑(List.take x L).length : Int) - (1 : Int)))) none (↑(List.take x L).length : Int)) with | true => (∃ x' : Nat, (((x' ≤ L.length) ∧ (cutTo L L.length = cutTo L x')) ∧ ((x' < x) ∧ ((True ∧ True) ∧ ((L = L) ∧ ((List.take x' L = cutL none (some (IntKind.i64.wrap ((↑(List.take x L).length : Int) - (1 : Int)))) (List.take x L)) ∧ True)))))) | false => False) | false => ((True ∧ True) ∧ ((L = L) ∧ ((cutD L = List.take x L) ∧ True)))) | false => False) | false => False) | false => ((True ∧ True) ∧ ((L = L) ∧ ((cutD L = List.take x L) ∧ True)))))))
theorem decCutK1Vc (L : List Int) : fnX X10 (oneLoop 1 { σ := Nat, st := fun S x => (S.keep []).new 0 (.ro 0 (L.take x)), inv := fun _ x => x ≤ L.length ∧ cutTo L L.length = cutTo L x, m := fun x => x }) Try.f98 [.own 0] [.ro 0 L] (ends [.ro 0 L] ⟨some (.own 1), [(1, some (.ro 0 (cutD L)))]⟩) = decCutK1Text L := by kernel_rfl
theorem decCutK1Holds (L : List Int) (hp : L.length ≤ 100000) : decCutK1Text L := by
  unfold decCutK1Text
  have e0 : L.take L.length = L := List.take_length
  refine ⟨⟨L.length, ⟨Nat.le_refl _, rfl⟩, by repeat' first | exact e0 | trivial | rfl | apply And.intro⟩, ?_⟩
  rintro x ⟨hx, hs⟩
  have ht : (L.take x).length = x := by rw [List.length_take, Nat.min_eq_left hx]
  rw [ht]
  cases x with
  | zero =>
    rw [show decide (((0 : Nat) : Int) > 0) = false from rfl]
    have e : cutD L = L.take 0 := by unfold cutD; rw [hs]; rfl
    repeat' first | exact e | trivial | rfl | apply And.intro
  | succ k =>
    have hk : k < L.length := by omega
    have hat : at' 0 (L.take (k + 1)) (k : Int) = at' 0 L (k : Int) := by rw [at_nat (by omega), at_nat hk, List.getElem_take]
    rw [show decide (((k + 1 : Nat) : Int) > 0) = true from decide_eq_true (by omega), show IntKind.i64.wrap (((k + 1 : Nat) : Int) - 1) = (k : Int) by rw [wrap_id (by omega) (by omega)]; omega, inb_nat (show k < k + 1 by omega), hat]
    simp only [cutTo] at hs
    cases e : at' 0 L (k : Int) == 0
    · rw [e, cond_false] at hs
      have e2 : cutD L = L.take (k + 1) := by unfold cutD; rw [hs]
      repeat' first | exact e2 | trivial | rfl | apply And.intro
    · rw [e, cond_true] at hs
      rw [slOk_cut (show k ≤ k + 1 by omega)]
      have e2 : L.take k = cutL none (some (k : Int)) (L.take (k + 1)) := by
        show _ = (L.take (k + 1)).take k
        rw [List.take_take, Nat.min_eq_left (by omega)]
      refine ⟨k, ⟨by omega, hs⟩, by omega, ?_⟩
      repeat' first | exact e2 | trivial | rfl | apply And.intro
noncomputable def decCutCon : Con T O := fun args cs => match args, cs with
  | [.own 0], [.vec 0 L 3] => chk (decide (L.length ≤ 100000)) (.ret ⟨some (.own 1), [(0, some (.ro 0 L)), (1, some (.ro 0 (cutD L)))]⟩)
  | [.own 0], [.ro 0 L] => chk (decide (L.length ≤ 100000)) (.ret ⟨some (.own 1), [(1, some (.ro 0 (cutD L)))]⟩)
  | _, _ => .fail
theorem decCutOk : ConOk R Try.prog 98 decCutCon := con_of_fn R (X10) (TabOk.con R X10Ok) mixed Try.call98 Try.func98 decCutCon (by
  intro args cs K h
  unfold decCutCon at h
  split at h
  · rename_i L
    rw [Tree.holds_chk] at h
    obtain ⟨hp, h⟩ := h
    refine ⟨oneLoop 1 { σ := Nat, st := fun S x => ((S.keep []).chunk 0 (.ro 0 L)).new 0 (.ro 0 (L.take x)), inv := fun _ x => x ≤ L.length ∧ cutTo L L.length = cutTo L x, m := fun x => x }, _, fun v S hv => ⟨_, h, hv⟩, ?_⟩
    rw [decCutK0Vc L]
    exact decCutK0Holds L (of_decide_eq_true hp)
  · rename_i L
    rw [Tree.holds_chk] at h
    obtain ⟨hp, h⟩ := h
    refine ⟨oneLoop 1 { σ := Nat, st := fun S x => (S.keep []).new 0 (.ro 0 (L.take x)), inv := fun _ x => x ≤ L.length ∧ cutTo L L.length = cutTo L x, m := fun x => x }, _, fun v S hv => ⟨_, h, hv⟩, ?_⟩
    rw [decCutK1Vc L]
    exact decCutK1Holds L (of_decide_eq_true hp)
  · exact h.elim)
/-! ### regatta/regattaref02.cmp -/
def decCmpText (A B : List Int) : Prop := (match ((↑A.length : Int) != (↑B.length : Int)) with | true => (match (decide ((↑A.length : Int) < (↑B.length : Int))) with | true => (((cmpN (nvB (10 : Nat) A) (nvB (10 : Nat) B) = (-1 : Int)) ∧ True) ∧ ((A = A) ∧ ((B = B) ∧ True))) | false => (((cmpN (nvB (10 : Nat) A) (nvB (10 : Nat) B) = (1 : Int)) ∧ True) ∧ ((A = A) ∧ ((B = B) ∧ True)))) | false => ((∃ x : Nat, (((x ≤ A.length) ∧ (List.drop x A = List.drop x B)) ∧ ((True ∧ (True ∧ (((↑x : Int) - (1 : Int) = IntKind.i64.wrap ((↑A.length : Int) - (1 : Int))) ∧ True))) ∧ ((A = A) ∧ ((B = B) ∧ True))))) ∧ (∀ x : Nat, (((x ≤ A.length) ∧ (List.drop x A = List.drop x B)) → (match (decide ((↑x : Int) - (1 : Int) ≥ (0 : Int))) with | true => (match (inb ((↑x : Int) - (1 : Int)) A.length) with | true => (match (inb ((↑x : Int) - (1 : Int)) A.length) with | true => (match (inb ((↑x : Int) - (1 : Int)) B.length) with | true => (match (inb ((↑x : Int) - (1 : Int)) B.length) with | true => (match (decide (at' (0 : Int) A ((↑x : Int) - (1 : Int)) < at' (0 : Int) B ((↑x : Int) - (1 : Int)))) with | true => (((cmpN (nvB (10 : Nat) A) (nvB (10 : Nat) B) = (-1 : Int)) ∧ True) ∧ ((A = A) ∧ ((B = B) ∧ True))) | false => (match (inb ((↑x : Int) - (1 : Int)) A.length) with | true => (match (inb ((↑x : Int) - (1 : Int)) A.length) with | true => (match (inb ((↑x : Int) - (1 : Int)) B.length) with | true => (match (inb ((↑x : Int) - (1 : Int)) B.length) with | true => (match (decide (at' (0 : Int) A ((↑x : Int) - (1 : Int)) > at' (0 : Int) B ((↑x : Int) - (1 : Int)))) with | true => (((cmpN (nvB (10 : Nat) A) (nvB (10 : Nat) B) = (1 : Int)) ∧ True) ∧ ((A = A) ∧ ((B = B) ∧ True))) | false => (∃ x' : Nat, (((x' ≤ A.length) ∧ (List.drop x' A = List.drop x' B)) ∧ ((x' < x) ∧ ((True ∧ (True ∧ (((↑x' : Int) - (1 : Int) = IntKind.i64.wrap ((↑x : Int) - (1 : Int) - (1 : Int))) ∧ True))) ∧ ((A = A) ∧ ((B = B) ∧ True))))))) | false => False) | false => False) | false => False) | false => False)) | false => False) | false => False) | false => False) | false => False) | false => (((cmpN (nvB (10 : Nat) A) (nvB (10 : Nat) B) = (0 : Int)) ∧ True) ∧ ((A = A) ∧ ((B = B) ∧ True))))))))
theorem decCmpVc (A B : List Int) : fnX X10 (oneLoop 6 { σ := Nat, st := fun S x => (S.keep [0, 1]).int 5 ((x : Int) - 1), inv := fun _ x => x ≤ A.length ∧ A.drop x = B.drop x, m := fun x => x }) Try.f73 [.own 0, .own 1] [.ro 0 A, .ro 0 B] (ends [.ro 0 A, .ro 0 B] ⟨some (.raw (.int .i64 (cmpN (nvB 10 A) (nvB 10 B)))), []⟩) = decCmpText A B := by kernel_rfl
theorem decCmpHolds (A B : List Int) (hp : isD A ∧ isD B ∧ A.length ≤ 50000 ∧ B.length ≤ 50000) : decCmpText A B := by
  unfold decCmpText
  obtain ⟨ha, hb, la, lb⟩ := hp
  by_cases hl : A.length = B.length
  · have e0 : ((A.length : Nat) : Int) - 1 = IntKind.i64.wrap ((A.length : Int) - 1) := by rw [wrap_id (by omega) (by omega)]
    rw [show ((A.length : Int) != (B.length : Int)) = false by simp [hl]]
    refine ⟨⟨A.length, ⟨Nat.le_refl _, by rw [List.drop_of_length_le (Nat.le_refl _), List.drop_of_length_le (by omega)]⟩, by repeat' first | exact e0 | trivial | rfl | apply And.intro⟩, ?_⟩
    rintro x ⟨hx, hd⟩
    cases x with
    | zero =>
      rw [show decide (((0 : Nat) : Int) - 1 ≥ 0) = false from rfl]
      have e : cmpN (nvB 10 A) (nvB 10 B) = 0 := by
        rw [List.drop_zero, List.drop_zero] at hd
        rw [hd, cmpN_eq]
      repeat' first | exact e | trivial | rfl | apply And.intro
    | succ k =>
      have hkA : k < A.length := by omega
      have hkB : k < B.length := by omega
      rw [show ((k + 1 : Nat) : Int) - 1 = (k : Int) by omega, show decide ((k : Int) ≥ 0) = true from decide_eq_true (by omega), inb_nat hkA, inb_nat hkB, at_nat hkA, at_nat hkB]
      rcases Int.lt_trichotomy A[k] B[k] with g | g | g
      · rw [decide_eq_true g]
        have e : cmpN (nvB 10 A) (nvB 10 B) = -1 := cmpN_lt (nvB_lt_of ten_gt ha.ok hkA hkB hd g hb.ok)
        repeat' first | exact e | trivial | rfl | apply And.intro
      · rw [show decide (A[k] < B[k]) = false from decide_eq_false (by omega), show decide (A[k] > B[k]) = false from decide_eq_false (by omega)]
        have e : ((k : Nat) : Int) - 1 = IntKind.i64.wrap ((k : Int) - 1) := by rw [wrap_id (by omega) (by omega)]
        refine ⟨k, ⟨by omega, ?_⟩, by omega, ?_⟩
        · rw [List.drop_eq_getElem_cons hkA, List.drop_eq_getElem_cons hkB, g, hd]
        · repeat' first | exact e | trivial | rfl | apply And.intro
      · rw [show decide (A[k] < B[k]) = false from decide_eq_false (by omega), show decide (A[k] > B[k]) = true from decide_eq_true g]
        have e : cmpN (nvB 10 A) (nvB 10 B) = 1 := cmpN_gt (nvB_lt_of ten_gt hb.ok hkB hkA hd.symm g ha.ok)
        repeat' first | exact e | trivial | rfl | apply And.intro
  · rw [show ((A.length : Int) != (B.length : Int)) = true by rw [bne_iff_ne]; omega]
    rcases Nat.lt_or_ge A.length B.length with g | g
    · have : nvB 10 A < nvB 10 B := nvB_len_lt ten_gt (by show (lim10 _).length < (lim10 _).length; rw [← ha, ← hb]; exact g)
      rw [dec_lt g]
      have e : cmpN (nvB 10 A) (nvB 10 B) = -1 := cmpN_lt this
      repeat' first | exact e | trivial | rfl | apply And.intro
    · have : nvB 10 B < nvB 10 A := nvB_len_lt ten_gt (by show (lim10 _).length < (lim10 _).length; rw [← ha, ← hb]; omega)
      rw [dec_ge g]
      have e : cmpN (nvB 10 A) (nvB 10 B) = 1 := cmpN_gt this
      repeat' first | exact e | trivial | rfl | apply And.intro
noncomputable def decCmpBCon : Con T O := fun args cs => match args, cs with
  | [.own 0, .own 1], [.ro 0 A, .ro 0 B] => chk (decide (isD A ∧ isD B ∧ A.length ≤ 50000 ∧ B.length ≤ 50000)) (.ret ⟨some (.raw (.int .i64 (cmpN (nvB 10 A) (nvB 10 B)))), []⟩)
  | _, _ => .fail
theorem decCmpBOk : ConOk R Try.prog 73 decCmpBCon := con_of_fn R (X10) (TabOk.con R X10Ok) mixed Try.call73 Try.func73 decCmpBCon (by
  intro args cs K h
  unfold decCmpBCon at h
  split at h
  · rename_i A B
    rw [Tree.holds_chk] at h
    obtain ⟨hp, h⟩ := h
    refine ⟨oneLoop 6 { σ := Nat, st := fun S x => (S.keep [0, 1]).int 5 ((x : Int) - 1), inv := fun _ x => x ≤ A.length ∧ A.drop x = B.drop x, m := fun x => x }, _, fun v S hv => ⟨_, h, hv⟩, ?_⟩
    rw [decCmpVc A B]
    exact decCmpHolds A B (of_decide_eq_true hp)
  · exact h.elim)
noncomputable def decCmpCon : Con T O := relax 0 decCmpBCon
theorem decCmpOk : ConOk R Try.prog 73 decCmpCon := relax_ok R 0 decCmpBOk
/-! ### regatta/regattaref02.small -/
def decSmallText (n : Int) : Prop := ((∃ x : List Int × Nat, (((x.fst ++ lim10 x.snd = lim10 n.toNat) ∧ (x.snd ≤ n.toNat)) ∧ ((((↑x.snd : Int) = n) ∧ (True ∧ True)) ∧ ((x.fst = []) ∧ True)))) ∧ (∀ x : List Int × Nat, (((x.fst ++ lim10 x.snd = lim10 n.toNat) ∧ (x.snd ≤ n.toNat)) → (match (decide ((↑x.snd : Int) > (0 : Int))) with | true => (match (roomy (x.fst.length + (1 : Nat)) (nat_lit 8)) with | true => (∃ x' : List Int × Nat, (((x'.fst ++ lim10 x'.snd = lim10 n.toNat) ∧ (x'.snd ≤ n.toNat)) ∧ ((x'.snd < x.snd) ∧ ((((↑x'.snd : Int) = IntKind.i64.wrap ((↑x.snd : Int).tdiv (10 : Int))) ∧ (True ∧ True)) ∧ ((x'.fst = x.fst ++ [(↑x.snd : Int).tmod (10 : Int)]) ∧ True))))) | false => False) | false => ((True ∧ True) ∧ ((lim10 n.toNat = x.fst) ∧ True))))))
theorem decSmallVc (n : Int) : fnX { X10 with frz := true } (oneLoop 2 { σ := List Int × Nat, st := fun S x => ((S.keep []).int 0 x.2).new 3 (.vec 0 x.1 3), inv := fun _ x => x.1 ++ lim10 x.2 = lim10 n.toNat ∧ x.2 ≤ n.toNat, m := fun x => x.2 }) Try.f96 [.raw (.int .i64 n)] [] (ends [] ⟨some (.own 0), [(0, some (.ro 0 (lim10 n.toNat)))]⟩) = decSmallText n := by kernel_rfl
theorem decSmallHolds (n : Int) (hp : 0 ≤ n ∧ n ≤ 9223372036854775807) : decSmallText n := by
  unfold decSmallText
  obtain ⟨h0, h1⟩ := hp
  obtain ⟨n, rfl⟩ := Int.eq_ofNat_of_zero_le h0
  rw [Int.toNat_natCast]
  have hlen : (lim10 n).length ≤ 19 := lim10_lt (by omega)
  refine ⟨⟨([], n), ⟨rfl, Nat.le_refl _⟩, by repeat' first | trivial | rfl | apply And.intro⟩, ?_⟩
  rintro ⟨O, m⟩ ⟨he, hm⟩
  dsimp only at he hm ⊢
  by_cases h : 0 < m
  · have hO : O.length ≤ 19 := by
      rw [← he, List.length_append] at hlen
      omega
    rw [show decide ((m : Int) > 0) = true from decide_eq_true (by omega), room8' O (by omega)]
    have e1 : ((m / 10 : Nat) : Int) = IntKind.i64.wrap ((m : Int).tdiv 10) := by
      rw [show (m : Int).tdiv 10 = ((m / 10 : Nat) : Int) from rfl, wrap_id (by omega) (by omega)]
    refine ⟨(O ++ [(m : Int).tmod 10], m / 10), ⟨?_, by dsimp only; omega⟩, by dsimp only; omega, ?_⟩
    · rw [← he]
      unfold lim10
      rw [limB_pos ten_gt h, List.append_assoc]
      rfl
    · repeat' first | exact e1 | trivial | rfl | apply And.intro
  · obtain rfl : m = 0 := by omega
    rw [show decide (((0 : Nat) : Int) > 0) = false from rfl]
    have e : lim10 n = O := by rw [← he]; exact List.append_nil O
    repeat' first | exact e | trivial | rfl | apply And.intro
noncomputable def decSmallCon : Con T O := fun args cs => match args, cs with
  | [.raw (.int .i64 n)], [] => chk (decide (0 ≤ n ∧ n ≤ 9223372036854775807)) (.ret ⟨some (.own 0), [(0, some (.ro 0 (lim10 n.toNat)))]⟩)
  | _, _ => .fail
theorem decSmallOk : ConOk R Try.prog 96 decSmallCon := con_of_fn R ({ X10 with frz := true }) (TabOk.con R X10Ok) mixed Try.call96 Try.func96 decSmallCon (by
  intro args cs K h
  unfold decSmallCon at h
  split at h
  · rename_i n
    rw [Tree.holds_chk] at h
    obtain ⟨hp, h⟩ := h
    refine ⟨oneLoop 2 { σ := List Int × Nat, st := fun S x => ((S.keep []).int 0 x.2).new 3 (.vec 0 x.1 3), inv := fun _ x => x.1 ++ lim10 x.2 = lim10 n.toNat ∧ x.2 ≤ n.toNat, m := fun x => x.2 }, _, fun v S hv => ⟨_, h, hv⟩, ?_⟩
    rw [decSmallVc n]
    exact decSmallHolds n (of_decide_eq_true hp)
  · exact h.elim)
/-! ### regatta/regattaref02.Of -/
def refOfText (n : Int) : Prop := ((∃ x : List Int × Nat, (((x.fst ++ lim x.snd = lim n.toNat) ∧ (x.snd ≤ n.toNat)) ∧ ((((↑x.snd : Int) = n) ∧ (True ∧ True)) ∧ ((x.fst = []) ∧ True)))) ∧ (∀ x : List Int × Nat, (((x.fst ++ lim x.snd = lim n.toNat) ∧ (x.snd ≤ n.toNat)) → (match (decide ((↑x.snd : Int) > (0 : Int))) with | true => (match (roomy (x.fst.length + (1 : Nat)) (nat_lit 4)) with | true => (∃ x' : List Int × Nat, (((x'.fst ++ lim x'.snd = lim n.toNat) ∧ (x'.snd ≤ n.toNat)) ∧ ((x'.snd < x.snd) ∧ ((((↑x'.snd : Int) = IntKind.u64.wrap ((↑x.snd : Int).tdiv (4294967296 : Int))) ∧ (True ∧ True)) ∧ ((x'.fst = x.fst ++ [IntKind.u32.wrap ((↑x.snd : Int).tmod (4294967296 : Int))]) ∧ True))))) | false => False) | false => ((True ∧ True) ∧ ((lim n.toNat = x.fst) ∧ True))))))
theorem refOfVc (n : Int) : fnX { X10 with frz := true } (oneLoop 2 { σ := List Int × Nat, st := fun S x => ((S.keep []).slot 0 (.raw (.int .u64 (x.2 : Nat)))).new 3 (.vec 2 x.1 104), inv := fun _ x => x.1 ++ lim x.2 = lim n.toNat ∧ x.2 ≤ n.toNat, m := fun x => x.2 }) Try.f41 [.raw (.int .u64 n)] [] (ends [] ⟨some (.own 0), [(0, some (.ro 2 (lim n.toNat)))]⟩) = refOfText n := by kernel_rfl
theorem refOfHolds (n : Int) (hp : 0 ≤ n ∧ n < 18446744073709551616) : refOfText n := by
  unfold refOfText
  obtain ⟨h0, h1⟩ := hp
  obtain ⟨n, rfl⟩ := Int.eq_ofNat_of_zero_le h0
  rw [Int.toNat_natCast]
  have hlen : (lim n).length ≤ 2 := lim_lt (Nat.lt_of_lt_of_le (show n < 18446744073709551616 by omega) (by decide))
  refine ⟨⟨([], n), ⟨rfl, Nat.le_refl _⟩, by repeat' first | apply And.intro | exact True.intro | exact rfl⟩, ?_⟩
  rintro ⟨O, m⟩ ⟨he, hm⟩
  dsimp only at he hm ⊢
  by_cases h : 0 < m
  · have hO : O.length ≤ 2 := by
      rw [← he, List.length_append] at hlen
      omega
    rw [show decide ((m : Int) > 0) = true from decide_eq_true (by omega), room4' O (by omega)]
    have e1 : ((m / 4294967296 : Nat) : Int) = IntKind.u64.wrap ((m : Int).tdiv 4294967296) := by
      rw [show (m : Int).tdiv 4294967296 = ((m / 4294967296 : Nat) : Int) from rfl, u64_id (by omega) (by omega)]
    have e2 : IntKind.u32.wrap ((m : Int).tmod 4294967296) = ((m % b32 : Nat) : Int) := by
      rw [show (m : Int).tmod 4294967296 = ((m % 4294967296 : Nat) : Int) from rfl, u32_mod]
      show _ = ((m % 4294967296 : Nat) : Int)
      omega
    rw [e2]
    refine ⟨(O ++ [((m % b32 : Nat) : Int)], m / 4294967296), ⟨?_, by dsimp only; omega⟩, by dsimp only; omega, ?_⟩
    · rw [← he]
      unfold lim
      rw [limB_pos b32_gt h, List.append_assoc]
      rfl
    · repeat' first | apply And.intro | exact e1 | exact True.intro | exact rfl
  · obtain rfl : m = 0 := by omega
    rw [show decide (((0 : Nat) : Int) > 0) = false from rfl]
    have e : lim n = O := by rw [← he]; exact List.append_nil O
    repeat' first | apply And.intro | exact e | exact True.intro | exact rfl
noncomputable def refOfCon : Con T O := fun args cs => match args, cs with
  | [.raw (.int .u64 n)], [] => chk (decide (0 ≤ n ∧ n < 18446744073709551616)) (.ret ⟨some (.own 0), [(0, some (.ro 2 (lim n.toNat)))]⟩)
  | _, _ => .fail
theorem refOfOk : ConOk R Try.prog 41 refOfCon := con_of_fn R ({ X10 with frz := true }) (TabOk.con R X10Ok) mixed Try.call41 Try.func41 refOfCon (by
  intro args cs K h
  unfold refOfCon at h
  split at h
  · rename_i n
    rw [Tree.holds_chk] at h
    obtain ⟨hp, h⟩ := h
    refine ⟨oneLoop 2 { σ := List Int × Nat, st := fun S x => ((S.keep []).slot 0 (.raw (.int .u64 (x.2 : Nat)))).new 3 (.vec 2 x.1 104), inv := fun _ x => x.1 ++ lim x.2 = lim n.toNat ∧ x.2 ≤ n.toNat, m := fun x => x.2 }, _, fun v S hv => ⟨_, h, hv⟩, ?_⟩
    rw [refOfVc n]
    exact refOfHolds n (of_decide_eq_true hp)
  · exact h.elim)
noncomputable def tab11 : Tab T O := (98, decCutCon) :: (73, decCmpCon) :: (96, decSmallCon) :: (41, refOfCon) :: tab10
theorem tabOk11 : TabOk R Try.prog tab11 := TabOk.cons R decCutOk <| TabOk.cons R decCmpOk <| TabOk.cons R decSmallOk <| TabOk.cons R refOfOk <| tabOk10
noncomputable def X11 : Ctx T O := { X0 with con := conOf tab11 }
theorem X11Ok : TabOk R X11.P tab11 := tabOk11
end Go.Proofs.Ytmnnjclnldaejaa
