/-
  Part of a proof over the seat Ytmnnjclnldaejaa: printed by a small program or typed by hand.
-/
import Derived.Test.YtmnnjclnldaejaaSupS12
import Derived.KernelRfl
namespace Go.Proofs.Ytmnnjclnldaejaa
open Go.Sx Go.Proofs Classical
/-! ### regatta/regattaref02.mul -/
def decMulText (A B : List Int) : Prop := ((∃ x : Nat, ((x.le B.length) ∧ ((True ∧ (True ∧ (True ∧ (((↑x : Int) - (1 : Int) = IntKind.i64.wrap ((↑B.length : Int) - (1 : Int))) ∧ True)))) ∧ ((A = A) ∧ ((B = B) ∧ ((lim10 (nvB (10 : Nat) A * nvB (10 : Nat) (List.drop x B)) = []) ∧ True)))))) ∧ (∀ x : Nat, ((x.le B.length) → (match (decide ((↑x : Int) - (1 : Int) ≥ (0 : Int))) with | true => (match (roomy ((1 : Nat) + (lim10 (nvB (10 : Nat) A * nvB (10 : Nat) (List.drop x B))).length) (nat_lit 8)) with | true => (match (decide (([(0 : Int)] ++ lim10 (nvB (10 : Nat) A * nvB (10 : Nat) (List.drop x B))).length ≤ (100000 : Nat))) with | true => (match (inb ((↑x : Int) - (1 : Int)) B.length) with | true => (match (inb ((↑x : Int) - (1 : Int)) B.length) with | true => (match (decide (isD A ∧ A.length ≤ (50000 : Nat) ∧ (0 : Int) ≤ at' (0 : Int) B ((↑x : Int) - (1 : Int)) ∧ at' (0 : Int) B ((↑x : Int) - (1 : Int)) ≤ (4294967296 : Int))) with | true => (match (decide (isD (cutD ([(0 : Int)] ++ lim10 (nvB (10 : Nat) A * nvB (10 : Nat) (List.drop x B)))) ∧ isD (lim10 (Int.toNat (at' (0 : Int) B ((↑x : Int) - (1 : Int))) * nvB (10 : Nat) A)) ∧ (cutD ([(0 : Int)] ++ lim10 (nvB (10 : Nat) A * nvB (10 : Nat) (List.drop x B)))).length ≤ (50000 : Nat) ∧ (lim10 (Int.toNat (at' (0 : Int) B ((↑x : Int) - (1 : Int))) * nvB (10 : Nat) A)).length ≤ (50000 : Nat))) with | true => (∃ x' : Nat, ((x'.le B.length) ∧ ((x' < x) ∧ ((True ∧ (True ∧ (True ∧ (((↑x' : Int) - (1 : Int) = IntKind.i64.wrap ((↑x : Int) - (1 : Int) - (1 : Int))) ∧ True)))) ∧ ((A = A) ∧ ((B = B) ∧ ((lim10 (nvB (10 : Nat) A * nvB (10 : Nat) (List.drop x' B)) = lim10 (nvB (10 : Nat) (cutD ([(0 : Int)] ++ lim10 (nvB (10 : Nat) A * nvB (10 : Nat) (List.drop x B)))) + nvB (10 : Nat) (lim10 (Int.toNat (at' (0 : Int) B ((↑x : Int) - (1 : Int))) * nvB (10 : Nat) A)))) ∧ True))))))) | false => False) | false => False) | false => False) | false => False) | false => False) | false => False) | false => (match (decide ((lim10 (nvB (10 : Nat) A * nvB (10 : Nat) (List.drop x B))).length ≤ (100000 : Nat))) with | true => ((True ∧ True) ∧ ((A = A) ∧ ((B = B) ∧ ((lim10 (nvB (10 : Nat) A * nvB (10 : Nat) B) = cutD (lim10 (nvB (10 : Nat) A * nvB (10 : Nat) (List.drop x B)))) ∧ True)))) | false => False)))))
theorem decMulVc (A B : List Int) : fnX X12 (oneLoop 3 { σ := Nat, st := fun S x => ((S.keep [0, 1]).int 6 ((x : Int) - 1)).new 5 (.ro 0 (lim10 (nvB 10 A * nvB 10 (B.drop x)))), inv := fun _ x => x ≤ B.length, m := fun x => x }) Try.f76 [.own 0, .own 1] [.ro 0 A, .ro 0 B] (ends [.ro 0 A, .ro 0 B] ⟨some (.own 2), [(2, some (.ro 0 (lim10 (nvB 10 A * nvB 10 B))))]⟩) = decMulText A B := by kernel_rfl
theorem decMulHolds (A B : List Int) (hp : isD A ∧ isD B ∧ A.length ≤ 20000 ∧ B.length ≤ 20000) : decMulText A B := by
  unfold decMulText
  obtain ⟨ha, hb, la, lb⟩ := hp
  have e1 : ((B.length : Nat) : Int) - 1 = IntKind.i64.wrap ((B.length : Int) - 1) := by rw [wrap_id (by omega) (by omega)]
  have e2 : lim10 (nvB 10 A * nvB 10 (B.drop B.length)) = [] := by
    rw [List.drop_of_length_le (Nat.le_refl _), show nvB 10 [] = 0 from rfl, Nat.mul_zero]
    rfl
  have hlen : ∀ i, (lim10 (nvB 10 A * nvB 10 (B.drop i))).length ≤ 40000 := fun i => by
    have h1 := isD_lt ha
    have h2 := nvB_lt ten_gt (hb.ok.drop i)
    rw [List.length_drop] at h2
    have h3 := Nat.mul_lt_mul'' h1 h2
    rw [← Nat.pow_add] at h3
    have := lim10_lt h3
    omega
  refine ⟨⟨B.length, Nat.le_refl _, by repeat' first | exact e1 | exact e2 | trivial | rfl | apply And.intro⟩, ?_⟩
  intro x hx
  have hx : x ≤ B.length := hx
  cases x with
  | zero =>
    have h0 := hlen 0
    rw [show decide (((0 : Nat) : Int) - 1 ≥ 0) = false from rfl, decide_eq_true (show (lim10 (nvB 10 A * nvB 10 (B.drop 0))).length ≤ 100000 by omega)]
    have e : lim10 (nvB 10 A * nvB 10 B) = cutD (lim10 (nvB 10 A * nvB 10 (B.drop 0))) := by
      rw [List.drop_zero]
      exact ((cutD_lim ten_gt (limB_ok ten_gt _)).trans (congrArg (limB 10) (nv_lim10 _))).symm
    repeat' first | exact e | trivial | rfl | apply And.intro
  | succ i =>
    have hi : i < B.length := by omega
    have hd : at' 0 B (i : Int) = (gd B i : Int) := by
      rw [gd_lt hi, at_nat hi]
      have := hb.ok _ (List.getElem_mem hi)
      omega
    have g1 : gd B i < 10 := gd_ok (by decide) hb.ok i
    have hv := nvB_drop_at (β := 10) B i
    have h0 := hlen (i + 1)
    rw [show ((i + 1 : Nat) : Int) - 1 = (i : Int) by omega, show decide ((i : Int) ≥ 0) = true from decide_eq_true (by omega), inb_nat hi, hd, Int.toNat_natCast]
    generalize gd B i = d at g1 hv ⊢
    have e4 : nvB 10 A * nvB 10 (B.drop i) = 10 * (nvB 10 A * nvB 10 (B.drop (i + 1))) + d * nvB 10 A := by
      rw [hv, Nat.mul_add, Nat.mul_left_comm, Nat.mul_comm (nvB 10 A) d, Nat.add_comm]
    generalize nvB 10 A * nvB 10 (B.drop (i + 1)) = v at h0 e4 ⊢
    have hcut : cutD ([0] ++ lim10 v) = lim10 (10 * v) := by
      have hok : OkB 10 ([0] ++ lim10 v) := by
        intro y hy
        rcases List.mem_append.1 hy with h | h
        · rw [List.mem_singleton.1 h]; omega
        · exact limB_ok ten_gt _ y h
      rw [cutD_lim ten_gt hok]
      refine congrArg lim10 ?_
      show (0 : Int).toNat + 10 * nvB 10 (lim10 v) = _
      rw [nv_lim10, Int.toNat_zero, Nat.zero_add]
    have l1 : ([0] ++ lim10 v : List Int).length = 1 + (lim10 v).length := by rw [List.length_append]; rfl
    have l2 : (lim10 (10 * v)).length ≤ 50000 := by
      rw [← hcut]
      unfold cutD
      rw [List.length_take]
      omega
    have l3 : (lim10 (d * nvB 10 A)).length ≤ 50000 := by
      have h1 := isD_lt ha
      have h3 : d * nvB 10 A < 10 ^ (A.length + 1) := by
        rw [Nat.pow_succ, Nat.mul_comm (10 ^ A.length)]
        exact Nat.mul_lt_mul'' g1 h1
      have := lim10_lt h3
      omega
    rw [hcut, show roomy (1 + (lim10 v).length) 8 = true from decide_eq_true (by omega), decide_eq_true (show ([0] ++ lim10 v : List Int).length ≤ 100000 by omega), decide_eq_true (⟨ha, by omega, by omega, by omega⟩ : isD A ∧ A.length ≤ 50000 ∧ 0 ≤ (d : Int) ∧ (d : Int) ≤ 4294967296), decide_eq_true (⟨isD_lim _, isD_lim _, l2, l3⟩ : isD (lim10 (10 * v)) ∧ isD (lim10 (d * nvB 10 A)) ∧ (lim10 (10 * v)).length ≤ 50000 ∧ (lim10 (d * nvB 10 A)).length ≤ 50000)]
    have s1 : ((i : Nat) : Int) - 1 = IntKind.i64.wrap ((i : Int) - 1) := by rw [wrap_id (by omega) (by omega)]
    have s2 : lim10 (nvB 10 A * nvB 10 (B.drop i)) = lim10 (nvB 10 (lim10 (10 * v)) + nvB 10 (lim10 (d * nvB 10 A))) := by rw [nv_lim10, nv_lim10, e4]
    refine ⟨i, (show i ≤ B.length by omega), by omega, ?_⟩
    repeat' first | exact s1 | exact s2 | trivial | rfl | apply And.intro
noncomputable def decMulBCon : Con T O := fun args cs => match args, cs with
  | [.own 0, .own 1], [.ro 0 A, .ro 0 B] => chk (decide (isD A ∧ isD B ∧ A.length ≤ 20000 ∧ B.length ≤ 20000)) (.ret ⟨some (.own 2), [(2, some (.ro 0 (lim10 (nvB 10 A * nvB 10 B))))]⟩)
  | _, _ => .fail
theorem decMulBOk : ConOk R Try.prog 76 decMulBCon := con_of_fn R (X12) (TabOk.con R X12Ok) mixed Try.call76 Try.func76 decMulBCon (by
  intro args cs K h
  unfold decMulBCon at h
  split at h
  · rename_i A B
    rw [Tree.holds_chk] at h
    obtain ⟨hp, h⟩ := h
    refine ⟨oneLoop 3 { σ := Nat, st := fun S x => ((S.keep [0, 1]).int 6 ((x : Int) - 1)).new 5 (.ro 0 (lim10 (nvB 10 A * nvB 10 (B.drop x)))), inv := fun _ x => x ≤ B.length, m := fun x => x }, _, fun v S hv => ⟨_, h, hv⟩, ?_⟩
    rw [decMulVc A B]
    exact decMulHolds A B (of_decide_eq_true hp)
  · exact h.elim)
noncomputable def decMulCon : Con T O := relax 0 decMulBCon
theorem decMulOk : ConOk R Try.prog 76 decMulCon := relax_ok R 0 decMulBOk
/-! ### regatta/regattaref02.FromLimbs -/
def decFromText (A : List Int) : Prop := ((∃ x : Nat, ((x.le A.length) ∧ ((True ∧ (True ∧ (((↑x : Int) - (1 : Int) = IntKind.i64.wrap ((↑A.length : Int) - (1 : Int))) ∧ True))) ∧ ((A = A) ∧ ((lim10 (nvB b32 (List.drop x A)) = []) ∧ True))))) ∧ (∀ x : Nat, ((x.le A.length) → (match (decide ((↑x : Int) - (1 : Int) ≥ (0 : Int))) with | true => (match (decide (isD (lim10 (nvB b32 (List.drop x A))) ∧ (lim10 (nvB b32 (List.drop x A))).length ≤ (50000 : Nat) ∧ (0 : Int) ≤ (4294967296 : Int) ∧ (4294967296 : Int) ≤ (4294967296 : Int))) with | true => (match (inb ((↑x : Int) - (1 : Int)) A.length) with | true => (match (inb ((↑x : Int) - (1 : Int)) A.length) with | true => (match (decide ((0 : Int) ≤ IntKind.i64.wrap (at' (0 : Int) A ((↑x : Int) - (1 : Int))) ∧ IntKind.i64.wrap (at' (0 : Int) A ((↑x : Int) - (1 : Int))) ≤ (9223372036854775807 : Int))) with | true => (match (decide (isD (lim10 (Int.toNat (4294967296 : Int) * nvB (10 : Nat) (lim10 (nvB b32 (List.drop x A))))) ∧ isD (lim10 (IntKind.i64.wrap (at' (0 : Int) A ((↑x : Int) - (1 : Int)))).toNat) ∧ (lim10 (Int.toNat (4294967296 : Int) * nvB (10 : Nat) (lim10 (nvB b32 (List.drop x A))))).length ≤ (50000 : Nat) ∧ (lim10 (IntKind.i64.wrap (at' (0 : Int) A ((↑x : Int) - (1 : Int)))).toNat).length ≤ (50000 : Nat))) with | true => (∃ x' : Nat, ((x'.le A.length) ∧ ((x' < x) ∧ ((True ∧ (True ∧ (((↑x' : Int) - (1 : Int) = IntKind.i64.wrap ((↑x : Int) - (1 : Int) - (1 : Int))) ∧ True))) ∧ ((A = A) ∧ ((lim10 (nvB b32 (List.drop x' A)) = lim10 (nvB (10 : Nat) (lim10 (Int.toNat (4294967296 : Int) * nvB (10 : Nat) (lim10 (nvB b32 (List.drop x A))))) + nvB (10 : Nat) (lim10 (IntKind.i64.wrap (at' (0 : Int) A ((↑x : Int) - (1 : Int)))).toNat))) ∧ True)))))) | false => False) | false => False) | false => False) | false => False) | false => False) | false => ((True ∧ True) ∧ ((A = A) ∧ ((lim10 (nvB b32 A) = lim10 (nvB b32 (List.drop x A))) ∧ True)))))))
theorem decFromVc (A : List Int) : fnX X12 (oneLoop 3 { σ := Nat, st := fun S x => ((S.keep [0]).int 4 ((x : Int) - 1)).new 3 (.ro 0 (lim10 (nvB b32 (A.drop x)))), inv := fun _ x => x ≤ A.length, m := fun x => x }) Try.f74 [.own 0] [.ro 2 A] (ends [.ro 2 A] ⟨some (.own 1), [(1, some (.ro 0 (lim10 (nvB b32 A))))]⟩) = decFromText A := by kernel_rfl
theorem decFromHolds (A : List Int) (hp : isN A ∧ A.length ≤ 2500) : decFromText A := by
  unfold decFromText
  obtain ⟨ha, la⟩ := hp
  have e1 : ((A.length : Nat) : Int) - 1 = IntKind.i64.wrap ((A.length : Int) - 1) := by rw [wrap_id (by omega) (by omega)]
  have e2 : lim10 (nvB b32 (A.drop A.length)) = [] := by rw [List.drop_of_length_le (Nat.le_refl _)]; rfl
  have hlt : ∀ i, nvB b32 (A.drop i) < b32 ^ A.length := fun i => by
    have h2 := nvB_lt b32_gt (ha.ok.drop i)
    rw [List.length_drop] at h2
    exact Nat.lt_of_lt_of_le h2 (Nat.pow_le_pow_right (by decide) (by omega))
  have hlen : ∀ n, n < b32 ^ A.length → (lim10 n).length ≤ 50000 := fun n h => by
    have := lim10_len h
    omega
  refine ⟨⟨A.length, Nat.le_refl _, by repeat' first | exact e1 | exact e2 | trivial | rfl | apply And.intro⟩, ?_⟩
  intro x hx
  have hx : x ≤ A.length := hx
  cases x with
  | zero =>
    rw [show decide (((0 : Nat) : Int) - 1 ≥ 0) = false from rfl]
    repeat' first | trivial | rfl | apply And.intro
  | succ i =>
    have hi : i < A.length := by omega
    have hd : at' 0 A (i : Int) = (gd A i : Int) := by
      rw [gd_lt hi, at_nat hi]
      have : 0 ≤ A[i] ∧ A[i] < 4294967296 := ha.ok _ (List.getElem_mem hi)
      omega
    have g1 : gd A i < 4294967296 := gd_ok (by decide) ha.ok i
    have hv : nvB b32 (A.drop i) = gd A i + 4294967296 * nvB b32 (A.drop (i + 1)) := nvB_drop_at A i
    have h0 := hlt i
    have h1 := hlt (i + 1)
    rw [show ((i + 1 : Nat) : Int) - 1 = (i : Int) by omega, show decide ((i : Int) ≥ 0) = true from decide_eq_true (by omega), inb_nat hi, hd, wrap_id (n := ((gd A i : Nat) : Int)) (by omega) (by omega), Int.toNat_natCast, nv_lim10, show Int.toNat 4294967296 = 4294967296 from rfl]
    rw [hv] at h0
    generalize gd A i = d at g1 hv h0 ⊢
    generalize nvB b32 (A.drop (i + 1)) = w at hv h0 h1 ⊢
    rw [decide_eq_true (⟨isD_lim _, hlen _ h1, by omega, by omega⟩ : isD (lim10 w) ∧ (lim10 w).length ≤ 50000 ∧ (0 : Int) ≤ 4294967296 ∧ (4294967296 : Int) ≤ 4294967296), decide_eq_true (⟨by omega, by omega⟩ : 0 ≤ (d : Int) ∧ (d : Int) ≤ 9223372036854775807), decide_eq_true (⟨isD_lim _, isD_lim _, hlen _ (by omega), Nat.le_trans (lim10_lt (k := 10) (by omega)) (by omega)⟩ : isD (lim10 (4294967296 * w)) ∧ isD (lim10 d) ∧ (lim10 (4294967296 * w)).length ≤ 50000 ∧ (lim10 d).length ≤ 50000)]
    have s1 : ((i : Nat) : Int) - 1 = IntKind.i64.wrap ((i : Int) - 1) := by rw [wrap_id (by omega) (by omega)]
    have s2 : lim10 (nvB b32 (A.drop i)) = lim10 (nvB 10 (lim10 (4294967296 * w)) + nvB 10 (lim10 d)) := by rw [nv_lim10, nv_lim10, hv, Nat.add_comm]
    refine ⟨i, (show i ≤ A.length by omega), by omega, ?_⟩
    repeat' first | apply And.intro | exact s1 | exact (s2.trans (by rw [nv_lim10])) | exact True.intro | exact rfl
noncomputable def decFromBCon : Con T O := fun args cs => match args, cs with
  | [.own 0], [.ro 2 A] => chk (decide (isN A ∧ A.length ≤ 2500)) (.ret ⟨some (.own 1), [(1, some (.ro 0 (lim10 (nvB b32 A))))]⟩)
  | _, _ => .fail
theorem decFromBOk : ConOk R Try.prog 74 decFromBCon := con_of_fn R (X12) (TabOk.con R X12Ok) mixed Try.call74 Try.func74 decFromBCon (by
  intro args cs K h
  unfold decFromBCon at h
  split at h
  · rename_i A
    rw [Tree.holds_chk] at h
    obtain ⟨hp, h⟩ := h
    refine ⟨oneLoop 3 { σ := Nat, st := fun S x => ((S.keep [0]).int 4 ((x : Int) - 1)).new 3 (.ro 0 (lim10 (nvB b32 (A.drop x)))), inv := fun _ x => x ≤ A.length, m := fun x => x }, _, fun v S hv => ⟨_, h, hv⟩, ?_⟩
    rw [decFromVc A]
    exact decFromHolds A (of_decide_eq_true hp)
  · exact h.elim)
noncomputable def decFromCon : Con T O := relax 2 decFromBCon
theorem decFromOk : ConOk R Try.prog 74 decFromCon := relax_ok R 2 decFromBOk
/-! ### regatta/regattaref02.Limbs -/
def decLimbsText (D : List Int) : Prop := ((∃ x : List Int × Nat, (((x.fst ++ lim x.snd = lim (nvB (10 : Nat) D)) ∧ (x.snd ≤ nvB (10 : Nat) D)) ∧ ((True ∧ (True ∧ True)) ∧ ((D = D) ∧ ((lim10 x.snd = D) ∧ ((x.fst = []) ∧ True)))))) ∧ (∀ x : List Int × Nat, (((x.fst ++ lim x.snd = lim (nvB (10 : Nat) D)) ∧ (x.snd ≤ nvB (10 : Nat) D)) → (match (decide ((↑(lim10 x.snd).length : Int) > (0 : Int))) with | true => (match (decide (isD (lim10 x.snd) ∧ (lim10 x.snd).length ≤ (50000 : Nat) ∧ (1 : Int) ≤ (4294967296 : Int) ∧ (4294967296 : Int) ≤ (4294967296 : Int))) with | true => (match (roomy (x.fst.length + (1 : Nat)) (nat_lit 4)) with | true => (∃ x' : List Int × Nat, (((x'.fst ++ lim x'.snd = lim (nvB (10 : Nat) D)) ∧ (x'.snd ≤ nvB (10 : Nat) D)) ∧ ((x'.snd < x.snd) ∧ ((True ∧ (True ∧ True)) ∧ ((D = D) ∧ ((lim10 x'.snd = lim10 (nvB (10 : Nat) (lim10 x.snd) / Int.toNat (4294967296 : Int))) ∧ ((x'.fst = x.fst ++ [IntKind.u32.wrap (↑(nvB (10 : Nat) (lim10 x.snd) % Int.toNat (4294967296 : Int)) : Int)]) ∧ True))))))) | false => False) | false => False) | false => ((True ∧ True) ∧ ((D = D) ∧ ((lim (nvB (10 : Nat) D) = x.fst) ∧ True)))))))
theorem decLimbsVc (D : List Int) : fnX { X12 with frz := true } (oneLoop 2 { σ := List Int × Nat, st := fun S x => ((S.keep []).new 0 (.ro 0 (lim10 x.2))).new 3 (.vec 2 x.1 104), inv := fun _ x => x.1 ++ lim x.2 = lim (nvB 10 D) ∧ x.2 ≤ nvB 10 D, m := fun x => x.2 }) Try.f75 [.own 0] [.ro 0 D] (ends [.ro 0 D] ⟨some (.own 1), [(1, some (.ro 2 (lim (nvB 10 D))))]⟩) = decLimbsText D := by kernel_rfl
theorem decLimbsHolds (D : List Int) (hp : isD D ∧ D.length ≤ 50000) : decLimbsText D := by
  unfold decLimbsText
  obtain ⟨hD, lD⟩ := hp
  have hDe : lim10 (nvB 10 D) = D := hD.symm
  have hn := isD_lt hD
  have hL : (lim (nvB 10 D)).length ≤ D.length := lim_lt (Nat.lt_of_lt_of_le hn (Nat.pow_le_pow_left (by decide) _))
  generalize nvB 10 D = n at hn hL hDe ⊢
  refine ⟨⟨([], n), ⟨rfl, Nat.le_refl _⟩, by repeat' first | apply And.intro | exact hDe | exact True.intro | exact rfl⟩, ?_⟩
  rintro ⟨O, m⟩ ⟨he, hm⟩
  dsimp only at he hm ⊢
  by_cases h : 0 < m
  · have hO : O.length ≤ 50000 := by
      rw [← he, List.length_append] at hL
      omega
    have hl : (lim10 m).length ≤ 50000 := by
      have := lim10_lt (Nat.lt_of_le_of_lt hm hn)
      omega
    have hl0 : 0 < (lim10 m).length := by
      unfold lim10
      rw [limB_pos ten_gt h]
      exact Nat.succ_pos _
    rw [show decide (((lim10 m).length : Int) > 0) = true from decide_eq_true (by omega), decide_eq_true (⟨isD_lim _, hl, by omega, by omega⟩ : isD (lim10 m) ∧ (lim10 m).length ≤ 50000 ∧ (1 : Int) ≤ 4294967296 ∧ (4294967296 : Int) ≤ 4294967296), room4' O (by omega), nv_lim10, show Int.toNat 4294967296 = 4294967296 from rfl]
    have e2 : IntKind.u32.wrap ((m % 4294967296 : Nat) : Int) = ((m % b32 : Nat) : Int) := by
      rw [u32_mod]
      show _ = ((m % 4294967296 : Nat) : Int)
      omega
    rw [e2]
    refine ⟨(O ++ [((m % b32 : Nat) : Int)], m / 4294967296), ⟨?_, by dsimp only; omega⟩, by dsimp only; omega, ?_⟩
    · rw [← he]
      unfold lim
      rw [limB_pos b32_gt h, List.append_assoc]
      rfl
    · repeat' first | apply And.intro | exact True.intro | exact rfl
  · obtain rfl : m = 0 := by omega
    rw [show decide (((lim10 0).length : Int) > 0) = false from rfl]
    have e : lim n = O := by rw [← he]; exact List.append_nil O
    repeat' first | apply And.intro | exact e | exact True.intro | exact rfl
noncomputable def decLimbsBCon : Con T O := fun args cs => match args, cs with
  | [.own 0], [.ro 0 D] => chk (decide (isD D ∧ D.length ≤ 50000)) (.ret ⟨some (.own 1), [(1, some (.ro 2 (lim (nvB 10 D))))]⟩)
  | _, _ => .fail
theorem decLimbsBOk : ConOk R Try.prog 75 decLimbsBCon := con_of_fn R ({ X12 with frz := true }) (TabOk.con R X12Ok) mixed Try.call75 Try.func75 decLimbsBCon (by
  intro args cs K h
  unfold decLimbsBCon at h
  split at h
  · rename_i D
    rw [Tree.holds_chk] at h
    obtain ⟨hp, h⟩ := h
    refine ⟨oneLoop 2 { σ := List Int × Nat, st := fun S x => ((S.keep []).new 0 (.ro 0 (lim10 x.2))).new 3 (.vec 2 x.1 104), inv := fun _ x => x.1 ++ lim x.2 = lim (nvB 10 D) ∧ x.2 ≤ nvB 10 D, m := fun x => x.2 }, _, fun v S hv => ⟨_, h, hv⟩, ?_⟩
    rw [decLimbsVc D]
    exact decLimbsHolds D (of_decide_eq_true hp)
  · exact h.elim)
noncomputable def decLimbsCon : Con T O := relax 0 decLimbsBCon
theorem decLimbsOk : ConOk R Try.prog 75 decLimbsCon := relax_ok R 0 decLimbsBOk
noncomputable def tab13 : Tab T O := (76, decMulCon) :: (74, decFromCon) :: (75, decLimbsCon) :: tab12
theorem tabOk13 : TabOk R Try.prog tab13 := TabOk.cons R decMulOk <| TabOk.cons R decFromOk <| TabOk.cons R decLimbsOk <| tabOk12
noncomputable def X13 : Ctx T O := { X0 with con := conOf tab13 }
theorem X13Ok : TabOk R X13.P tab13 := tabOk13
end Go.Proofs.Ytmnnjclnldaejaa
