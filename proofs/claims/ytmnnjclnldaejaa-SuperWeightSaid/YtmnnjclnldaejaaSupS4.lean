/-
  Part of a proof over the seat Ytmnnjclnldaejaa: printed by a small program or typed by hand.
-/
import Derived.Test.YtmnnjclnldaejaaSupS3
import Derived.KernelRfl
namespace Go.Proofs.Ytmnnjclnldaejaa
open Go.Sx Go.Proofs Classical

theorem sub64 {a b w w' : Nat} (ha : a < 4294967296) (hb : b < 4294967296) (hw : w ≤ 1) (hw' : w' = if a < b + w then 1 else 0) :
    IntKind.u32.wrap (IntKind.u64.wrap (IntKind.u64.wrap ((a : Int) - (b : Int)) - (w : Int))) = ((a + 4294967296 * w' - b - w : Nat) : Int) ∧ (IntKind.u64.wrap (IntKind.u64.wrap ((a : Int) - (b : Int)) - (w : Int))).fdiv ((2 : Int) ^ min (Int.toNat (63 : Int)) IntKind.u64.bits) = (w' : Int) := by
  have e : IntKind.u64.wrap (IntKind.u64.wrap ((a : Int) - (b : Int)) - (w : Int)) = ((a : Int) - (b : Int) - (w : Int)) % 18446744073709551616 := by
    show (((a : Int) - (b : Int)) % 18446744073709551616 - (w : Int)) % 18446744073709551616 = _
    omega
  rw [e, u32_mod]
  have e2 : ∀ n : Int, n.fdiv ((2 : Int) ^ min (Int.toNat (63 : Int)) IntKind.u64.bits) = n / 9223372036854775808 := fun n => by
    show n.fdiv 9223372036854775808 = _
    exact Int.fdiv_eq_ediv_of_nonneg _ (by omega)
  rw [e2]
  subst hw'
  split <;> omega
theorem slen {n m : Nat} (h : n ≤ m) {A : List Int} (hA : isN A) (hv : nvB b32 A = m) : (lim n).length ≤ A.length := by
  rw [hA, hv]; exact len_mono h
theorem len_two {n : Nat} {A : List Int} (hA : isN A) (h : n ≤ 2 * nvB b32 A) : (lim n).length ≤ A.length + 1 := by
  refine lim_lt ?_
  have := nv_lt hA
  rw [Nat.pow_succ]
  have : b32 ^ A.length * 2 ≤ b32 ^ A.length * b32 := Nat.mul_le_mul_left _ (by decide)
  omega
theorem lim_pos {n : Nat} (h : 0 < n) : (lim n).length ≠ 0 := by
  unfold lim
  rw [limB_pos b32_gt h]
  simp
theorem isN_pos {A : List Int} (h : isN A) (h0 : A.length ≠ 0) : 0 < nvB b32 A := by
  rcases Nat.eq_zero_or_pos (nvB b32 A) with g | g
  · rw [h, g] at h0; exact absurd rfl h0
  · exact g
theorem isN_last {A : List Int} (h : isN A) (hl : A.length - 1 < A.length) : A[A.length - 1] ≠ 0 := by
  have hp := isN_pos h (by omega)
  obtain ⟨B, x, e, hx⟩ := limB_last b32_gt _ hp
  have e : A = B ++ [x] := h.trans e
  subst e
  simpa using hx
theorem div_of {a b q r : Nat} (h : a = b * q + r) (hr : r < b) : a / b = q ∧ a % b = r :=
  (Nat.div_mod_unique (by omega)).2 ⟨by omega, hr⟩
theorem isN_zero {A : List Int} (h : isN A) (h0 : A.length = 0) : nvB b32 A = 0 := by rw [List.eq_nil_of_length_eq_zero h0]; rfl

/-! ### regatta/nat.Sub -/
def natSubText (A B : List Int) : Prop := (match (decide (isN A ∧ isN B ∧ A.length ≤ (1000 : Nat) ∧ B.length ≤ (1000 : Nat))) with | true => (match (decide (cmpN (nvB b32 A) (nvB b32 B) < (0 : Int))) with | true => (((True ∧ (((bif decide (nvB b32 A < nvB b32 B) then (16 : Int) else (0 : Int)) = (16 : Int)) ∧ True)) ∧ True) ∧ ((A = A) ∧ ((B = B) ∧ ((lim (nvB b32 A - nvB b32 B) = []) ∧ True)))) | false => (match (decide ((0 : Int) ≤ (↑A.length : Int)) && decide ((↑A.length : Int) = (↑A.length : Int)) && roomy (↑A.length : Int).toNat (nat_lit 4)) with | true => ((∃ x : Nat, ((x.le A.length) ∧ ((True ∧ (True ∧ (True ∧ (((↑(bor b32 A B x) : Int) = (0 : Int)) ∧ (((↑A.length : Int) = (↑A.length : Int)) ∧ (((↑x : Int) = (0 : Int)) ∧ True)))))) ∧ ((A = A) ∧ ((B = B) ∧ ((padN b32 x A.length (subT b32 A B x) = List.replicate (↑A.length : Int).toNat (0 : Int)) ∧ True)))))) ∧ (∀ x : Nat, ((x.le A.length) → (match (decide ((↑x : Int) < (↑A.length : Int))) with | true => (match (decide ((0 : Int) ≤ (↑x : Int) ∧ OkB b32 A)) with | true => (match (decide ((0 : Int) ≤ (↑x : Int) ∧ OkB b32 B)) with | true => (match (inb (↑x : Int) (padN b32 x A.length (subT b32 A B x)).length) with | true => (match (inb (↑x : Int) (padN b32 x A.length (subT b32 A B x)).length) with | true => (∃ x' : Nat, ((x'.le A.length) ∧ ((A.length - x' < A.length - x) ∧ ((True ∧ (True ∧ (True ∧ (((↑(bor b32 A B x') : Int) = (IntKind.u64.wrap (IntKind.u64.wrap ((↑(gd A (↑x : Int).toNat) : Int) - (↑(gd B (↑x : Int).toNat) : Int)) - (↑(bor b32 A B x) : Int))).fdiv ((2 : Int) ^ min (Int.toNat (63 : Int)) IntKind.u64.bits)) ∧ (((↑A.length : Int) = (↑A.length : Int)) ∧ (((↑x' : Int) = IntKind.i64.wrap ((↑x : Int) + (1 : Int))) ∧ True)))))) ∧ ((A = A) ∧ ((B = B) ∧ ((padN b32 x' A.length (subT b32 A B x') = (padN b32 x A.length (subT b32 A B x)).set (↑x : Int).toNat (IntKind.u32.wrap (IntKind.u64.wrap (IntKind.u64.wrap ((↑(gd A (↑x : Int).toNat) : Int) - (↑(gd B (↑x : Int).toNat) : Int)) - (↑(bor b32 A B x) : Int))))) ∧ True))))))) | false => False) | false => False) | false => False) | false => False) | false => (match (decide ((padN b32 x A.length (subT b32 A B x)).length ≤ (3000 : Nat))) with | true => (((True ∧ (((bif decide (nvB b32 A < nvB b32 B) then (16 : Int) else (0 : Int)) = (0 : Int)) ∧ True)) ∧ True) ∧ ((A = A) ∧ ((B = B) ∧ ((lim (nvB b32 A - nvB b32 B) = cutD (padN b32 x A.length (subT b32 A B x))) ∧ True)))) | false => False))))) | false => False)) | false => False)
theorem natSubVc (A B : List Int) : fnX X3 (oneLoop 6 { σ := Nat, st := fun S x => (((S.keep [0, 1, 6, 18]).int 19 x).slot 7 (.raw (.int .u64 ((bor b32 A B x : Nat) : Int)))).at' 6 (.vec 2 (padN b32 x A.length (subT b32 A B x)) 104), inv := fun _ x => x ≤ A.length, m := fun x => A.length - x }) Try.f113 [.own 0, .own 1] [.ro 2 A, .ro 2 B] (ends [.ro 2 A, .ro 2 B] ⟨some (.tup [.own 2, .raw (.int .i64 (bif decide (nvB b32 A < nvB b32 B) then 16 else 0))]), [(2, some (.ro 2 (lim (nvB b32 A - nvB b32 B))))]⟩) = natSubText A B := by kernel_rfl
theorem natSubHolds (A B : List Int) (hp : isN A ∧ isN B ∧ A.length ≤ 1000 ∧ B.length ≤ 1000) : natSubText A B := by
  unfold natSubText
  obtain ⟨ha, hb, la, lb⟩ := hp
  rw [decide_eq_true (⟨ha, hb, la, lb⟩ : isN A ∧ isN B ∧ A.length ≤ 1000 ∧ B.length ≤ 1000)]
  by_cases hlt : nvB b32 A < nvB b32 B
  · rw [cmpN_lt hlt, show decide ((-1 : Int) < 0) = true from rfl]
    have e1 : (bif decide (nvB b32 A < nvB b32 B) then (16 : Int) else 0) = 16 := by rw [decide_eq_true hlt]; rfl
    have e2 : lim (nvB b32 A - nvB b32 B) = [] := by rw [show nvB b32 A - nvB b32 B = 0 by omega]; rfl
    repeat' first | exact e1 | exact e2 | trivial | rfl | apply And.intro
  · have hc : decide (cmpN (nvB b32 A) (nvB b32 B) < 0) = false := by
      rcases Nat.eq_or_lt_of_le (Nat.le_of_not_lt hlt) with g | g
      · rw [g, cmpN_eq]; rfl
      · rw [cmpN_gt g]; rfl
    have hl : B.length ≤ A.length := by rw [ha, hb]; exact len_mono (by omega)
    rw [hc, show (decide (0 ≤ (A.length : Int)) && decide ((A.length : Int) = (A.length : Int)) && roomy ((A.length : Int)).toNat 4) = true by simp [roomy]; omega, Int.toNat_natCast]
    have e0 : padN b32 0 A.length (subT b32 A B 0) = List.replicate A.length 0 := rfl
    have e1 : ((bor b32 A B 0 : Nat) : Int) = 0 := by simp [bor]
    refine ⟨⟨0, Nat.zero_le _, by repeat' first | exact e0 | exact e1 | trivial | rfl | apply And.intro⟩, ?_⟩
    intro x hx
    have hx : x ≤ A.length := hx
    by_cases h : x < A.length
    · have hwx := wrap_succ h (show A.length ≤ 140737488355328 by omega)
      obtain ⟨s1, s2, s3, s4⟩ := sub_step b32_gt ha.ok hb.ok x
      have g1 : gd A x < 4294967296 := gd_ok (by decide) ha.ok x
      have g2 : gd B x < 4294967296 := gd_ok (by decide) hb.ok x
      obtain ⟨t1, t2⟩ := sub64 g1 g2 (bor_le b32 A B x) s1
      rw [dec_lt h, decide_eq_true (⟨by omega, ha.ok⟩ : 0 ≤ (x : Int) ∧ OkB b32 A), decide_eq_true (⟨by omega, hb.ok⟩ : 0 ≤ (x : Int) ∧ OkB b32 B), Int.toNat_natCast, t1, t2, padN_length hx, inb_nat h]
      have e2 : padN b32 (x + 1) A.length (subT b32 A B (x + 1)) = (padN b32 x A.length (subT b32 A B x)).set x ((gd A x + 4294967296 * bor b32 A B (x + 1) - gd B x - bor b32 A B x : Nat) : Int) := by
        rw [s2]
        exact (padN_push b32_gt h (subT_lt b32_gt ha.ok hb.ok x) s3).symm
      refine ⟨x + 1, h, by omega, ?_⟩
      repeat' first | exact hwx.symm | exact e2 | trivial | rfl | apply And.intro
    · obtain rfl : x = A.length := by omega
      rw [dec_ge (Nat.le_refl _), padN_length (Nat.le_refl _), decide_eq_true (show A.length ≤ 3000 by omega), padN_all]
      have hT : subT b32 A B A.length = nvB b32 A - nvB b32 B := by
        unfold subT bor
        rw [List.take_length, List.take_of_length_le hl, if_neg hlt]
        omega
      have e2 : lim (nvB b32 A - nvB b32 B) = cutD (digN b32 A.length (subT b32 A B A.length)) := by
        rw [cutD_digN b32_gt (subT_lt b32_gt ha.ok hb.ok _), hT]
        rfl
      have e3 : (bif decide (nvB b32 A < nvB b32 B) then (16 : Int) else 0) = 0 := by rw [decide_eq_false hlt]; rfl
      repeat' first | exact e2 | exact e3 | trivial | rfl | apply And.intro
noncomputable def natSubBCon : Con T O := fun args cs => match args, cs with
  | [.own 0, .own 1], [.ro 2 A, .ro 2 B] => chk (decide (isN A ∧ isN B ∧ A.length ≤ 1000 ∧ B.length ≤ 1000)) (.ret ⟨some (.tup [.own 2, .raw (.int .i64 (bif decide (nvB b32 A < nvB b32 B) then 16 else 0))]), [(2, some (.ro 2 (lim (nvB b32 A - nvB b32 B))))]⟩)
  | _, _ => .fail
theorem natSubBOk : ConOk R Try.prog 113 natSubBCon := con_of_fn R (X3) (TabOk.con R X3Ok) mixed Try.call113 Try.func113 natSubBCon (by
  intro args cs K h
  unfold natSubBCon at h
  split at h
  · rename_i A B
    rw [Tree.holds_chk] at h
    obtain ⟨hp, h⟩ := h
    refine ⟨oneLoop 6 { σ := Nat, st := fun S x => (((S.keep [0, 1, 6, 18]).int 19 x).slot 7 (.raw (.int .u64 ((bor b32 A B x : Nat) : Int)))).at' 6 (.vec 2 (padN b32 x A.length (subT b32 A B x)) 104), inv := fun _ x => x ≤ A.length, m := fun x => A.length - x }, _, fun v S hv => ⟨_, h, hv⟩, ?_⟩
    rw [natSubVc A B]
    exact natSubHolds A B (of_decide_eq_true hp)
  · exact h.elim)
noncomputable def natSubCon : Con T O := relax 2 natSubBCon
theorem natSubOk : ConOk R Try.prog 113 natSubCon := relax_ok R 2 natSubBOk
/-! ### regatta/nat.Check -/
def natCheckText (A : List Int) : Prop := (match ((↑A.length : Int) == (0 : Int)) with | true => (((true = true) ∧ True) ∧ ((A = A) ∧ True)) | false => (match (inb (IntKind.i64.wrap ((↑A.length : Int) - (1 : Int))) A.length) with | true => (match (inb (IntKind.i64.wrap ((↑A.length : Int) - (1 : Int))) A.length) with | true => (((true = (at' (0 : Int) A (IntKind.i64.wrap ((↑A.length : Int) - (1 : Int))) != (0 : Int))) ∧ True) ∧ ((A = A) ∧ True)) | false => False) | false => False))
theorem natCheckVc (A : List Int) : fnX X3 (noAnn) Try.f112 [.own 0] [.ro 2 A] (ends [.ro 2 A] ⟨some (.raw (.bool true)), []⟩) = natCheckText A := by kernel_rfl
theorem natCheckHolds (A : List Int) (hp : isN A ∧ A.length ≤ 1000) : natCheckText A := by
  unfold natCheckText
  have hl0 := hp.2
  by_cases h : A.length = 0
  · rw [show ((A.length : Int) == 0) = true by rw [h]; rfl]
    repeat' first | trivial | rfl | apply And.intro
  · have hl : A.length - 1 < A.length := by omega
    rw [show ((A.length : Int) == 0) = false by rw [beq_eq_false_iff_ne]; omega, show IntKind.i64.wrap ((A.length : Int) - 1) = ((A.length - 1 : Nat) : Int) by rw [wrap_id (by omega) (by omega)]; omega, inb_nat hl, at_nat hl]
    have e : A[A.length - 1] ≠ 0 := isN_last hp.1 hl
    have e2 : true = (A[A.length - 1] != 0) := (bne_iff_ne.2 e).symm
    repeat' first | exact e2 | trivial | rfl | apply And.intro
noncomputable def natCheckBCon : Con T O := fun args cs => match args, cs with
  | [.own 0], [.ro 2 A] => chk (decide (isN A ∧ A.length ≤ 1000)) (.ret ⟨some (.raw (.bool true)), []⟩)
  | _, _ => .fail
theorem natCheckBOk : ConOk R Try.prog 112 natCheckBCon := con_of_fn R (X3) (TabOk.con R X3Ok) mixed Try.call112 Try.func112 natCheckBCon (by
  intro args cs K h
  unfold natCheckBCon at h
  split at h
  · rename_i A
    rw [Tree.holds_chk] at h
    obtain ⟨hp, h⟩ := h
    refine ⟨noAnn, _, fun v S hv => ⟨_, h, hv⟩, ?_⟩
    rw [natCheckVc A]
    exact natCheckHolds A (of_decide_eq_true hp)
  · exact h.elim)
noncomputable def natCheckCon : Con T O := relax 2 natCheckBCon
theorem natCheckOk : ConOk R Try.prog 112 natCheckCon := relax_ok R 2 natCheckBOk
noncomputable def tab4 : Tab T O := (113, natSubCon) :: (112, natCheckCon) :: tab3
theorem tabOk4 : TabOk R Try.prog tab4 := TabOk.cons R natSubOk <| TabOk.cons R natCheckOk <| tabOk3
noncomputable def X4 : Ctx T O := { X0 with con := conOf tab4 }
theorem X4Ok : TabOk R X4.P tab4 := tabOk4
end Go.Proofs.Ytmnnjclnldaejaa
