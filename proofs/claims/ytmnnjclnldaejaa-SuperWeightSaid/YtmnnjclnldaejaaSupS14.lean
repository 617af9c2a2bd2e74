/-
  Part of a proof over the seat Ytmnnjclnldaejaa: printed by a small program or typed by hand.
-/
import Derived.Test.YtmnnjclnldaejaaSupS13
import Derived.KernelRfl
namespace Go.Proofs.Ytmnnjclnldaejaa
open Go.Sx Go.Proofs Classical
/-! ### regatta/regattaref02.Cmp -/
def refCmpText (A B : List Int) : Prop := (match (decide (isN A ∧ A.length ≤ (2500 : Nat))) with | true => (match (decide (isN B ∧ B.length ≤ (2500 : Nat))) with | true => (match (decide (isD (lim10 (nvB b32 A)) ∧ isD (lim10 (nvB b32 B)) ∧ (lim10 (nvB b32 A)).length ≤ (50000 : Nat) ∧ (lim10 (nvB b32 B)).length ≤ (50000 : Nat))) with | true => (((cmpN (nvB b32 A) (nvB b32 B) = cmpN (nvB (10 : Nat) (lim10 (nvB b32 A))) (nvB (10 : Nat) (lim10 (nvB b32 B)))) ∧ True) ∧ ((A = A) ∧ ((B = B) ∧ True))) | false => False) | false => False) | false => False)
theorem refCmpVc (A B : List Int) : fnX X13 (noAnn) Try.f42 [.own 0, .own 1] [.ro 2 A, .ro 2 B] (ends [.ro 2 A, .ro 2 B] ⟨some (.raw (.int .i64 (cmpN (nvB b32 A) (nvB b32 B)))), []⟩) = refCmpText A B := by kernel_rfl
theorem refCmpHolds (A B : List Int) (hp : isN A ∧ isN B ∧ A.length ≤ 900 ∧ B.length ≤ 900) : refCmpText A B := by
  unfold refCmpText
  obtain ⟨ha, hb, la, lb⟩ := hp
  have l1 := lim10_len (nv_lt ha)
  have l2 := lim10_len (nv_lt hb)
  rw [decide_eq_true (⟨ha, by omega⟩ : isN A ∧ A.length ≤ 2500), decide_eq_true (⟨hb, by omega⟩ : isN B ∧ B.length ≤ 2500), decide_eq_true (⟨isD_lim _, isD_lim _, by omega, by omega⟩ : isD (lim10 (nvB b32 A)) ∧ isD (lim10 (nvB b32 B)) ∧ (lim10 (nvB b32 A)).length ≤ 50000 ∧ (lim10 (nvB b32 B)).length ≤ 50000), nv_lim10, nv_lim10]
  repeat' first | trivial | rfl | apply And.intro
noncomputable def refCmpBCon : Con T O := fun args cs => match args, cs with
  | [.own 0, .own 1], [.ro 2 A, .ro 2 B] => chk (decide (isN A ∧ isN B ∧ A.length ≤ 900 ∧ B.length ≤ 900)) (.ret ⟨some (.raw (.int .i64 (cmpN (nvB b32 A) (nvB b32 B)))), []⟩)
  | _, _ => .fail
theorem refCmpBOk : ConOk R Try.prog 42 refCmpBCon := con_of_fn R (X13) (TabOk.con R X13Ok) mixed Try.call42 Try.func42 refCmpBCon (by
  intro args cs K h
  unfold refCmpBCon at h
  split at h
  · rename_i A B
    rw [Tree.holds_chk] at h
    obtain ⟨hp, h⟩ := h
    refine ⟨noAnn, _, fun v S hv => ⟨_, h, hv⟩, ?_⟩
    rw [refCmpVc A B]
    exact refCmpHolds A B (of_decide_eq_true hp)
  · exact h.elim)
noncomputable def refCmpCon : Con T O := relax 2 refCmpBCon
theorem refCmpOk : ConOk R Try.prog 42 refCmpCon := relax_ok R 2 refCmpBOk
/-! ### regatta/regattaref02.Mul -/
def refMulText (A B : List Int) : Prop := (match (decide (isN A ∧ A.length ≤ (2500 : Nat))) with | true => (match (decide (isN B ∧ B.length ≤ (2500 : Nat))) with | true => (match (decide (isD (lim10 (nvB b32 A)) ∧ isD (lim10 (nvB b32 B)) ∧ (lim10 (nvB b32 A)).length ≤ (20000 : Nat) ∧ (lim10 (nvB b32 B)).length ≤ (20000 : Nat))) with | true => (match (decide (isD (lim10 (nvB (10 : Nat) (lim10 (nvB b32 A)) * nvB (10 : Nat) (lim10 (nvB b32 B)))) ∧ (lim10 (nvB (10 : Nat) (lim10 (nvB b32 A)) * nvB (10 : Nat) (lim10 (nvB b32 B)))).length ≤ (50000 : Nat))) with | true => ((True ∧ True) ∧ ((A = A) ∧ ((B = B) ∧ ((lim (nvB b32 A * nvB b32 B) = lim (nvB (10 : Nat) (lim10 (nvB (10 : Nat) (lim10 (nvB b32 A)) * nvB (10 : Nat) (lim10 (nvB b32 B)))))) ∧ True)))) | false => False) | false => False) | false => False) | false => False)
theorem refMulVc (A B : List Int) : fnX X13 (noAnn) Try.f43 [.own 0, .own 1] [.ro 2 A, .ro 2 B] (ends [.ro 2 A, .ro 2 B] ⟨some (.own 2), [(2, some (.ro 2 (lim (nvB b32 A * nvB b32 B))))]⟩) = refMulText A B := by kernel_rfl
theorem refMulHolds (A B : List Int) (hp : isN A ∧ isN B ∧ A.length ≤ 900 ∧ B.length ≤ 900) : refMulText A B := by
  unfold refMulText
  obtain ⟨ha, hb, la, lb⟩ := hp
  have l1 := lim10_len (nv_lt ha)
  have l2 := lim10_len (nv_lt hb)
  have l3 : (lim10 (nvB b32 A * nvB b32 B)).length ≤ 10 * (A.length + B.length) := by
    refine lim10_len ?_
    rw [Nat.pow_add]
    exact Nat.mul_lt_mul'' (nv_lt ha) (nv_lt hb)
  rw [nv_lim10, nv_lim10, nv_lim10, decide_eq_true (⟨ha, by omega⟩ : isN A ∧ A.length ≤ 2500), decide_eq_true (⟨hb, by omega⟩ : isN B ∧ B.length ≤ 2500), decide_eq_true (⟨isD_lim _, isD_lim _, by omega, by omega⟩ : isD (lim10 (nvB b32 A)) ∧ isD (lim10 (nvB b32 B)) ∧ (lim10 (nvB b32 A)).length ≤ 20000 ∧ (lim10 (nvB b32 B)).length ≤ 20000), decide_eq_true (⟨isD_lim _, by omega⟩ : isD (lim10 (nvB b32 A * nvB b32 B)) ∧ (lim10 (nvB b32 A * nvB b32 B)).length ≤ 50000)]
  repeat' first | trivial | rfl | apply And.intro
noncomputable def refMulBCon : Con T O := fun args cs => match args, cs with
  | [.own 0, .own 1], [.ro 2 A, .ro 2 B] => chk (decide (isN A ∧ isN B ∧ A.length ≤ 900 ∧ B.length ≤ 900)) (.ret ⟨some (.own 2), [(2, some (.ro 2 (lim (nvB b32 A * nvB b32 B))))]⟩)
  | _, _ => .fail
theorem refMulBOk : ConOk R Try.prog 43 refMulBCon := con_of_fn R (X13) (TabOk.con R X13Ok) mixed Try.call43 Try.func43 refMulBCon (by
  intro args cs K h
  unfold refMulBCon at h
  split at h
  · rename_i A B
    rw [Tree.holds_chk] at h
    obtain ⟨hp, h⟩ := h
    refine ⟨noAnn, _, fun v S hv => ⟨_, h, hv⟩, ?_⟩
    rw [refMulVc A B]
    exact refMulHolds A B (of_decide_eq_true hp)
  · exact h.elim)
noncomputable def refMulCon : Con T O := relax 2 refMulBCon
theorem refMulOk : ConOk R Try.prog 43 refMulCon := relax_ok R 2 refMulBOk
/-! ### regatta/regattaref02.Add -/
def refAddText (A B : List Int) : Prop := (match (decide (isN A ∧ A.length ≤ (2500 : Nat))) with | true => (match (decide (isN B ∧ B.length ≤ (2500 : Nat))) with | true => (match (decide (isD (lim10 (nvB b32 A)) ∧ isD (lim10 (nvB b32 B)) ∧ (lim10 (nvB b32 A)).length ≤ (50000 : Nat) ∧ (lim10 (nvB b32 B)).length ≤ (50000 : Nat))) with | true => (match (decide (isD (lim10 (nvB (10 : Nat) (lim10 (nvB b32 A)) + nvB (10 : Nat) (lim10 (nvB b32 B)))) ∧ (lim10 (nvB (10 : Nat) (lim10 (nvB b32 A)) + nvB (10 : Nat) (lim10 (nvB b32 B)))).length ≤ (50000 : Nat))) with | true => ((True ∧ True) ∧ ((A = A) ∧ ((B = B) ∧ ((lim (nvB b32 A + nvB b32 B) = lim (nvB (10 : Nat) (lim10 (nvB (10 : Nat) (lim10 (nvB b32 A)) + nvB (10 : Nat) (lim10 (nvB b32 B)))))) ∧ True)))) | false => False) | false => False) | false => False) | false => False)
theorem refAddVc (A B : List Int) : fnX X13 (noAnn) Try.f44 [.own 0, .own 1] [.ro 2 A, .ro 2 B] (ends [.ro 2 A, .ro 2 B] ⟨some (.own 2), [(2, some (.ro 2 (lim (nvB b32 A + nvB b32 B))))]⟩) = refAddText A B := by kernel_rfl
theorem refAddHolds (A B : List Int) (hp : isN A ∧ isN B ∧ A.length ≤ 900 ∧ B.length ≤ 900) : refAddText A B := by
  unfold refAddText
  obtain ⟨ha, hb, la, lb⟩ := hp
  have l1 := lim10_len (nv_lt ha)
  have l2 := lim10_len (nv_lt hb)
  have l3 : (lim10 (nvB b32 A + nvB b32 B)).length ≤ 10 * (900 + 1) := add_len10 ha hb la lb
  rw [nv_lim10, nv_lim10, nv_lim10, decide_eq_true (⟨ha, by omega⟩ : isN A ∧ A.length ≤ 2500), decide_eq_true (⟨hb, by omega⟩ : isN B ∧ B.length ≤ 2500), decide_eq_true (⟨isD_lim _, isD_lim _, by omega, by omega⟩ : isD (lim10 (nvB b32 A)) ∧ isD (lim10 (nvB b32 B)) ∧ (lim10 (nvB b32 A)).length ≤ 50000 ∧ (lim10 (nvB b32 B)).length ≤ 50000), decide_eq_true (⟨isD_lim _, by omega⟩ : isD (lim10 (nvB b32 A + nvB b32 B)) ∧ (lim10 (nvB b32 A + nvB b32 B)).length ≤ 50000)]
  repeat' first | trivial | rfl | apply And.intro
noncomputable def refAddBCon : Con T O := fun args cs => match args, cs with
  | [.own 0, .own 1], [.ro 2 A, .ro 2 B] => chk (decide (isN A ∧ isN B ∧ A.length ≤ 900 ∧ B.length ≤ 900)) (.ret ⟨some (.own 2), [(2, some (.ro 2 (lim (nvB b32 A + nvB b32 B))))]⟩)
  | _, _ => .fail
theorem refAddBOk : ConOk R Try.prog 44 refAddBCon := con_of_fn R (X13) (TabOk.con R X13Ok) mixed Try.call44 Try.func44 refAddBCon (by
  intro args cs K h
  unfold refAddBCon at h
  split at h
  · rename_i A B
    rw [Tree.holds_chk] at h
    obtain ⟨hp, h⟩ := h
    refine ⟨noAnn, _, fun v S hv => ⟨_, h, hv⟩, ?_⟩
    rw [refAddVc A B]
    exact refAddHolds A B (of_decide_eq_true hp)
  · exact h.elim)
noncomputable def refAddCon : Con T O := relax 2 refAddBCon
theorem refAddOk : ConOk R Try.prog 44 refAddCon := relax_ok R 2 refAddBOk
/-! ### regatta/regattaref03.Of -/
def qOfText (e p : Int) : Prop := (match (decide ((0 : Int) ≤ IntKind.u64.wrap e ∧ IntKind.u64.wrap e < (18446744073709551616 : Int))) with | true => (match (decide ((0 : Int) ≤ IntKind.u64.wrap p ∧ IntKind.u64.wrap p < (18446744073709551616 : Int))) with | true => (((True ∧ (True ∧ True)) ∧ True) ∧ ((lim e.toNat = lim (IntKind.u64.wrap e).toNat) ∧ ((lim p.toNat = lim (IntKind.u64.wrap p).toNat) ∧ True))) | false => False) | false => False)
theorem qOfVc (e p : Int) : fnX X13 (noAnn) Try.f15 [.agg [.raw (.int .i64 e), .raw (.int .i64 p)]] [] (ends [] ⟨some (.agg [.own 0, .own 1]), [(0, some (.ro 2 (lim e.toNat))), (1, some (.ro 2 (lim p.toNat)))]⟩) = qOfText e p := by kernel_rfl
theorem qOfHolds (e p : Int) (hp : 0 ≤ e ∧ e < 9223372036854775808 ∧ 0 ≤ p ∧ p < 9223372036854775808) : qOfText e p := by
  unfold qOfText
  obtain ⟨h1, h2, h3, h4⟩ := hp
  rw [u64_id h1 (by omega), u64_id (n := p) (by omega) (by omega), decide_eq_true (show 0 ≤ e ∧ e < 18446744073709551616 by omega), decide_eq_true (show 0 ≤ p ∧ p < 18446744073709551616 by omega)]
  clear h1 h2 h3 h4
  repeat' first | apply And.intro | exact True.intro | exact rfl
noncomputable def qOfCon : Con T O := fun args cs => match args, cs with
  | [.agg [.raw (.int .i64 e), .raw (.int .i64 p)]], [] => chk (decide (0 ≤ e ∧ e < 9223372036854775808 ∧ 0 ≤ p ∧ p < 9223372036854775808)) (.ret ⟨some (.agg [.own 0, .own 1]), [(0, some (.ro 2 (lim e.toNat))), (1, some (.ro 2 (lim p.toNat)))]⟩)
  | _, _ => .fail
theorem qOfOk : ConOk R Try.prog 15 qOfCon := con_of_fn R (X13) (TabOk.con R X13Ok) mixed Try.call15 Try.func15 qOfCon (by
  intro args cs K h
  unfold qOfCon at h
  split at h
  · rename_i e p
    rw [Tree.holds_chk] at h
    obtain ⟨hp, h⟩ := h
    refine ⟨noAnn, _, fun v S hv => ⟨_, h, hv⟩, ?_⟩
    rw [qOfVc e p]
    exact qOfHolds e p (of_decide_eq_true hp)
  · exact h.elim)
noncomputable def tab14 : Tab T O := (42, refCmpCon) :: (43, refMulCon) :: (44, refAddCon) :: (15, qOfCon) :: tab13
theorem tabOk14 : TabOk R Try.prog tab14 := TabOk.cons R refCmpOk <| TabOk.cons R refMulOk <| TabOk.cons R refAddOk <| TabOk.cons R qOfOk <| tabOk13
noncomputable def X14 : Ctx T O := { X0 with con := conOf tab14 }
theorem X14Ok : TabOk R X14.P tab14 := tabOk14
end Go.Proofs.Ytmnnjclnldaejaa
