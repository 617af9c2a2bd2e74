/-
  Part of a proof over the seat Ytmnnjclnldaejaa: printed by a small program or typed by hand.
-/
import Derived.Test.YtmnnjclnldaejaaSupS6
import Derived.KernelRfl
namespace Go.Proofs.Ytmnnjclnldaejaa
open Go.Sx Go.Proofs Classical

def small (A : List Int) : Prop := A.length ≤ 400
/-- a ratio: its denominator is not 0 -/
def isR (A B : List Int) : Prop := isN A ∧ isN B ∧ 0 < nvB b32 B
abbrev Qt : Type := Nat × Nat
def least (q : Qt) : Qt := (q.1 / Nat.gcd q.1 q.2, q.2 / Nat.gcd q.1 q.2)
def addQ (p q : Qt) : Qt := least (p.1 * q.2 + q.1 * p.2, p.2 * q.2)
def cmpQ (p q : Qt) : Int := cmpN (p.1 * q.2) (q.1 * p.2)
def qv (A B : List Int) : Qt := (nvB b32 A, nvB b32 B)
theorem lim_mul_len {m n a b : Nat} (h1 : m < b32 ^ a) (h2 : n < b32 ^ b) : (lim (m * n)).length ≤ a + b := by
  refine lim_lt ?_
  rw [Nat.pow_add]
  exact Nat.mul_lt_mul'' h1 h2
theorem lim_add_len {m n a : Nat} (h1 : m < b32 ^ a) (h2 : n < b32 ^ a) : (lim (m + n)).length ≤ a + 1 := by
  refine lim_lt ?_
  rw [Nat.pow_succ]
  have : b32 ^ a * 2 ≤ b32 ^ a * b32 := Nat.mul_le_mul_left _ (by decide)
  omega
theorem lim_len_lt {n : Nat} {k : Nat} (h : (lim n).length ≤ k) : n < b32 ^ k := by
  have := nvB_lt b32_gt (limB_ok b32_gt n)
  rw [nvB_limB b32_gt] at this
  exact Nat.lt_of_lt_of_le this (Nat.pow_le_pow_right (by decide) h)
theorem lim_add_len' {m n a : Nat} (h1 : (lim m).length ≤ a) (h2 : (lim n).length ≤ a) : (lim (m + n)).length ≤ a + 1 := lim_add_len (lim_len_lt h1) (lim_len_lt h2)

/-! ### regatta/ratio.Whole -/
def ratWholeText (n : Int) : Prop := (match (decide ((0 : Int) ≤ n ∧ n < (18446744073709551616 : Int))) with | true => (((True ∧ (True ∧ True)) ∧ True) ∧ ((lim n.toNat = lim n.toNat) ∧ ((lim (1 : Nat) = lim (Int.toNat (1 : Int))) ∧ True))) | false => False)
theorem ratWholeVc (n : Int) : fnX X6 (noAnn) Try.f38 [.raw (.int .u64 n)] [] (ends [] ⟨some (.agg [.own 0, .own 1]), [(0, some (.ro 2 (lim n.toNat))), (1, some (.ro 2 (lim 1)))]⟩) = ratWholeText n := by kernel_rfl
theorem ratWholeHolds (n : Int) (hp : 0 ≤ n ∧ n < 18446744073709551616) : ratWholeText n := by
  unfold ratWholeText
  rw [decide_eq_true hp]
  repeat' first | trivial | rfl | apply And.intro
noncomputable def ratWholeCon : Con T O := fun args cs => match args, cs with
  | [.raw (.int .u64 n)], [] => chk (decide (0 ≤ n ∧ n < 18446744073709551616)) (.ret ⟨some (.agg [.own 0, .own 1]), [(0, some (.ro 2 (lim n.toNat))), (1, some (.ro 2 (lim 1)))]⟩)
  | _, _ => .fail
theorem ratWholeOk : ConOk R Try.prog 38 ratWholeCon := con_of_fn R (X6) (TabOk.con R X6Ok) mixed Try.call38 Try.func38 ratWholeCon (by
  intro args cs K h
  unfold ratWholeCon at h
  split at h
  · rename_i n
    rw [Tree.holds_chk] at h
    obtain ⟨hp, h⟩ := h
    refine ⟨noAnn, _, fun v S hv => ⟨_, h, hv⟩, ?_⟩
    rw [ratWholeVc n]
    exact ratWholeHolds n (of_decide_eq_true hp)
  · exact h.elim)
/-! ### regatta/ratio.Of -/
def ratOfText (e p : Int) : Prop := (match (decide ((0 : Int) ≤ IntKind.u64.wrap (if (0 : Int) > e then (0 : Int) else e) ∧ IntKind.u64.wrap (if (0 : Int) > e then (0 : Int) else e) < (18446744073709551616 : Int))) with | true => (match (decide ((0 : Int) ≤ IntKind.u64.wrap (if (1 : Int) > p then (1 : Int) else p) ∧ IntKind.u64.wrap (if (1 : Int) > p then (1 : Int) else p) < (18446744073709551616 : Int))) with | true => (((True ∧ (True ∧ True)) ∧ True) ∧ ((lim e.toNat = lim (IntKind.u64.wrap (if (0 : Int) > e then (0 : Int) else e)).toNat) ∧ ((lim p.toNat = lim (IntKind.u64.wrap (if (1 : Int) > p then (1 : Int) else p)).toNat) ∧ True))) | false => False) | false => False)
theorem ratOfVc (e p : Int) : fnX X6 (noAnn) Try.f88 [.agg [.raw (.int .i64 e), .raw (.int .i64 p)]] [] (ends [] ⟨some (.agg [.own 0, .own 1]), [(0, some (.ro 2 (lim e.toNat))), (1, some (.ro 2 (lim p.toNat)))]⟩) = ratOfText e p := by kernel_rfl
theorem ratOfHolds (e p : Int) (hp : 0 ≤ e ∧ e < 9223372036854775808 ∧ 1 ≤ p ∧ p < 9223372036854775808) : ratOfText e p := by
  unfold ratOfText
  obtain ⟨h1, h2, h3, h4⟩ := hp
  rw [if_neg (show ¬ 0 > e by omega), if_neg (show ¬ 1 > p by omega), u64_id h1 (by omega), u64_id (n := p) (by omega) (by omega), decide_eq_true (show 0 ≤ e ∧ e < 18446744073709551616 by omega), decide_eq_true (show 0 ≤ p ∧ p < 18446744073709551616 by omega)]
  repeat' first | trivial | rfl | apply And.intro
noncomputable def ratOfCon : Con T O := fun args cs => match args, cs with
  | [.agg [.raw (.int .i64 e), .raw (.int .i64 p)]], [] => chk (decide (0 ≤ e ∧ e < 9223372036854775808 ∧ 1 ≤ p ∧ p < 9223372036854775808)) (.ret ⟨some (.agg [.own 0, .own 1]), [(0, some (.ro 2 (lim e.toNat))), (1, some (.ro 2 (lim p.toNat)))]⟩)
  | _, _ => .fail
theorem ratOfOk : ConOk R Try.prog 88 ratOfCon := con_of_fn R (X6) (TabOk.con R X6Ok) mixed Try.call88 Try.func88 ratOfCon (by
  intro args cs K h
  unfold ratOfCon at h
  split at h
  · rename_i e p
    rw [Tree.holds_chk] at h
    obtain ⟨hp, h⟩ := h
    refine ⟨noAnn, _, fun v S hv => ⟨_, h, hv⟩, ?_⟩
    rw [ratOfVc e p]
    exact ratOfHolds e p (of_decide_eq_true hp)
  · exact h.elim)
/-! ### regatta/ratio.Check -/
def ratCheckText (A B : List Int) : Prop := (match (decide (isN A ∧ A.length ≤ (1000 : Nat))) with | true => (match (decide (isN B ∧ B.length ≤ (1000 : Nat))) with | true => (((true = decide ((↑B.length : Int) > (0 : Int))) ∧ True) ∧ ((A = A) ∧ ((B = B) ∧ True))) | false => False) | false => False)
theorem ratCheckVc (A B : List Int) : fnX X6 (noAnn) Try.f108 [.agg [.own 0, .own 1]] [.ro 2 A, .ro 2 B] (ends [.ro 2 A, .ro 2 B] ⟨some (.raw (.bool true)), []⟩) = ratCheckText A B := by kernel_rfl
theorem ratCheckHolds (A B : List Int) (hp : isR A B ∧ A.length ≤ 1000 ∧ B.length ≤ 1000) : ratCheckText A B := by
  unfold ratCheckText
  obtain ⟨⟨h1, h2, h3⟩, h4, h5⟩ := hp
  rw [decide_eq_true (⟨h1, h4⟩ : isN A ∧ A.length ≤ 1000), decide_eq_true (⟨h2, h5⟩ : isN B ∧ B.length ≤ 1000)]
  have e : true = decide ((B.length : Int) > 0) := by
    have : B.length ≠ 0 := fun h0 => by rw [isN_zero h2 h0] at h3; omega
    exact (decide_eq_true (by omega)).symm
  repeat' first | exact e | trivial | rfl | apply And.intro
noncomputable def ratCheckBCon : Con T O := fun args cs => match args, cs with
  | [.agg [.own 0, .own 1]], [.ro 2 A, .ro 2 B] => chk (decide (isR A B ∧ A.length ≤ 1000 ∧ B.length ≤ 1000)) (.ret ⟨some (.raw (.bool true)), []⟩)
  | _, _ => .fail
theorem ratCheckBOk : ConOk R Try.prog 108 ratCheckBCon := con_of_fn R (X6) (TabOk.con R X6Ok) mixed Try.call108 Try.func108 ratCheckBCon (by
  intro args cs K h
  unfold ratCheckBCon at h
  split at h
  · rename_i A B
    rw [Tree.holds_chk] at h
    obtain ⟨hp, h⟩ := h
    refine ⟨noAnn, _, fun v S hv => ⟨_, h, hv⟩, ?_⟩
    rw [ratCheckVc A B]
    exact ratCheckHolds A B (of_decide_eq_true hp)
  · exact h.elim)
noncomputable def ratCheckCon : Con T O := relax 2 ratCheckBCon
theorem ratCheckOk : ConOk R Try.prog 108 ratCheckCon := relax_ok R 2 ratCheckBOk
/-! ### regatta/ratio.Cmp -/
def ratCmpText (A B C D : List Int) : Prop := (match (decide (isN A ∧ isN D ∧ A.length ≤ (1000 : Nat) ∧ D.length ≤ (1000 : Nat))) with | true => (match (decide (isN C ∧ isN B ∧ C.length ≤ (1000 : Nat) ∧ B.length ≤ (1000 : Nat))) with | true => (match (decide (isN (lim (nvB b32 A * nvB b32 D)) ∧ isN (lim (nvB b32 C * nvB b32 B)) ∧ (lim (nvB b32 A * nvB b32 D)).length ≤ (1000 : Nat) ∧ (lim (nvB b32 C * nvB b32 B)).length ≤ (1000 : Nat))) with | true => (((cmpQ (qv A B) (qv C D) = cmpN (nvB b32 (lim (nvB b32 A * nvB b32 D))) (nvB b32 (lim (nvB b32 C * nvB b32 B)))) ∧ True) ∧ ((A = A) ∧ ((B = B) ∧ ((C = C) ∧ ((D = D) ∧ True))))) | false => False) | false => False) | false => False)
theorem ratCmpVc (A B C D : List Int) : fnX X6 (noAnn) Try.f37 [.agg [.own 0, .own 1], .agg [.own 2, .own 3]] [.ro 2 A, .ro 2 B, .ro 2 C, .ro 2 D] (ends [.ro 2 A, .ro 2 B, .ro 2 C, .ro 2 D] ⟨some (.raw (.int .i64 (cmpQ (qv A B) (qv C D)))), []⟩) = ratCmpText A B C D := by kernel_rfl
theorem ratCmpHolds (A B C D : List Int) (hp : isR A B ∧ isR C D ∧ small A ∧ small B ∧ small C ∧ small D) : ratCmpText A B C D := by
  unfold ratCmpText
  obtain ⟨⟨a1, b1, b0⟩, ⟨c1, d1, d0⟩, sa, sb, sc, sd⟩ := hp
  unfold small at sa sb sc sd
  have l1 := lim_mul_len (nv_lt a1) (nv_lt d1)
  have l2 := lim_mul_len (nv_lt c1) (nv_lt b1)
  rw [decide_eq_true (⟨a1, d1, by omega, by omega⟩ : isN A ∧ isN D ∧ A.length ≤ 1000 ∧ D.length ≤ 1000), decide_eq_true (⟨c1, b1, by omega, by omega⟩ : isN C ∧ isN B ∧ C.length ≤ 1000 ∧ B.length ≤ 1000), decide_eq_true (⟨isN_lim _, isN_lim _, by omega, by omega⟩ : isN (lim (nvB b32 A * nvB b32 D)) ∧ isN (lim (nvB b32 C * nvB b32 B)) ∧ (lim (nvB b32 A * nvB b32 D)).length ≤ 1000 ∧ (lim (nvB b32 C * nvB b32 B)).length ≤ 1000)]
  have e : cmpQ (qv A B) (qv C D) = cmpN (nvB b32 (lim (nvB b32 A * nvB b32 D))) (nvB b32 (lim (nvB b32 C * nvB b32 B))) := by rw [nv_lim, nv_lim]; rfl
  repeat' first | exact e | trivial | rfl | apply And.intro
noncomputable def ratCmpBCon : Con T O := fun args cs => match args, cs with
  | [.agg [.own 0, .own 1], .agg [.own 2, .own 3]], [.ro 2 A, .ro 2 B, .ro 2 C, .ro 2 D] => chk (decide (isR A B ∧ isR C D ∧ small A ∧ small B ∧ small C ∧ small D)) (.ret ⟨some (.raw (.int .i64 (cmpQ (qv A B) (qv C D)))), []⟩)
  | _, _ => .fail
theorem ratCmpBOk : ConOk R Try.prog 37 ratCmpBCon := con_of_fn R (X6) (TabOk.con R X6Ok) mixed Try.call37 Try.func37 ratCmpBCon (by
  intro args cs K h
  unfold ratCmpBCon at h
  split at h
  · rename_i A B C D
    rw [Tree.holds_chk] at h
    obtain ⟨hp, h⟩ := h
    refine ⟨noAnn, _, fun v S hv => ⟨_, h, hv⟩, ?_⟩
    rw [ratCmpVc A B C D]
    exact ratCmpHolds A B C D (of_decide_eq_true hp)
  · exact h.elim)
noncomputable def ratCmpCon : Con T O := relax 2 ratCmpBCon
theorem ratCmpOk : ConOk R Try.prog 37 ratCmpCon := relax_ok R 2 ratCmpBOk
noncomputable def tab7 : Tab T O := (38, ratWholeCon) :: (88, ratOfCon) :: (108, ratCheckCon) :: (37, ratCmpCon) :: tab6
theorem tabOk7 : TabOk R Try.prog tab7 := TabOk.cons R ratWholeOk <| TabOk.cons R ratOfOk <| TabOk.cons R ratCheckOk <| TabOk.cons R ratCmpOk <| tabOk6
noncomputable def X7 : Ctx T O := { X0 with con := conOf tab7 }
theorem X7Ok : TabOk R X7.P tab7 := tabOk7
end Go.Proofs.Ytmnnjclnldaejaa
