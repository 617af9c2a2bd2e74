/-
  Part of a proof over the seat Ytmnnjclnldaejaa: printed by a small program or typed by hand.
-/
import Derived.Test.YtmnnjclnldaejaaSupS4
import Derived.KernelRfl
namespace Go.Proofs.Ytmnnjclnldaejaa
open Go.Sx Go.Proofs Classical
noncomputable def natQuoBConN (nrec : Nat) : Con T O := fun args cs => match args, cs with
  | [.own 0, .own 1], [.ro 2 A, .ro 2 B] => chk (decide ((isN A ∧ isN B ∧ 0 < nvB b32 B ∧ A.length ≤ 900 ∧ B.length ≤ 901) ∧ (nvB b32 A / nvB b32 B) < nrec)) (.ret ⟨some (.tup [.own 2, .own 3]), [(2, some (.ro 2 (lim (nvB b32 A / nvB b32 B)))), (3, some (.ro 2 (lim (nvB b32 A % nvB b32 B))))]⟩)
  | _, _ => .fail
/-! ### regatta/ratio.quo -/
def natQuoText (nrec : Nat) (A B : List Int) : Prop := (match (decide (isN A ∧ isN B ∧ A.length ≤ (1000 : Nat) ∧ B.length ≤ (1000 : Nat))) with | true => (match (decide (cmpN (nvB b32 A) (nvB b32 B) < (0 : Int))) with | true => (((True ∧ (True ∧ True)) ∧ True) ∧ ((A = A) ∧ ((B = B) ∧ ((lim (nvB b32 A / nvB b32 B) = []) ∧ ((lim (nvB b32 A % nvB b32 B) = A) ∧ True))))) | false => (match (decide (isN B ∧ isN B ∧ B.length ≤ (1000 : Nat) ∧ B.length ≤ (1000 : Nat))) with | true => (match (decide ((isN A ∧ isN (lim (nvB b32 B + nvB b32 B)) ∧ (0 : Nat) < nvB b32 (lim (nvB b32 B + nvB b32 B)) ∧ A.length ≤ (900 : Nat) ∧ (lim (nvB b32 B + nvB b32 B)).length ≤ (901 : Nat)) ∧ nvB b32 A / nvB b32 (lim (nvB b32 B + nvB b32 B)) < nrec)) with | true => (match (decide (isN (lim (nvB b32 A / nvB b32 (lim (nvB b32 B + nvB b32 B)))) ∧ isN (lim (nvB b32 A / nvB b32 (lim (nvB b32 B + nvB b32 B)))) ∧ (lim (nvB b32 A / nvB b32 (lim (nvB b32 B + nvB b32 B)))).length ≤ (1000 : Nat) ∧ (lim (nvB b32 A / nvB b32 (lim (nvB b32 B + nvB b32 B)))).length ≤ (1000 : Nat))) with | true => (match (decide (isN (lim (nvB b32 A % nvB b32 (lim (nvB b32 B + nvB b32 B)))) ∧ isN B ∧ (lim (nvB b32 A % nvB b32 (lim (nvB b32 B + nvB b32 B)))).length ≤ (1000 : Nat) ∧ B.length ≤ (1000 : Nat))) with | true => (match (decide (cmpN (nvB b32 (lim (nvB b32 A % nvB b32 (lim (nvB b32 B + nvB b32 B))))) (nvB b32 B) < (0 : Int))) with | true => (((True ∧ (True ∧ True)) ∧ True) ∧ ((A = A) ∧ ((B = B) ∧ ((lim (nvB b32 A / nvB b32 B) = lim (nvB b32 (lim (nvB b32 A / nvB b32 (lim (nvB b32 B + nvB b32 B)))) + nvB b32 (lim (nvB b32 A / nvB b32 (lim (nvB b32 B + nvB b32 B)))))) ∧ ((lim (nvB b32 A % nvB b32 B) = lim (nvB b32 A % nvB b32 (lim (nvB b32 B + nvB b32 B)))) ∧ True))))) | false => (match (decide (isN (lim (nvB b32 A % nvB b32 (lim (nvB b32 B + nvB b32 B)))) ∧ isN B ∧ (lim (nvB b32 A % nvB b32 (lim (nvB b32 B + nvB b32 B)))).length ≤ (1000 : Nat) ∧ B.length ≤ (1000 : Nat))) with | true => (match (decide (isN (lim (nvB b32 (lim (nvB b32 A / nvB b32 (lim (nvB b32 B + nvB b32 B)))) + nvB b32 (lim (nvB b32 A / nvB b32 (lim (nvB b32 B + nvB b32 B)))))) ∧ isN (lim (Int.toNat (1 : Int))) ∧ (lim (nvB b32 (lim (nvB b32 A / nvB b32 (lim (nvB b32 B + nvB b32 B)))) + nvB b32 (lim (nvB b32 A / nvB b32 (lim (nvB b32 B + nvB b32 B)))))).length ≤ (1000 : Nat) ∧ (lim (Int.toNat (1 : Int))).length ≤ (1000 : Nat))) with | true => (((True ∧ (True ∧ True)) ∧ True) ∧ ((A = A) ∧ ((B = B) ∧ ((lim (nvB b32 A / nvB b32 B) = lim (nvB b32 (lim (nvB b32 (lim (nvB b32 A / nvB b32 (lim (nvB b32 B + nvB b32 B)))) + nvB b32 (lim (nvB b32 A / nvB b32 (lim (nvB b32 B + nvB b32 B)))))) + nvB b32 (lim (Int.toNat (1 : Int))))) ∧ ((lim (nvB b32 A % nvB b32 B) = lim (nvB b32 (lim (nvB b32 A % nvB b32 (lim (nvB b32 B + nvB b32 B)))) - nvB b32 B)) ∧ True))))) | false => False) | false => False)) | false => False) | false => False) | false => False) | false => False)) | false => False)
theorem natQuoVc (nrec : Nat) (A B : List Int) : fnX { X4 with con := conOf ((110, relax 2 (natQuoBConN nrec)) :: tab4) } (noAnn) Try.f110 [.own 0, .own 1] [.ro 2 A, .ro 2 B] (ends [.ro 2 A, .ro 2 B] ⟨some (.tup [.own 2, .own 3]), [(2, some (.ro 2 (lim (nvB b32 A / nvB b32 B)))), (3, some (.ro 2 (lim (nvB b32 A % nvB b32 B))))]⟩) = natQuoText nrec A B := by kernel_rfl
theorem natQuoHolds (nrec : Nat) (A B : List Int) (hp : isN A ∧ isN B ∧ 0 < nvB b32 B ∧ A.length ≤ 900 ∧ B.length ≤ 901) (hr : nvB b32 A / nvB b32 B < nrec + 1) : natQuoText nrec A B := by
  unfold natQuoText
  obtain ⟨ha, hb, h0, la, lb⟩ := hp
  rw [decide_eq_true (⟨ha, hb, by omega, by omega⟩ : isN A ∧ isN B ∧ A.length ≤ 1000 ∧ B.length ≤ 1000), decide_eq_true (⟨hb, hb, by omega, by omega⟩ : isN B ∧ isN B ∧ B.length ≤ 1000 ∧ B.length ≤ 1000)]
  generalize hva : nvB b32 A = a at hr ⊢
  generalize hvb : nvB b32 B = b at h0 hr ⊢
  by_cases hlt : a < b
  · rw [cmpN_lt hlt, show decide ((-1 : Int) < 0) = true from rfl]
    have e1 : lim (a / b) = [] := by rw [Nat.div_eq_of_lt hlt]; rfl
    have e2 : lim (a % b) = A := by rw [Nat.mod_eq_of_lt hlt, ← hva]; exact ha.symm
    repeat' first | exact e1 | exact e2 | trivial | rfl | apply And.intro
  · have hc : decide (cmpN a b < 0) = false := by
      rcases Nat.eq_or_lt_of_le (Nat.le_of_not_lt hlt) with g | g
      · rw [g, cmpN_eq]; rfl
      · rw [cmpN_gt g]; rfl
    simp only [nv_lim]
    have hd := Nat.div_add_mod a (b + b)
    have hm := Nat.mod_lt a (show 0 < b + b by omega)
    have l2 : (lim (b + b)).length ≤ A.length + 1 := len_two ha (by rw [hva]; omega)
    have l3 : (lim (a / (b + b))).length ≤ A.length := slen (Nat.div_le_self _ _) ha hva
    have l4 : (lim (a % (b + b))).length ≤ A.length := slen (Nat.mod_le _ _) ha hva
    have l5 : (lim (a / (b + b) + a / (b + b))).length ≤ A.length + 1 := len_two ha (by
      rw [hva]
      have := Nat.div_le_self a (b + b)
      omega)
    generalize hq : a / (b + b) = q at hd l3 l5 ⊢
    generalize hrr : a % (b + b) = r at hd hm l4 ⊢
    have hbq : (b + b) * q = b * (q + q) := by rw [Nat.add_mul, Nat.mul_add]
    have hab : 1 ≤ a / b := (Nat.le_div_iff_mul_le h0).2 (by omega)
    have key : (r < b ∧ a / b = q + q ∧ a % b = r) ∨ (¬ r < b ∧ a / b = q + q + 1 ∧ a % b = r - b) := by
      by_cases g : r < b
      · exact .inl ⟨g, div_of (by omega) g⟩
      · refine .inr ⟨g, div_of (q := q + q + 1) ?_ (by omega)⟩
        rw [Nat.mul_succ]
        omega
    have hqr : q < nrec := by
      rcases key with ⟨_, e, _⟩ | ⟨_, e, _⟩ <;> omega
    rw [hc, decide_eq_true (⟨⟨ha, isN_lim _, by omega, la, by omega⟩, hqr⟩ : (isN A ∧ isN (lim (b + b)) ∧ 0 < b + b ∧ A.length ≤ 900 ∧ (lim (b + b)).length ≤ 901) ∧ q < nrec), decide_eq_true (⟨isN_lim _, isN_lim _, by omega, by omega⟩ : isN (lim q) ∧ isN (lim q) ∧ (lim q).length ≤ 1000 ∧ (lim q).length ≤ 1000), decide_eq_true (⟨isN_lim _, hb, by omega, by omega⟩ : isN (lim r) ∧ isN B ∧ (lim r).length ≤ 1000 ∧ B.length ≤ 1000), decide_eq_true (⟨isN_lim _, isN_lim _, by omega, Nat.le_trans (lim_lt (k := 1) (by decide)) (by omega)⟩ : isN (lim (q + q)) ∧ isN (lim (Int.toNat 1)) ∧ (lim (q + q)).length ≤ 1000 ∧ (lim (Int.toNat 1)).length ≤ 1000)]
    rcases key with ⟨g, k1, k2⟩ | ⟨g, k1, k2⟩
    · rw [cmpN_lt g, show decide ((-1 : Int) < 0) = true from rfl, k1, k2]
      repeat' first | trivial | rfl | apply And.intro
    · have hc2 : decide (cmpN r b < 0) = false := by
        rcases Nat.eq_or_lt_of_le (Nat.le_of_not_lt g) with g | g
        · rw [g, cmpN_eq]; rfl
        · rw [cmpN_gt g]; rfl
      rw [hc2, k1, k2]
      repeat' first | trivial | rfl | apply And.intro
noncomputable def natQuoBCon : Con T O := fun args cs => match args, cs with
  | [.own 0, .own 1], [.ro 2 A, .ro 2 B] => chk (decide (isN A ∧ isN B ∧ 0 < nvB b32 B ∧ A.length ≤ 900 ∧ B.length ≤ 901)) (.ret ⟨some (.tup [.own 2, .own 3]), [(2, some (.ro 2 (lim (nvB b32 A / nvB b32 B)))), (3, some (.ro 2 (lim (nvB b32 A % nvB b32 B))))]⟩)
  | _, _ => .fail
theorem natQuoBOkN : ∀ nrec, ConOk R Try.prog 110 (natQuoBConN nrec)
  | 0 => by
    intro args cs K h
    exfalso
    unfold natQuoBConN at h
    split at h <;> first | exact h.elim | (rw [Tree.holds_chk] at h; exact Nat.not_lt_zero _ (of_decide_eq_true h.1).2)
  | nrec + 1 => con_of_fn R ({ X4 with con := conOf ((110, relax 2 (natQuoBConN nrec)) :: tab4) }) (TabOk.con R (TabOk.cons R (relax_ok R 2 (natQuoBOkN nrec)) X4Ok)) mixed Try.call110 Try.func110 (natQuoBConN (nrec + 1)) (by
    intro args cs K h
    unfold natQuoBConN at h
    split at h
    · rename_i A B
      rw [Tree.holds_chk] at h
      obtain ⟨hp, h⟩ := h
      obtain ⟨hp, hr⟩ := of_decide_eq_true hp
      refine ⟨noAnn, _, fun v S hv => ⟨_, h, hv⟩, ?_⟩
      rw [natQuoVc nrec A B]
      exact natQuoHolds nrec A B hp hr
    · exact h.elim)
theorem natQuoBOk : ConOk R Try.prog 110 natQuoBCon := by
  intro args cs K h
  unfold natQuoBCon at h
  split at h
  · rename_i A B
    rw [Tree.holds_chk] at h
    refine natQuoBOkN (nvB b32 A / nvB b32 B + 1) _ _ K ?_
    unfold natQuoBConN
    show Tree.holds K (chk _ _)
    rw [Tree.holds_chk]
    exact ⟨decide_eq_true ⟨of_decide_eq_true h.1, Nat.lt_succ_self _⟩, h.2⟩
  · exact h.elim
noncomputable def natQuoCon : Con T O := relax 2 natQuoBCon
theorem natQuoOk : ConOk R Try.prog 110 natQuoCon := relax_ok R 2 natQuoBOk
noncomputable def tab5 : Tab T O := (110, natQuoCon) :: tab4
theorem tabOk5 : TabOk R Try.prog tab5 := TabOk.cons R natQuoOk <| tabOk4
noncomputable def X5 : Ctx T O := { X0 with con := conOf tab5 }
theorem X5Ok : TabOk R X5.P tab5 := tabOk5
end Go.Proofs.Ytmnnjclnldaejaa
