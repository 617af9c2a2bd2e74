/-
  Part of a proof over the seat Ytmnnjclnldaejaa: printed by a small program or typed by hand.
-/
import Derived.Test.YtmnnjclnldaejaaSupS14
import Derived.KernelRfl
namespace Go.Proofs.Ytmnnjclnldaejaa
open Go.Sx Go.Proofs Classical

/-- a sum as it comes -/
def plusQ (p q : Qt) : Qt := (p.1 * q.2 + q.1 * p.2, p.2 * q.2)
/-! ### regatta/regattaref03.Cmp -/
def qCmpText (A B C D : List Int) : Prop := (match (decide (isN A ∧ isN D ∧ A.length ≤ (900 : Nat) ∧ D.length ≤ (900 : Nat))) with | true => (match (decide (isN C ∧ isN B ∧ C.length ≤ (900 : Nat) ∧ B.length ≤ (900 : Nat))) with | true => (match (decide (isN (lim (nvB b32 A * nvB b32 D)) ∧ isN (lim (nvB b32 C * nvB b32 B)) ∧ (lim (nvB b32 A * nvB b32 D)).length ≤ (900 : Nat) ∧ (lim (nvB b32 C * nvB b32 B)).length ≤ (900 : Nat))) with | true => (((cmpQ (qv A B) (qv C D) = cmpN (nvB b32 (lim (nvB b32 A * nvB b32 D))) (nvB b32 (lim (nvB b32 C * nvB b32 B)))) ∧ True) ∧ ((A = A) ∧ ((B = B) ∧ ((C = C) ∧ ((D = D) ∧ True))))) | false => False) | false => False) | false => False)
theorem qCmpVc (A B C D : List Int) : fnX X14 (noAnn) Try.f16 [.agg [.own 0, .own 1], .agg [.own 2, .own 3]] [.ro 2 A, .ro 2 B, .ro 2 C, .ro 2 D] (ends [.ro 2 A, .ro 2 B, .ro 2 C, .ro 2 D] ⟨some (.raw (.int .i64 (cmpQ (qv A B) (qv C D)))), []⟩) = qCmpText A B C D := by kernel_rfl
theorem qCmpHolds (A B C D : List Int) (hp : isR A B ∧ isR C D ∧ small A ∧ small B ∧ small C ∧ small D) : qCmpText A B C D := by
  unfold qCmpText
  obtain ⟨⟨a1, b1, b0⟩, ⟨c1, d1, d0⟩, sa, sb, sc, sd⟩ := hp
  unfold small at sa sb sc sd
  have l1 := lim_mul_len (nv_lt a1) (nv_lt d1)
  have l2 := lim_mul_len (nv_lt c1) (nv_lt b1)
  rw [decide_eq_true (⟨a1, d1, by omega, by omega⟩ : isN A ∧ isN D ∧ A.length ≤ 900 ∧ D.length ≤ 900), decide_eq_true (⟨c1, b1, by omega, by omega⟩ : isN C ∧ isN B ∧ C.length ≤ 900 ∧ B.length ≤ 900), decide_eq_true (⟨isN_lim _, isN_lim _, by omega, by omega⟩ : isN (lim (nvB b32 A * nvB b32 D)) ∧ isN (lim (nvB b32 C * nvB b32 B)) ∧ (lim (nvB b32 A * nvB b32 D)).length ≤ 900 ∧ (lim (nvB b32 C * nvB b32 B)).length ≤ 900)]
  have e : cmpQ (qv A B) (qv C D) = cmpN (nvB b32 (lim (nvB b32 A * nvB b32 D))) (nvB b32 (lim (nvB b32 C * nvB b32 B))) := by rw [nv_lim, nv_lim]; rfl
  repeat' first | exact e | trivial | rfl | apply And.intro
noncomputable def qCmpBCon : Con T O := fun args cs => match args, cs with
  | [.agg [.own 0, .own 1], .agg [.own 2, .own 3]], [.ro 2 A, .ro 2 B, .ro 2 C, .ro 2 D] => chk (decide (isR A B ∧ isR C D ∧ small A ∧ small B ∧ small C ∧ small D)) (.ret ⟨some (.raw (.int .i64 (cmpQ (qv A B) (qv C D)))), []⟩)
  | _, _ => .fail
theorem qCmpBOk : ConOk R Try.prog 16 qCmpBCon := con_of_fn R (X14) (TabOk.con R X14Ok) mixed Try.call16 Try.func16 qCmpBCon (by
  intro args cs K h
  unfold qCmpBCon at h
  split at h
  · rename_i A B C D
    rw [Tree.holds_chk] at h
    obtain ⟨hp, h⟩ := h
    refine ⟨noAnn, _, fun v S hv => ⟨_, h, hv⟩, ?_⟩
    rw [qCmpVc A B C D]
    exact qCmpHolds A B C D (of_decide_eq_true hp)
  · exact h.elim)
noncomputable def qCmpCon : Con T O := relax 2 qCmpBCon
theorem qCmpOk : ConOk R Try.prog 16 qCmpCon := relax_ok R 2 qCmpBOk
/-! ### regatta/regattaref03.Plus -/
def qPlusText (A B C D : List Int) : Prop := (match (decide (isN A ∧ isN D ∧ A.length ≤ (900 : Nat) ∧ D.length ≤ (900 : Nat))) with | true => (match (decide (isN C ∧ isN B ∧ C.length ≤ (900 : Nat) ∧ B.length ≤ (900 : Nat))) with | true => (match (decide (isN (lim (nvB b32 A * nvB b32 D)) ∧ isN (lim (nvB b32 C * nvB b32 B)) ∧ (lim (nvB b32 A * nvB b32 D)).length ≤ (900 : Nat) ∧ (lim (nvB b32 C * nvB b32 B)).length ≤ (900 : Nat))) with | true => (match (decide (isN B ∧ isN D ∧ B.length ≤ (900 : Nat) ∧ D.length ≤ (900 : Nat))) with | true => (((True ∧ (True ∧ True)) ∧ True) ∧ ((A = A) ∧ ((B = B) ∧ ((C = C) ∧ ((D = D) ∧ ((lim (plusQ (qv A B) (qv C D)).fst = lim (nvB b32 (lim (nvB b32 A * nvB b32 D)) + nvB b32 (lim (nvB b32 C * nvB b32 B)))) ∧ ((lim (plusQ (qv A B) (qv C D)).snd = lim (nvB b32 B * nvB b32 D)) ∧ True))))))) | false => False) | false => False) | false => False) | false => False)
theorem qPlusVc (A B C D : List Int) : fnX X14 (noAnn) Try.f17 [.agg [.own 0, .own 1], .agg [.own 2, .own 3]] [.ro 2 A, .ro 2 B, .ro 2 C, .ro 2 D] (ends [.ro 2 A, .ro 2 B, .ro 2 C, .ro 2 D] ⟨some (.agg [.own 4, .own 5]), [(4, some (.ro 2 (lim (plusQ (qv A B) (qv C D)).1))), (5, some (.ro 2 (lim (plusQ (qv A B) (qv C D)).2)))]⟩) = qPlusText A B C D := by kernel_rfl
theorem qPlusHolds (A B C D : List Int) (hp : isR A B ∧ isR C D ∧ small A ∧ small B ∧ small C ∧ small D) : qPlusText A B C D := by
  unfold qPlusText
  obtain ⟨⟨a1, b1, b0⟩, ⟨c1, d1, d0⟩, sa, sb, sc, sd⟩ := hp
  unfold small at sa sb sc sd
  have l1 := lim_mul_len (nv_lt a1) (nv_lt d1)
  have l2 := lim_mul_len (nv_lt c1) (nv_lt b1)
  rw [decide_eq_true (⟨a1, d1, by omega, by omega⟩ : isN A ∧ isN D ∧ A.length ≤ 900 ∧ D.length ≤ 900), decide_eq_true (⟨c1, b1, by omega, by omega⟩ : isN C ∧ isN B ∧ C.length ≤ 900 ∧ B.length ≤ 900), decide_eq_true (⟨isN_lim _, isN_lim _, by omega, by omega⟩ : isN (lim (nvB b32 A * nvB b32 D)) ∧ isN (lim (nvB b32 C * nvB b32 B)) ∧ (lim (nvB b32 A * nvB b32 D)).length ≤ 900 ∧ (lim (nvB b32 C * nvB b32 B)).length ≤ 900), decide_eq_true (⟨b1, d1, by omega, by omega⟩ : isN B ∧ isN D ∧ B.length ≤ 900 ∧ D.length ≤ 900), nv_lim, nv_lim]
  repeat' first | trivial | rfl | apply And.intro
noncomputable def qPlusBCon : Con T O := fun args cs => match args, cs with
  | [.agg [.own 0, .own 1], .agg [.own 2, .own 3]], [.ro 2 A, .ro 2 B, .ro 2 C, .ro 2 D] => chk (decide (isR A B ∧ isR C D ∧ small A ∧ small B ∧ small C ∧ small D)) (.ret ⟨some (.agg [.own 4, .own 5]), [(4, some (.ro 2 (lim (plusQ (qv A B) (qv C D)).1))), (5, some (.ro 2 (lim (plusQ (qv A B) (qv C D)).2)))]⟩)
  | _, _ => .fail
theorem qPlusBOk : ConOk R Try.prog 17 qPlusBCon := con_of_fn R (X14) (TabOk.con R X14Ok) mixed Try.call17 Try.func17 qPlusBCon (by
  intro args cs K h
  unfold qPlusBCon at h
  split at h
  · rename_i A B C D
    rw [Tree.holds_chk] at h
    obtain ⟨hp, h⟩ := h
    refine ⟨noAnn, _, fun v S hv => ⟨_, h, hv⟩, ?_⟩
    rw [qPlusVc A B C D]
    exact qPlusHolds A B C D (of_decide_eq_true hp)
  · exact h.elim)
noncomputable def qPlusCon : Con T O := relax 2 qPlusBCon
theorem qPlusOk : ConOk R Try.prog 17 qPlusCon := relax_ok R 2 qPlusBOk
noncomputable def tab15 : Tab T O := (16, qCmpCon) :: (17, qPlusCon) :: tab14
theorem tabOk15 : TabOk R Try.prog tab15 := TabOk.cons R qCmpOk <| TabOk.cons R qPlusOk <| tabOk14
noncomputable def X15 : Ctx T O := { X0 with con := conOf tab15 }
theorem X15Ok : TabOk R X15.P tab15 := tabOk15
end Go.Proofs.Ytmnnjclnldaejaa
