/-
  Part of a proof over the seat Ytmnnjclnldaejaa: printed by a small program or typed by hand.
-/
import Derived.Test.YtmnnjclnldaejaaSupS8
import Derived.KernelRfl
namespace Go.Proofs.Ytmnnjclnldaejaa
open Go.Sx Go.Proofs Classical
/-! ### regatta/ratio.Add -/
def ratAddText (A B C D : List Int) : Prop := (match (decide (isN A ∧ isN D ∧ A.length ≤ (1000 : Nat) ∧ D.length ≤ (1000 : Nat))) with | true => (match (decide (isN C ∧ isN B ∧ C.length ≤ (1000 : Nat) ∧ B.length ≤ (1000 : Nat))) with | true => (match (decide (isN (lim (nvB b32 A * nvB b32 D)) ∧ isN (lim (nvB b32 C * nvB b32 B)) ∧ (lim (nvB b32 A * nvB b32 D)).length ≤ (1000 : Nat) ∧ (lim (nvB b32 C * nvB b32 B)).length ≤ (1000 : Nat))) with | true => (match (decide (isN B ∧ isN D ∧ B.length ≤ (1000 : Nat) ∧ D.length ≤ (1000 : Nat))) with | true => (match (decide (isR (lim (nvB b32 (lim (nvB b32 A * nvB b32 D)) + nvB b32 (lim (nvB b32 C * nvB b32 B)))) (lim (nvB b32 B * nvB b32 D)) ∧ (lim (nvB b32 (lim (nvB b32 A * nvB b32 D)) + nvB b32 (lim (nvB b32 C * nvB b32 B)))).length ≤ (900 : Nat) ∧ (lim (nvB b32 B * nvB b32 D)).length ≤ (900 : Nat))) with | true => (((True ∧ (True ∧ True)) ∧ True) ∧ ((A = A) ∧ ((B = B) ∧ ((C = C) ∧ ((D = D) ∧ ((lim (addQ (qv A B) (qv C D)).fst = lim (least (qv (lim (nvB b32 (lim (nvB b32 A * nvB b32 D)) + nvB b32 (lim (nvB b32 C * nvB b32 B)))) (lim (nvB b32 B * nvB b32 D)))).fst) ∧ ((lim (addQ (qv A B) (qv C D)).snd = lim (least (qv (lim (nvB b32 (lim (nvB b32 A * nvB b32 D)) + nvB b32 (lim (nvB b32 C * nvB b32 B)))) (lim (nvB b32 B * nvB b32 D)))).snd) ∧ True))))))) | false => False) | false => False) | false => False) | false => False) | false => False)
theorem ratAddVc (A B C D : List Int) : fnX X8 (noAnn) Try.f87 [.agg [.own 0, .own 1], .agg [.own 2, .own 3]] [.ro 2 A, .ro 2 B, .ro 2 C, .ro 2 D] (ends [.ro 2 A, .ro 2 B, .ro 2 C, .ro 2 D] ⟨some (.agg [.own 4, .own 5]), [(4, some (.ro 2 (lim (addQ (qv A B) (qv C D)).1))), (5, some (.ro 2 (lim (addQ (qv A B) (qv C D)).2)))]⟩) = ratAddText A B C D := by kernel_rfl
theorem ratAddHolds (A B C D : List Int) (hp : isR A B ∧ isR C D ∧ small A ∧ small B ∧ small C ∧ small D) : ratAddText A B C D := by
  unfold ratAddText
  obtain ⟨⟨a1, b1, b0⟩, ⟨c1, d1, d0⟩, sa, sb, sc, sd⟩ := hp
  unfold small at sa sb sc sd
  have l1 := lim_mul_len (nv_lt a1) (nv_lt d1)
  have l2 := lim_mul_len (nv_lt c1) (nv_lt b1)
  have l3 := lim_mul_len (nv_lt b1) (nv_lt d1)
  have l4 : (lim (nvB b32 A * nvB b32 D + nvB b32 C * nvB b32 B)).length ≤ 801 := lim_add_len' (a := 800) (by omega) (by omega)
  rw [decide_eq_true (⟨a1, d1, by omega, by omega⟩ : isN A ∧ isN D ∧ A.length ≤ 1000 ∧ D.length ≤ 1000), decide_eq_true (⟨c1, b1, by omega, by omega⟩ : isN C ∧ isN B ∧ C.length ≤ 1000 ∧ B.length ≤ 1000), decide_eq_true (⟨isN_lim _, isN_lim _, by omega, by omega⟩ : isN (lim (nvB b32 A * nvB b32 D)) ∧ isN (lim (nvB b32 C * nvB b32 B)) ∧ (lim (nvB b32 A * nvB b32 D)).length ≤ 1000 ∧ (lim (nvB b32 C * nvB b32 B)).length ≤ 1000), decide_eq_true (⟨b1, d1, by omega, by omega⟩ : isN B ∧ isN D ∧ B.length ≤ 1000 ∧ D.length ≤ 1000)]
  rw [nv_lim, nv_lim, decide_eq_true (⟨⟨isN_lim _, isN_lim _, by rw [nv_lim]; exact Nat.mul_pos b0 d0⟩, by omega, by omega⟩ : isR (lim (nvB b32 A * nvB b32 D + nvB b32 C * nvB b32 B)) (lim (nvB b32 B * nvB b32 D)) ∧ (lim (nvB b32 A * nvB b32 D + nvB b32 C * nvB b32 B)).length ≤ 900 ∧ (lim (nvB b32 B * nvB b32 D)).length ≤ 900)]
  have e : qv (lim (nvB b32 A * nvB b32 D + nvB b32 C * nvB b32 B)) (lim (nvB b32 B * nvB b32 D)) = (nvB b32 A * nvB b32 D + nvB b32 C * nvB b32 B, nvB b32 B * nvB b32 D) := by unfold qv; rw [nv_lim, nv_lim]
  rw [e]
  repeat' first | trivial | rfl | apply And.intro
noncomputable def ratAddBCon : Con T O := fun args cs => match args, cs with
  | [.agg [.own 0, .own 1], .agg [.own 2, .own 3]], [.ro 2 A, .ro 2 B, .ro 2 C, .ro 2 D] => chk (decide (isR A B ∧ isR C D ∧ small A ∧ small B ∧ small C ∧ small D)) (.ret ⟨some (.agg [.own 4, .own 5]), [(4, some (.ro 2 (lim (addQ (qv A B) (qv C D)).1))), (5, some (.ro 2 (lim (addQ (qv A B) (qv C D)).2)))]⟩)
  | _, _ => .fail
theorem ratAddBOk : ConOk R Try.prog 87 ratAddBCon := con_of_fn R (X8) (TabOk.con R X8Ok) mixed Try.call87 Try.func87 ratAddBCon (by
  intro args cs K h
  unfold ratAddBCon at h
  split at h
  · rename_i A B C D
    rw [Tree.holds_chk] at h
    obtain ⟨hp, h⟩ := h
    refine ⟨noAnn, _, fun v S hv => ⟨_, h, hv⟩, ?_⟩
    rw [ratAddVc A B C D]
    exact ratAddHolds A B C D (of_decide_eq_true hp)
  · exact h.elim)
noncomputable def ratAddCon : Con T O := relax 2 ratAddBCon
theorem ratAddOk : ConOk R Try.prog 87 ratAddCon := relax_ok R 2 ratAddBOk
noncomputable def tab9 : Tab T O := (87, ratAddCon) :: tab8
theorem tabOk9 : TabOk R Try.prog tab9 := TabOk.cons R ratAddOk <| tabOk8
noncomputable def X9 : Ctx T O := { X0 with con := conOf tab9 }
theorem X9Ok : TabOk R X9.P tab9 := tabOk9
end Go.Proofs.Ytmnnjclnldaejaa
