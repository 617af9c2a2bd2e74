/-
  Part of a proof over the seat Ytmnnjclnldaejaa: printed by a small program or typed by hand.
-/
import Derived.Test.YtmnnjclnldaejaaSupS7
import Derived.KernelRfl
namespace Go.Proofs.Ytmnnjclnldaejaa
open Go.Sx Go.Proofs Classical
/-! ### regatta/ratio.Least -/
def ratLeastText (A B : List Int) : Prop := (match (decide (isR A B ∧ A.length ≤ (1000 : Nat) ∧ B.length ≤ (1000 : Nat))) with | true => (match (decide (isN A ∧ isN B ∧ A.length ≤ (900 : Nat) ∧ B.length ≤ (900 : Nat))) with | true => (match (decide (isN A ∧ isN (lim ((nvB b32 A).gcd (nvB b32 B))) ∧ (0 : Nat) < nvB b32 (lim ((nvB b32 A).gcd (nvB b32 B))) ∧ A.length ≤ (900 : Nat) ∧ (lim ((nvB b32 A).gcd (nvB b32 B))).length ≤ (901 : Nat))) with | true => (match (decide (isN B ∧ isN (lim ((nvB b32 A).gcd (nvB b32 B))) ∧ (0 : Nat) < nvB b32 (lim ((nvB b32 A).gcd (nvB b32 B))) ∧ B.length ≤ (900 : Nat) ∧ (lim ((nvB b32 A).gcd (nvB b32 B))).length ≤ (901 : Nat))) with | true => (((True ∧ (True ∧ True)) ∧ True) ∧ ((A = A) ∧ ((B = B) ∧ ((lim (least (qv A B)).fst = lim (nvB b32 A / nvB b32 (lim ((nvB b32 A).gcd (nvB b32 B))))) ∧ ((lim (least (qv A B)).snd = lim (nvB b32 B / nvB b32 (lim ((nvB b32 A).gcd (nvB b32 B))))) ∧ True))))) | false => False) | false => False) | false => False) | false => False)
theorem ratLeastVc (A B : List Int) : fnX X7 (noAnn) Try.f103 [.agg [.own 0, .own 1]] [.ro 2 A, .ro 2 B] (ends [.ro 2 A, .ro 2 B] ⟨some (.agg [.own 2, .own 3]), [(2, some (.ro 2 (lim (least (qv A B)).1))), (3, some (.ro 2 (lim (least (qv A B)).2)))]⟩) = ratLeastText A B := by kernel_rfl
theorem ratLeastHolds (A B : List Int) (hp : isR A B ∧ A.length ≤ 900 ∧ B.length ≤ 900) : ratLeastText A B := by
  unfold ratLeastText
  obtain ⟨⟨h1, h2, h3⟩, h4, h5⟩ := hp
  have g0 : 0 < Nat.gcd (nvB b32 A) (nvB b32 B) := Nat.gcd_pos_of_pos_right _ h3
  have gl : (lim (Nat.gcd (nvB b32 A) (nvB b32 B))).length ≤ B.length := slen (Nat.gcd_le_right _ h3) h2 rfl
  rw [decide_eq_true (⟨⟨h1, h2, h3⟩, by omega, by omega⟩ : isR A B ∧ A.length ≤ 1000 ∧ B.length ≤ 1000), decide_eq_true (⟨h1, h2, h4, h5⟩ : isN A ∧ isN B ∧ A.length ≤ 900 ∧ B.length ≤ 900), decide_eq_true (⟨h1, isN_lim _, by rw [nv_lim]; exact g0, h4, by omega⟩ : isN A ∧ isN (lim (Nat.gcd (nvB b32 A) (nvB b32 B))) ∧ 0 < nvB b32 (lim (Nat.gcd (nvB b32 A) (nvB b32 B))) ∧ A.length ≤ 900 ∧ (lim (Nat.gcd (nvB b32 A) (nvB b32 B))).length ≤ 901), decide_eq_true (⟨h2, isN_lim _, by rw [nv_lim]; exact g0, h5, by omega⟩ : isN B ∧ isN (lim (Nat.gcd (nvB b32 A) (nvB b32 B))) ∧ 0 < nvB b32 (lim (Nat.gcd (nvB b32 A) (nvB b32 B))) ∧ B.length ≤ 900 ∧ (lim (Nat.gcd (nvB b32 A) (nvB b32 B))).length ≤ 901), nv_lim]
  repeat' first | trivial | rfl | apply And.intro
noncomputable def ratLeastBCon : Con T O := fun args cs => match args, cs with
  | [.agg [.own 0, .own 1]], [.ro 2 A, .ro 2 B] => chk (decide (isR A B ∧ A.length ≤ 900 ∧ B.length ≤ 900)) (.ret ⟨some (.agg [.own 2, .own 3]), [(2, some (.ro 2 (lim (least (qv A B)).1))), (3, some (.ro 2 (lim (least (qv A B)).2)))]⟩)
  | _, _ => .fail
theorem ratLeastBOk : ConOk R Try.prog 103 ratLeastBCon := con_of_fn R (X7) (TabOk.con R X7Ok) mixed Try.call103 Try.func103 ratLeastBCon (by
  intro args cs K h
  unfold ratLeastBCon at h
  split at h
  · rename_i A B
    rw [Tree.holds_chk] at h
    obtain ⟨hp, h⟩ := h
    refine ⟨noAnn, _, fun v S hv => ⟨_, h, hv⟩, ?_⟩
    rw [ratLeastVc A B]
    exact ratLeastHolds A B (of_decide_eq_true hp)
  · exact h.elim)
noncomputable def ratLeastCon : Con T O := relax 2 ratLeastBCon
theorem ratLeastOk : ConOk R Try.prog 103 ratLeastCon := relax_ok R 2 ratLeastBOk
noncomputable def tab8 : Tab T O := (103, ratLeastCon) :: tab7
theorem tabOk8 : TabOk R Try.prog tab8 := TabOk.cons R ratLeastOk <| tabOk7
noncomputable def X8 : Ctx T O := { X0 with con := conOf tab8 }
theorem X8Ok : TabOk R X8.P tab8 := tabOk8
end Go.Proofs.Ytmnnjclnldaejaa
