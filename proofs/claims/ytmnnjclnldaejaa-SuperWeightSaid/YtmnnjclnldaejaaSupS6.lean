/-
  Part of a proof over the seat Ytmnnjclnldaejaa: printed by a small program or typed by hand.
-/
import Derived.Test.YtmnnjclnldaejaaSupS5
import Derived.KernelRfl
namespace Go.Proofs.Ytmnnjclnldaejaa
open Go.Sx Go.Proofs Classical
/-! ### regatta/ratio.gcd -/
def natGcdText (A B : List Int) : Prop := ((∃ x : List Int × List Int, (((x.fst = lim (nvB b32 x.fst)) ∧ ((x.snd = lim (nvB b32 x.snd)) ∧ ((x.fst.length ≤ (900 : Nat)) ∧ ((x.snd.length ≤ (900 : Nat)) ∧ ((nvB b32 A).gcd (nvB b32 B) = (nvB b32 x.fst).gcd (nvB b32 x.snd)))))) ∧ ((True ∧ (True ∧ True)) ∧ ((A = A) ∧ ((B = B) ∧ ((x.fst = A) ∧ ((x.snd = B) ∧ True))))))) ∧ (∀ x : List Int × List Int, (((x.fst = lim (nvB b32 x.fst)) ∧ ((x.snd = lim (nvB b32 x.snd)) ∧ ((x.fst.length ≤ (900 : Nat)) ∧ ((x.snd.length ≤ (900 : Nat)) ∧ ((nvB b32 A).gcd (nvB b32 B) = (nvB b32 x.fst).gcd (nvB b32 x.snd)))))) → (match ((↑x.snd.length : Int) == (0 : Int)) with | true => ((True ∧ True) ∧ ((A = A) ∧ ((B = B) ∧ ((lim ((nvB b32 A).gcd (nvB b32 B)) = x.fst) ∧ True)))) | false => (match (decide (isN x.fst ∧ isN x.snd ∧ (0 : Nat) < nvB b32 x.snd ∧ x.fst.length ≤ (900 : Nat) ∧ x.snd.length ≤ (901 : Nat))) with | true => (∃ x' : List Int × List Int, (((x'.fst = lim (nvB b32 x'.fst)) ∧ ((x'.snd = lim (nvB b32 x'.snd)) ∧ ((x'.fst.length ≤ (900 : Nat)) ∧ ((x'.snd.length ≤ (900 : Nat)) ∧ ((nvB b32 A).gcd (nvB b32 B) = (nvB b32 x'.fst).gcd (nvB b32 x'.snd)))))) ∧ ((nvB b32 x'.snd < nvB b32 x.snd) ∧ ((True ∧ (True ∧ True)) ∧ ((A = A) ∧ ((B = B) ∧ ((x'.fst = x.snd) ∧ ((x'.snd = lim (nvB b32 x.fst % nvB b32 x.snd)) ∧ True)))))))) | false => False)))))
theorem natGcdVc (A B : List Int) : fnX X5 (oneLoop 1 { σ := List Int × List Int, st := fun S x => ((S.keep []).new 0 (.ro 2 x.1)).new 1 (.ro 2 x.2), inv := fun _ x => isN x.1 ∧ isN x.2 ∧ x.1.length ≤ 900 ∧ x.2.length ≤ 900 ∧ Nat.gcd (nvB b32 A) (nvB b32 B) = Nat.gcd (nvB b32 x.1) (nvB b32 x.2), m := fun x => nvB b32 x.2 }) Try.f109 [.own 0, .own 1] [.ro 2 A, .ro 2 B] (ends [.ro 2 A, .ro 2 B] ⟨some (.own 2), [(2, some (.ro 2 (lim (Nat.gcd (nvB b32 A) (nvB b32 B)))))]⟩) = natGcdText A B := by kernel_rfl
theorem natGcdHolds (A B : List Int) (hp : isN A ∧ isN B ∧ A.length ≤ 900 ∧ B.length ≤ 900) : natGcdText A B := by
  unfold natGcdText
  obtain ⟨ha, hb, la, lb⟩ := hp
  refine ⟨⟨(A, B), ⟨ha, hb, la, lb, rfl⟩, by repeat' first | trivial | rfl | apply And.intro⟩, ?_⟩
  rintro ⟨P, Q⟩ ⟨h1, h2, h3, h4, h5⟩
  dsimp only at h1 h2 h3 h4 h5 ⊢
  have hQ : isN Q := h2
  by_cases h : Q.length = 0
  · rw [show ((Q.length : Int) == 0) = true by rw [h]; rfl]
    have e : lim (Nat.gcd (nvB b32 A) (nvB b32 B)) = P := by
      rw [h5, isN_zero hQ h, Nat.gcd_zero_right]
      exact h1.symm
    repeat' first | exact e | trivial | rfl | apply And.intro
  · have hpos := isN_pos hQ h
    rw [show ((Q.length : Int) == 0) = false by rw [beq_eq_false_iff_ne]; omega, decide_eq_true (⟨h1, hQ, hpos, h3, by omega⟩ : isN P ∧ isN Q ∧ 0 < nvB b32 Q ∧ P.length ≤ 900 ∧ Q.length ≤ 901)]
    have hm := Nat.mod_lt (nvB b32 P) hpos
    refine ⟨(Q, lim (nvB b32 P % nvB b32 Q)), ⟨h2, isN_lim _, h4, Nat.le_trans (slen (Nat.mod_le _ _) (A := P) h1 rfl) h3, ?_⟩, ?_, ?_⟩
    · dsimp only
      rw [nv_lim, h5, Nat.gcd_comm, Nat.gcd_rec, Nat.gcd_comm]
    · dsimp only
      rw [nv_lim]
      exact hm
    · repeat' first | trivial | rfl | apply And.intro
noncomputable def natGcdBCon : Con T O := fun args cs => match args, cs with
  | [.own 0, .own 1], [.ro 2 A, .ro 2 B] => chk (decide (isN A ∧ isN B ∧ A.length ≤ 900 ∧ B.length ≤ 900)) (.ret ⟨some (.own 2), [(2, some (.ro 2 (lim (Nat.gcd (nvB b32 A) (nvB b32 B)))))]⟩)
  | _, _ => .fail
theorem natGcdBOk : ConOk R Try.prog 109 natGcdBCon := con_of_fn R (X5) (TabOk.con R X5Ok) mixed Try.call109 Try.func109 natGcdBCon (by
  intro args cs K h
  unfold natGcdBCon at h
  split at h
  · rename_i A B
    rw [Tree.holds_chk] at h
    obtain ⟨hp, h⟩ := h
    refine ⟨oneLoop 1 { σ := List Int × List Int, st := fun S x => ((S.keep []).new 0 (.ro 2 x.1)).new 1 (.ro 2 x.2), inv := fun _ x => isN x.1 ∧ isN x.2 ∧ x.1.length ≤ 900 ∧ x.2.length ≤ 900 ∧ Nat.gcd (nvB b32 A) (nvB b32 B) = Nat.gcd (nvB b32 x.1) (nvB b32 x.2), m := fun x => nvB b32 x.2 }, _, fun v S hv => ⟨_, h, hv⟩, ?_⟩
    rw [natGcdVc A B]
    exact natGcdHolds A B (of_decide_eq_true hp)
  · exact h.elim)
noncomputable def natGcdCon : Con T O := relax 2 natGcdBCon
theorem natGcdOk : ConOk R Try.prog 109 natGcdCon := relax_ok R 2 natGcdBOk
noncomputable def tab6 : Tab T O := (109, natGcdCon) :: tab5
theorem tabOk6 : TabOk R Try.prog tab6 := TabOk.cons R natGcdOk <| tabOk5
noncomputable def X6 : Ctx T O := { X0 with con := conOf tab6 }
theorem X6Ok : TabOk R X6.P tab6 := tabOk6
end Go.Proofs.Ytmnnjclnldaejaa
