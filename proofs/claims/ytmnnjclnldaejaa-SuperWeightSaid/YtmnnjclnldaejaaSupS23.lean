/-
  Part of a proof over the seat Ytmnnjclnldaejaa: printed by a small program or typed by hand.
-/
import Derived.Test.YtmnnjclnldaejaaSupS22
import Derived.KernelRfl
namespace Go.Proofs.Ytmnnjclnldaejaa
open Go.Sx Go.Proofs Classical
/-! ### regatta/super.Check -/
def supCheckText (L : List Part) : Prop := (match (decide ((↑L.length : Int) > (0 : Int))) with | true => (match (decide ((↑L.length : Int) ≤ (8 : Int))) with | true => (match (decide (L.length ≤ (100000 : Nat))) with | true => (((checkL L = !L.any badPart) ∧ True) ∧ ((L = L) ∧ True)) | false => False) | false => (((checkL L = false) ∧ True) ∧ ((L = L) ∧ True))) | false => (((checkL L = false) ∧ True) ∧ ((L = L) ∧ True)))
theorem supCheckVc (L : List Part) : fnX X22 (noAnn) Try.f33 [.own 0] [.ro 3 L] (ends [.ro 3 L] ⟨some (.raw (.bool (checkL L))), []⟩) = supCheckText L := by kernel_rfl
theorem supCheckHolds (L : List Part) (hp : L.length ≤ 100000) : supCheckText L := by
  unfold supCheckText
  have hb : L.all okPart = !L.any badPart := any_bad L
  rw [decide_eq_true hp]
  by_cases g : 1 ≤ L.length
  · rw [show decide ((L.length : Int) > 0) = true from decide_eq_true (by omega)]
    by_cases k : L.length ≤ 8
    · rw [show decide ((L.length : Int) ≤ 8) = true from decide_eq_true (by omega)]
      have e : checkL L = !L.any badPart := by unfold checkL; rw [hb, decide_eq_true g, decide_eq_true k, Bool.true_and, Bool.true_and]
      repeat' first | exact e | trivial | rfl | apply And.intro
    · rw [show decide ((L.length : Int) ≤ 8) = false from decide_eq_false (by omega)]
      have e : checkL L = false := by unfold checkL; rw [decide_eq_false k, Bool.and_false, Bool.false_and]
      repeat' first | exact e | trivial | rfl | apply And.intro
  · rw [show decide ((L.length : Int) > 0) = false from decide_eq_false (by omega)]
    have e : checkL L = false := by unfold checkL; rw [decide_eq_false g, Bool.false_and, Bool.false_and]
    repeat' first | exact e | trivial | rfl | apply And.intro
noncomputable def supCheckBCon : Con T O := fun args cs => match args, cs with
  | [.own 0], [.ro 3 L] => chk (decide (L.length ≤ 100000)) (.ret ⟨some (.raw (.bool (checkL L))), []⟩)
  | _, _ => .fail
theorem supCheckBOk : ConOk R Try.prog 33 supCheckBCon := con_of_fn R (X22) (TabOk.con R X22Ok) mixed Try.call33 Try.func33 supCheckBCon (by
  intro args cs K h
  unfold supCheckBCon at h
  split at h
  · rename_i L
    rw [Tree.holds_chk] at h
    obtain ⟨hp, h⟩ := h
    refine ⟨noAnn, _, fun v S hv => ⟨_, h, hv⟩, ?_⟩
    rw [supCheckVc L]
    exact supCheckHolds L (of_decide_eq_true hp)
  · exact h.elim)
noncomputable def supCheckCon : Con T O := relax 3 supCheckBCon
theorem supCheckOk : ConOk R Try.prog 33 supCheckCon := relax_ok R 3 supCheckBOk
noncomputable def tab23 : Tab T O := (33, supCheckCon) :: tab22
theorem tabOk23 : TabOk R Try.prog tab23 := TabOk.cons R supCheckOk <| tabOk22
noncomputable def X23 : Ctx T O := { X0 with con := conOf tab23 }
theorem X23Ok : TabOk R X23.P tab23 := tabOk23
end Go.Proofs.Ytmnnjclnldaejaa
