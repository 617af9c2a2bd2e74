/-
  Part of a proof over the seat Ytjhkokdcjikkiaa: printed by a small program or typed by hand.
-/
import Derived.Test.YtjhkokdcjikkiaaPrioS9
import Derived.KernelRfl
namespace Go.Proofs.Ytjhkokdcjikkiaa
open Go.Sx Go.Proofs Classical
/-! ### regatta/prio.Sort -/
def pSortK0Text (L : List Ent) : Prop := (match (decide (L.length ≤ (20 : Nat))) with | true => ((True ∧ True) ∧ ((L = L) ∧ ((isortN L L.length = isortN L L.length) ∧ True))) | false => False)
theorem pSortK0Vc (L : List Ent) : fnX X9 (noAnn) Try.f14 [.own 0] [.ro 2 L] (ends [.ro 2 L] ⟨some (.own 1), [(1, some (.vec 2 (isortN L L.length) 25))]⟩) = pSortK0Text L := by kernel_rfl
theorem pSortK0Holds (L : List Ent) (hp : L.length ≤ 20) : pSortK0Text L := by
  unfold pSortK0Text
  simp only [hp, decide_true]
  repeat' first | trivial | rfl | apply And.intro
def pSortK1Text (L : List Ent) : Prop := (match (decide (L.length ≤ (20 : Nat))) with | true => ((True ∧ True) ∧ ((L = L) ∧ ((isortN L L.length = isortN L L.length) ∧ True))) | false => False)
theorem pSortK1Vc (L : List Ent) : fnX X9 (noAnn) Try.f14 [.own 0] [.vec 2 L 25] (ends [.vec 2 L 25] ⟨some (.own 1), [(0, some (.vec 2 L 25)), (1, some (.vec 2 (isortN L L.length) 25))]⟩) = pSortK1Text L := by kernel_rfl
theorem pSortK1Holds (L : List Ent) (hp : L.length ≤ 20) : pSortK1Text L := by
  unfold pSortK1Text
  simp only [hp, decide_true]
  repeat' first | trivial | rfl | apply And.intro
noncomputable def pSortCon : Con T O := fun args cs => match args, cs with
  | [.own 0], [.ro 2 L] => chk (decide (L.length ≤ 20)) (.ret ⟨some (.own 1), [(1, some (.vec 2 (isortN L L.length) 25))]⟩)
  | [.own 0], [.vec 2 L 25] => chk (decide (L.length ≤ 20)) (.ret ⟨some (.own 1), [(0, some (.vec 2 L 25)), (1, some (.vec 2 (isortN L L.length) 25))]⟩)
  | _, _ => .fail
theorem pSortOk : ConOk R Try.prog 14 pSortCon := con_of_fn R (X9) (TabOk.con R X9Ok) mixed Try.call14 Try.func14 pSortCon (by
  intro args cs K h
  unfold pSortCon at h
  split at h
  · rename_i L
    rw [Tree.holds_chk] at h
    obtain ⟨hp, h⟩ := h
    refine ⟨noAnn, _, fun v S hv => ⟨_, h, hv⟩, ?_⟩
    rw [pSortK0Vc L]
    exact pSortK0Holds L (of_decide_eq_true hp)
  · rename_i L
    rw [Tree.holds_chk] at h
    obtain ⟨hp, h⟩ := h
    refine ⟨noAnn, _, fun v S hv => ⟨_, h, hv⟩, ?_⟩
    rw [pSortK1Vc L]
    exact pSortK1Holds L (of_decide_eq_true hp)
  · exact h.elim)
noncomputable def tab10 : Tab T O := (14, pSortCon) :: tab9
theorem tabOk10 : TabOk R Try.prog tab10 := TabOk.cons R pSortOk <| tabOk9
noncomputable def X10 : Ctx T O := { X0 with con := conOf tab10 }
theorem X10Ok : TabOk R X10.P tab10 := tabOk10
end Go.Proofs.Ytjhkokdcjikkiaa
