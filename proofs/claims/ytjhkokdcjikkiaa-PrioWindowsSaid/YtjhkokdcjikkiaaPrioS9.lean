/-
  Part of a proof over the seat Ytjhkokdcjikkiaa: printed by a small program or typed by hand.
-/
import Derived.Test.YtjhkokdcjikkiaaPrioS8
import Derived.KernelRfl
namespace Go.Proofs.Ytjhkokdcjikkiaa
open Go.Sx Go.Proofs Classical
/-! ### slices.SortedStableFunc[regatta/api.Entry] -/
def sortedSK0Text (L : List Ent) : Prop := (match (decide (L.length ≤ (1000 : Nat))) with | true => (match (decide (L.length ≤ (20 : Nat))) with | true => ((True ∧ True) ∧ ((True ∧ True) ∧ ((L = L) ∧ ((isortN L L.length = isortN L L.length) ∧ True)))) | false => False) | false => False)
theorem sortedSK0Vc (L : List Ent) : fnX X8 (noAnn) Try.f28 [.fn 41 [.ptr 0 0], .fn 22 []] [.cells [.own 1] 37, .ro 2 L] (ends [.cells [.own 1] 37, .ro 2 L] ⟨some (.own 2), [(2, some (.vec 2 (isortN L L.length) 25))]⟩) = sortedSK0Text L := by kernel_rfl
theorem sortedSK0Holds (L : List Ent) (hp : L.length ≤ 20) : sortedSK0Text L := by
  unfold sortedSK0Text
  simp only [hp, (show L.length ≤ 1000 by omega), decide_true]
  repeat' first | trivial | rfl | apply And.intro
def sortedSK1Text (L : List Ent) : Prop := (match (decide (L.length ≤ (1000 : Nat))) with | true => (match (decide (L.length ≤ (20 : Nat))) with | true => ((True ∧ True) ∧ ((True ∧ True) ∧ ((L = L) ∧ ((isortN L L.length = isortN L L.length) ∧ True)))) | false => False) | false => False)
theorem sortedSK1Vc (L : List Ent) : fnX X8 (noAnn) Try.f28 [.fn 41 [.ptr 0 0], .fn 22 []] [.cells [.own 1] 37, .vec 2 L 25] (ends [.cells [.own 1] 37, .vec 2 L 25] ⟨some (.own 2), [(1, some (.vec 2 L 25)), (2, some (.vec 2 (isortN L L.length) 25))]⟩) = sortedSK1Text L := by kernel_rfl
theorem sortedSK1Holds (L : List Ent) (hp : L.length ≤ 20) : sortedSK1Text L := by
  unfold sortedSK1Text
  simp only [hp, (show L.length ≤ 1000 by omega), decide_true]
  repeat' first | trivial | rfl | apply And.intro
noncomputable def sortedSCon : Con T O := fun args cs => match args, cs with
  | [.fn 41 [.ptr 0 0], .fn 22 []], [.cells [.own 1] 37, .ro 2 L] => chk (decide (L.length ≤ 20)) (.ret ⟨some (.own 2), [(2, some (.vec 2 (isortN L L.length) 25))]⟩)
  | [.fn 41 [.ptr 0 0], .fn 22 []], [.cells [.own 1] 37, .vec 2 L 25] => chk (decide (L.length ≤ 20)) (.ret ⟨some (.own 2), [(1, some (.vec 2 L 25)), (2, some (.vec 2 (isortN L L.length) 25))]⟩)
  | _, _ => .fail
theorem sortedSOk : ConOk R Try.prog 28 sortedSCon := con_of_fn R (X8) (TabOk.con R X8Ok) mixed Try.call28 Try.func28 sortedSCon (by
  intro args cs K h
  unfold sortedSCon at h
  split at h
  · rename_i L
    rw [Tree.holds_chk] at h
    obtain ⟨hp, h⟩ := h
    refine ⟨noAnn, _, fun v S hv => ⟨_, h, hv⟩, ?_⟩
    rw [sortedSK0Vc L]
    exact sortedSK0Holds L (of_decide_eq_true hp)
  · rename_i L
    rw [Tree.holds_chk] at h
    obtain ⟨hp, h⟩ := h
    refine ⟨noAnn, _, fun v S hv => ⟨_, h, hv⟩, ?_⟩
    rw [sortedSK1Vc L]
    exact sortedSK1Holds L (of_decide_eq_true hp)
  · exact h.elim)
noncomputable def tab9 : Tab T O := (28, sortedSCon) :: tab8
theorem tabOk9 : TabOk R Try.prog tab9 := TabOk.cons R sortedSOk <| tabOk8
noncomputable def X9 : Ctx T O := { X0 with con := conOf tab9 }
theorem X9Ok : TabOk R X9.P tab9 := tabOk9
end Go.Proofs.Ytjhkokdcjikkiaa
