/-
  Part of a proof over the seat Ytjhkokdcjikkiaa: printed by a small program or typed by hand.
-/
import Derived.Test.YtjhkokdcjikkiaaPrioS7
import Derived.KernelRfl
namespace Go.Proofs.Ytjhkokdcjikkiaa
open Go.Sx Go.Proofs Classical
/-! ### slices.Collect[regatta/api.Entry] -/
def collectK0Text (L : List Ent) : Prop := (match (decide ((41 : FuncId) = (41 : FuncId)) && decide ((37 : TypeId) = (37 : TypeId)) && decide (L.length ≤ (1000 : Nat))) with | true => ((True ∧ True) ∧ ((True ∧ True) ∧ ((L = L) ∧ ((L = L) ∧ True)))) | false => False)
theorem collectK0Vc (L : List Ent) : fnX X7 (noAnn) Try.f39 [.fn 41 [.ptr 0 0]] [.cells [.own 1] 37, .ro 2 L] (ends [.cells [.own 1] 37, .ro 2 L] ⟨some (.own 2), [(2, some (.vec 2 L 25))]⟩) = collectK0Text L := by kernel_rfl
theorem collectK0Holds (L : List Ent) (hp : L.length ≤ 1000) : collectK0Text L := by
  unfold collectK0Text
  simp only [hp, decide_true, Bool.and_self]
  repeat' first | trivial | rfl | apply And.intro
def collectK1Text (L : List Ent) : Prop := (match (decide ((41 : FuncId) = (41 : FuncId)) && decide ((37 : TypeId) = (37 : TypeId)) && decide (L.length ≤ (1000 : Nat))) with | true => ((True ∧ True) ∧ ((True ∧ True) ∧ ((L = L) ∧ ((L = L) ∧ True)))) | false => False)
theorem collectK1Vc (L : List Ent) : fnX X7 (noAnn) Try.f39 [.fn 41 [.ptr 0 0]] [.cells [.own 1] 37, .vec 2 L 25] (ends [.cells [.own 1] 37, .vec 2 L 25] ⟨some (.own 2), [(1, some (.vec 2 L 25)), (2, some (.vec 2 L 25))]⟩) = collectK1Text L := by kernel_rfl
theorem collectK1Holds (L : List Ent) (hp : L.length ≤ 1000) : collectK1Text L := by
  unfold collectK1Text
  simp only [hp, decide_true, Bool.and_self]
  repeat' first | trivial | rfl | apply And.intro
noncomputable def collectCon : Con T O := fun args cs => match args, cs with
  | [.fn 41 [.ptr 0 0]], [.cells [.own 1] 37, .ro 2 L] => chk (decide (L.length ≤ 1000)) (.ret ⟨some (.own 2), [(2, some (.vec 2 L 25))]⟩)
  | [.fn 41 [.ptr 0 0]], [.cells [.own 1] 37, .vec 2 L 25] => chk (decide (L.length ≤ 1000)) (.ret ⟨some (.own 2), [(1, some (.vec 2 L 25)), (2, some (.vec 2 L 25))]⟩)
  | _, _ => .fail
theorem collectOk : ConOk R Try.prog 39 collectCon := con_of_fn R (X7) (TabOk.con R X7Ok) mixed Try.call39 Try.func39 collectCon (by
  intro args cs K h
  unfold collectCon at h
  split at h
  · rename_i L
    rw [Tree.holds_chk] at h
    obtain ⟨hp, h⟩ := h
    refine ⟨noAnn, _, fun v S hv => ⟨_, h, hv⟩, ?_⟩
    rw [collectK0Vc L]
    exact collectK0Holds L (of_decide_eq_true hp)
  · rename_i L
    rw [Tree.holds_chk] at h
    obtain ⟨hp, h⟩ := h
    refine ⟨noAnn, _, fun v S hv => ⟨_, h, hv⟩, ?_⟩
    rw [collectK1Vc L]
    exact collectK1Holds L (of_decide_eq_true hp)
  · exact h.elim)
noncomputable def tab8 : Tab T O := (39, collectCon) :: tab7
theorem tabOk8 : TabOk R Try.prog tab8 := TabOk.cons R collectOk <| tabOk7
noncomputable def X8 : Ctx T O := { X0 with con := conOf tab8 }
theorem X8Ok : TabOk R X8.P tab8 := tabOk8
end Go.Proofs.Ytjhkokdcjikkiaa
