/-
  Part of a proof over the seat Ytjhkokdcjikkiaa: printed by a small program or typed by hand.
-/
import Derived.Test.YtjhkokdcjikkiaaPrioS5
import Derived.KernelRfl
namespace Go.Proofs.Ytjhkokdcjikkiaa
open Go.Sx Go.Proofs Classical
/-! ### slices.SortStableFunc[[]regatta/api.Entry,regatta/api.Entry] -/
def sortStableText (L : List Ent) : Prop := (match (decide ((↑L.length : Int) = (↑L.length : Int) ∧ L.length ≤ (20 : Nat))) with | true => ((True ∧ True) ∧ ((isortN L L.length = isortN L L.length) ∧ True)) | false => False)
theorem sortStableVc (L : List Ent) : fnX X5 (noAnn) Try.f40 [.own 0, .fn 22 []] [.vec 2 L 25] (ends [.vec 2 L 25] ⟨some (.tup []), [(0, some (.vec 2 (isortN L L.length) 25))]⟩) = sortStableText L := by kernel_rfl
theorem sortStableHolds (L : List Ent) (hp : L.length ≤ 20) : sortStableText L := by
  unfold sortStableText
  rw [decide_eq_true (⟨rfl, hp⟩ : (L.length : Int) = (L.length : Int) ∧ L.length ≤ 20)]
  repeat' first | trivial | rfl | apply And.intro
noncomputable def sortStableCon : Con T O := fun args cs => match args, cs with
  | [.own 0, .fn 22 []], [.vec 2 L 25] => chk (decide (L.length ≤ 20)) (.ret ⟨some (.tup []), [(0, some (.vec 2 (isortN L L.length) 25))]⟩)
  | _, _ => .fail
theorem sortStableOk : ConOk R Try.prog 40 sortStableCon := con_of_fn R (X5) (TabOk.con R X5Ok) mixed Try.call40 Try.func40 sortStableCon (by
  intro args cs K h
  unfold sortStableCon at h
  split at h
  · rename_i L
    rw [Tree.holds_chk] at h
    obtain ⟨hp, h⟩ := h
    refine ⟨noAnn, _, fun v S hv => ⟨_, h, hv⟩, ?_⟩
    rw [sortStableVc L]
    exact sortStableHolds L (of_decide_eq_true hp)
  · exact h.elim)
/-! ### slices.Values[[]regatta/api.Entry,regatta/api.Entry] -/
def valuesK0Text (L : List Ent) : Prop := (((True ∧ True) ∧ True) ∧ ((L = L) ∧ ((True ∧ True) ∧ True)))
theorem valuesK0Vc (L : List Ent) : fnX X5 (noAnn) Try.f29 [.own 0] [.ro 2 L] (ends [.ro 2 L] ⟨some (.fn 41 [.ptr 1 0]), [(1, some (.cells [.own 0] 37))]⟩) = valuesK0Text L := by kernel_rfl
theorem valuesK0Holds (L : List Ent) : valuesK0Text L := by
  unfold valuesK0Text
  repeat' first | trivial | rfl | apply And.intro
def valuesK1Text (L : List Ent) : Prop := (((True ∧ True) ∧ True) ∧ ((L = L) ∧ ((True ∧ True) ∧ True)))
theorem valuesK1Vc (L : List Ent) : fnX X5 (noAnn) Try.f29 [.own 0] [.vec 2 L 25] (ends [.vec 2 L 25] ⟨some (.fn 41 [.ptr 1 0]), [(0, some (.vec 2 L 25)), (1, some (.cells [.own 0] 37))]⟩) = valuesK1Text L := by kernel_rfl
theorem valuesK1Holds (L : List Ent) : valuesK1Text L := by
  unfold valuesK1Text
  repeat' first | trivial | rfl | apply And.intro
noncomputable def valuesCon : Con T O := fun args cs => match args, cs with
  | [.own 0], [.ro 2 _] => .ret ⟨some (.fn 41 [.ptr 1 0]), [(1, some (.cells [.own 0] 37))]⟩
  | [.own 0], [.vec 2 L 25] => .ret ⟨some (.fn 41 [.ptr 1 0]), [(0, some (.vec 2 L 25)), (1, some (.cells [.own 0] 37))]⟩
  | _, _ => .fail
theorem valuesOk : ConOk R Try.prog 29 valuesCon := con_of_fn R (X5) (TabOk.con R X5Ok) mixed Try.call29 Try.func29 valuesCon (by
  intro args cs K h
  unfold valuesCon at h
  split at h
  · rename_i L
    refine ⟨noAnn, _, fun v S hv => ⟨_, h, hv⟩, ?_⟩
    rw [valuesK0Vc L]
    exact valuesK0Holds L
  · rename_i L
    refine ⟨noAnn, _, fun v S hv => ⟨_, h, hv⟩, ?_⟩
    rw [valuesK1Vc L]
    exact valuesK1Holds L
  · exact h.elim)
noncomputable def tab6 : Tab T O := (40, sortStableCon) :: (29, valuesCon) :: tab5
theorem tabOk6 : TabOk R Try.prog tab6 := TabOk.cons R sortStableOk <| TabOk.cons R valuesOk <| tabOk5
noncomputable def X6 : Ctx T O := { X0 with con := conOf tab6 }
theorem X6Ok : TabOk R X6.P tab6 := tabOk6
end Go.Proofs.Ytjhkokdcjikkiaa
