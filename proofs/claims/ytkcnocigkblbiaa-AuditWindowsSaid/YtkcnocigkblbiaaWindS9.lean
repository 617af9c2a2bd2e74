/-
  Part of a proof over the seat Ytkcnocigkblbiaa: printed by a small program or typed by hand.
-/
import Derived.Test.YtkcnocigkblbiaaWindS8
import Derived.KernelRfl
namespace Go.Proofs.Ytkcnocigkblbiaa
open Go.Sx Go.Proofs Classical
/-! ### (regatta/window.share).release -/
def wRelease (a0WeightE : Int) (a0WeightP : Int) (a1 : Int) : Int := (match (decide (exactFloorPre (IntKind.i64.wrap (IntKind.i64.wrap (a1 - (1 : Int)) * a0WeightP)) a0WeightE = true)) with | true => (exactFloorC0 (IntKind.i64.wrap (IntKind.i64.wrap (a1 - (1 : Int)) * a0WeightP)) a0WeightE) | false => 0)
def wReleasePre (a0WeightE : Int) (a0WeightP : Int) (a1 : Int) : Bool := (match (decide (exactFloorPre (IntKind.i64.wrap (IntKind.i64.wrap (a1 - (1 : Int)) * a0WeightP)) a0WeightE = true)) with | true => true | false => false)
noncomputable def wReleaseCon : Con T O := fun args cs => match args, cs with
  | [.agg [.raw (.int .i64 a0WeightE), .raw (.int .i64 a0WeightP)], .raw (.int .i64 a1)], [] => chk (wReleasePre a0WeightE a0WeightP a1) (retv (.raw (.int .i64 (wRelease a0WeightE a0WeightP a1))))
  | _, _ => .fail
theorem wReleaseVc (a0WeightE : Int) (a0WeightP : Int) (a1 : Int) : fnX X8 noAnn Try.f50 [.agg [.raw (.int .i64 a0WeightE), .raw (.int .i64 a0WeightP)], .raw (.int .i64 a1)] [] (ends [] ⟨some (.raw (.int .i64 (wRelease a0WeightE a0WeightP a1))), []⟩) = ((match (decide (exactFloorPre (IntKind.i64.wrap (IntKind.i64.wrap (a1 - (1 : Int)) * a0WeightP)) a0WeightE = true)) with | true => ((wRelease a0WeightE a0WeightP a1 = (exactFloorC0 (IntKind.i64.wrap (IntKind.i64.wrap (a1 - (1 : Int)) * a0WeightP)) a0WeightE)) ∧ True) ∧ True | false => False)) := by kernel_rfl
theorem wReleaseOk : ConOk R Try.prog 50 wReleaseCon := con_of_fn R X8 (TabOk.con R X8Ok) mixed Try.call50 Try.func50 wReleaseCon (by
  intro args cs K h
  unfold wReleaseCon at h
  split at h
  · rename_i a0WeightE a0WeightP a1
    rw [Tree.holds_chk] at h
    obtain ⟨hp, h⟩ := h
    refine ⟨noAnn, _, fun v S hv => ⟨_, h, hv⟩, ?_⟩
    rw [wReleaseVc a0WeightE a0WeightP a1]
    revert hp
    unfold wRelease wReleasePre
    cases (decide (exactFloorPre (IntKind.i64.wrap (IntKind.i64.wrap (a1 - (1 : Int)) * a0WeightP)) a0WeightE = true))
    ·
      intro hp; cases hp
    ·
      intro _; exact ⟨⟨rfl, trivial⟩, trivial⟩
  · exact h.elim)
/-! ### (regatta/window.share).deadline -/
def wDeadline (a0WeightE : Int) (a0WeightP : Int) (a1 : Int) : Int := (match (decide (exactCeilPre (IntKind.i64.wrap (a1 * a0WeightP)) a0WeightE = true)) with | true => (exactCeilC0 (IntKind.i64.wrap (a1 * a0WeightP)) a0WeightE) | false => 0)
def wDeadlinePre (a0WeightE : Int) (a0WeightP : Int) (a1 : Int) : Bool := (match (decide (exactCeilPre (IntKind.i64.wrap (a1 * a0WeightP)) a0WeightE = true)) with | true => true | false => false)
noncomputable def wDeadlineCon : Con T O := fun args cs => match args, cs with
  | [.agg [.raw (.int .i64 a0WeightE), .raw (.int .i64 a0WeightP)], .raw (.int .i64 a1)], [] => chk (wDeadlinePre a0WeightE a0WeightP a1) (retv (.raw (.int .i64 (wDeadline a0WeightE a0WeightP a1))))
  | _, _ => .fail
theorem wDeadlineVc (a0WeightE : Int) (a0WeightP : Int) (a1 : Int) : fnX X8 noAnn Try.f51 [.agg [.raw (.int .i64 a0WeightE), .raw (.int .i64 a0WeightP)], .raw (.int .i64 a1)] [] (ends [] ⟨some (.raw (.int .i64 (wDeadline a0WeightE a0WeightP a1))), []⟩) = ((match (decide (exactCeilPre (IntKind.i64.wrap (a1 * a0WeightP)) a0WeightE = true)) with | true => ((wDeadline a0WeightE a0WeightP a1 = (exactCeilC0 (IntKind.i64.wrap (a1 * a0WeightP)) a0WeightE)) ∧ True) ∧ True | false => False)) := by kernel_rfl
theorem wDeadlineOk : ConOk R Try.prog 51 wDeadlineCon := con_of_fn R X8 (TabOk.con R X8Ok) mixed Try.call51 Try.func51 wDeadlineCon (by
  intro args cs K h
  unfold wDeadlineCon at h
  split at h
  · rename_i a0WeightE a0WeightP a1
    rw [Tree.holds_chk] at h
    obtain ⟨hp, h⟩ := h
    refine ⟨noAnn, _, fun v S hv => ⟨_, h, hv⟩, ?_⟩
    rw [wDeadlineVc a0WeightE a0WeightP a1]
    revert hp
    unfold wDeadline wDeadlinePre
    cases (decide (exactCeilPre (IntKind.i64.wrap (a1 * a0WeightP)) a0WeightE = true))
    ·
      intro hp; cases hp
    ·
      intro _; exact ⟨⟨rfl, trivial⟩, trivial⟩
  · exact h.elim)
noncomputable def tab9 : Tab T O := (50, wReleaseCon) :: (51, wDeadlineCon) :: tab8
theorem tabOk9 : TabOk R Try.prog tab9 := TabOk.cons R wReleaseOk <| TabOk.cons R wDeadlineOk <| tabOk8
noncomputable def X9 : Ctx T O := { X0 with con := conOf tab9 }
theorem X9Ok : TabOk R X9.P tab9 := tabOk9
end Go.Proofs.Ytkcnocigkblbiaa
