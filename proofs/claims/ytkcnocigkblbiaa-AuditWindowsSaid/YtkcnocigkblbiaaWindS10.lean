/-
  Part of a proof over the seat Ytkcnocigkblbiaa: printed by a small program or typed by hand.
-/
import Derived.Test.YtkcnocigkblbiaaWindS9
import Derived.KernelRfl
namespace Go.Proofs.Ytkcnocigkblbiaa
open Go.Sx Go.Proofs Classical
/-! ### (regatta/window.share).group -/
def wGroup (a0WeightE : Int) (a0WeightP : Int) (a1 : Int) : Int := (match (wDeadlinePre a0WeightE a0WeightP a1) with | true => (match (decide (IntKind.i64.wrap (a0WeightP - a0WeightE) > a0WeightE)) with | true => ((0 : Int)) | false => (match (IntKind.i64.wrap (a0WeightP - a0WeightE) == (0 : Int)) with | true => (wDeadline a0WeightE a0WeightP a1) | false => (match (a0WeightP != (0 : Int)) with | true => (match (exactCeilPre (IntKind.i64.wrap ((wDeadline a0WeightE a0WeightP a1).tmod a0WeightP * IntKind.i64.wrap (a0WeightP - a0WeightE))) a0WeightP) with | true => (match (decide (exactCeilPre (IntKind.i64.wrap (IntKind.i64.wrap (IntKind.i64.wrap (IntKind.i64.wrap ((wDeadline a0WeightE a0WeightP a1).tdiv a0WeightP) * IntKind.i64.wrap (a0WeightP - a0WeightE)) + exactCeilC0 (IntKind.i64.wrap ((wDeadline a0WeightE a0WeightP a1).tmod a0WeightP * IntKind.i64.wrap (a0WeightP - a0WeightE))) a0WeightP) * a0WeightP)) (IntKind.i64.wrap (a0WeightP - a0WeightE)) = true)) with | true => (exactCeilC0 (IntKind.i64.wrap (IntKind.i64.wrap (IntKind.i64.wrap (IntKind.i64.wrap ((wDeadline a0WeightE a0WeightP a1).tdiv a0WeightP) * IntKind.i64.wrap (a0WeightP - a0WeightE)) + exactCeilC0 (IntKind.i64.wrap ((wDeadline a0WeightE a0WeightP a1).tmod a0WeightP * IntKind.i64.wrap (a0WeightP - a0WeightE))) a0WeightP) * a0WeightP)) (IntKind.i64.wrap (a0WeightP - a0WeightE))) | false => 0) | false => 0) | false => 0))) | false => 0)
def wGroupPre (a0WeightE : Int) (a0WeightP : Int) (a1 : Int) : Bool := (match (wDeadlinePre a0WeightE a0WeightP a1) with | true => (match (decide (IntKind.i64.wrap (a0WeightP - a0WeightE) > a0WeightE)) with | true => true | false => (match (IntKind.i64.wrap (a0WeightP - a0WeightE) == (0 : Int)) with | true => true | false => (match (a0WeightP != (0 : Int)) with | true => (match (exactCeilPre (IntKind.i64.wrap ((wDeadline a0WeightE a0WeightP a1).tmod a0WeightP * IntKind.i64.wrap (a0WeightP - a0WeightE))) a0WeightP) with | true => (match (decide (exactCeilPre (IntKind.i64.wrap (IntKind.i64.wrap (IntKind.i64.wrap (IntKind.i64.wrap ((wDeadline a0WeightE a0WeightP a1).tdiv a0WeightP) * IntKind.i64.wrap (a0WeightP - a0WeightE)) + exactCeilC0 (IntKind.i64.wrap ((wDeadline a0WeightE a0WeightP a1).tmod a0WeightP * IntKind.i64.wrap (a0WeightP - a0WeightE))) a0WeightP) * a0WeightP)) (IntKind.i64.wrap (a0WeightP - a0WeightE)) = true)) with | true => true | false => false) | false => false) | false => false))) | false => false)
noncomputable def wGroupCon : Con T O := fun args cs => match args, cs with
  | [.agg [.raw (.int .i64 a0WeightE), .raw (.int .i64 a0WeightP)], .raw (.int .i64 a1)], [] => chk (wGroupPre a0WeightE a0WeightP a1) (retv (.raw (.int .i64 (wGroup a0WeightE a0WeightP a1))))
  | _, _ => .fail
theorem wGroupVc (a0WeightE : Int) (a0WeightP : Int) (a1 : Int) : fnX X9 noAnn Try.f53 [.agg [.raw (.int .i64 a0WeightE), .raw (.int .i64 a0WeightP)], .raw (.int .i64 a1)] [] (ends [] ⟨some (.raw (.int .i64 (wGroup a0WeightE a0WeightP a1))), []⟩) = ((match (wDeadlinePre a0WeightE a0WeightP a1) with | true => (match (decide (IntKind.i64.wrap (a0WeightP - a0WeightE) > a0WeightE)) with | true => ((wGroup a0WeightE a0WeightP a1 = ((0 : Int))) ∧ True) ∧ True | false => (match (IntKind.i64.wrap (a0WeightP - a0WeightE) == (0 : Int)) with | true => ((wGroup a0WeightE a0WeightP a1 = (wDeadline a0WeightE a0WeightP a1)) ∧ True) ∧ True | false => (match (a0WeightP != (0 : Int)) with | true => (match (a0WeightP != (0 : Int)) with | true => (match (exactCeilPre (IntKind.i64.wrap ((wDeadline a0WeightE a0WeightP a1).tmod a0WeightP * IntKind.i64.wrap (a0WeightP - a0WeightE))) a0WeightP) with | true => (match (decide (exactCeilPre (IntKind.i64.wrap (IntKind.i64.wrap (IntKind.i64.wrap (IntKind.i64.wrap ((wDeadline a0WeightE a0WeightP a1).tdiv a0WeightP) * IntKind.i64.wrap (a0WeightP - a0WeightE)) + exactCeilC0 (IntKind.i64.wrap ((wDeadline a0WeightE a0WeightP a1).tmod a0WeightP * IntKind.i64.wrap (a0WeightP - a0WeightE))) a0WeightP) * a0WeightP)) (IntKind.i64.wrap (a0WeightP - a0WeightE)) = true)) with | true => ((wGroup a0WeightE a0WeightP a1 = (exactCeilC0 (IntKind.i64.wrap (IntKind.i64.wrap (IntKind.i64.wrap (IntKind.i64.wrap ((wDeadline a0WeightE a0WeightP a1).tdiv a0WeightP) * IntKind.i64.wrap (a0WeightP - a0WeightE)) + exactCeilC0 (IntKind.i64.wrap ((wDeadline a0WeightE a0WeightP a1).tmod a0WeightP * IntKind.i64.wrap (a0WeightP - a0WeightE))) a0WeightP) * a0WeightP)) (IntKind.i64.wrap (a0WeightP - a0WeightE)))) ∧ True) ∧ True | false => False) | false => False) | false => False) | false => False))) | false => False)) := by kernel_rfl
theorem wGroupOk : ConOk R Try.prog 53 wGroupCon := con_of_fn R X9 (TabOk.con R X9Ok) mixed Try.call53 Try.func53 wGroupCon (by
  intro args cs K h
  unfold wGroupCon at h
  split at h
  · rename_i a0WeightE a0WeightP a1
    rw [Tree.holds_chk] at h
    obtain ⟨hp, h⟩ := h
    refine ⟨noAnn, _, fun v S hv => ⟨_, h, hv⟩, ?_⟩
    rw [wGroupVc a0WeightE a0WeightP a1]
    revert hp
    unfold wGroup wGroupPre
    cases (wDeadlinePre a0WeightE a0WeightP a1)
    ·
      intro hp; cases hp
    ·
      cases (decide (IntKind.i64.wrap (a0WeightP - a0WeightE) > a0WeightE))
      ·
        cases (IntKind.i64.wrap (a0WeightP - a0WeightE) == (0 : Int))
        ·
          cases (a0WeightP != (0 : Int))
          ·
            intro hp; cases hp
          ·
            cases (exactCeilPre (IntKind.i64.wrap ((wDeadline a0WeightE a0WeightP a1).tmod a0WeightP * IntKind.i64.wrap (a0WeightP - a0WeightE))) a0WeightP)
            ·
              intro hp; cases hp
            ·
              cases (decide (exactCeilPre (IntKind.i64.wrap (IntKind.i64.wrap (IntKind.i64.wrap (IntKind.i64.wrap ((wDeadline a0WeightE a0WeightP a1).tdiv a0WeightP) * IntKind.i64.wrap (a0WeightP - a0WeightE)) + exactCeilC0 (IntKind.i64.wrap ((wDeadline a0WeightE a0WeightP a1).tmod a0WeightP * IntKind.i64.wrap (a0WeightP - a0WeightE))) a0WeightP) * a0WeightP)) (IntKind.i64.wrap (a0WeightP - a0WeightE)) = true))
              ·
                intro hp; cases hp
              ·
                intro _; exact ⟨⟨rfl, trivial⟩, trivial⟩
        ·
          intro _; exact ⟨⟨rfl, trivial⟩, trivial⟩
      ·
        intro _; exact ⟨⟨rfl, trivial⟩, trivial⟩
  · exact h.elim)
noncomputable def tab10 : Tab T O := (53, wGroupCon) :: tab9
theorem tabOk10 : TabOk R Try.prog tab10 := TabOk.cons R wGroupOk <| tabOk9
noncomputable def X10 : Ctx T O := { X0 with con := conOf tab10 }
theorem X10Ok : TabOk R X10.P tab10 := tabOk10
end Go.Proofs.Ytkcnocigkblbiaa
