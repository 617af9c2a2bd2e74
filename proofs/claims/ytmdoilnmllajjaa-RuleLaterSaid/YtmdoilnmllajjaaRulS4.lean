/-
  Part of a proof over the seat Ytmdoilnmllajjaa: printed by a small program or typed by hand.
-/
import Derived.Test.YtmdoilnmllajjaaRulS3
import Derived.KernelRfl
namespace Go.Proofs.Ytmdoilnmllajjaa
open Go.Sx Go.Proofs Classical
/-! ### regatta/rule.ends -/
def ruleEnds (a0E : Int) (a0P : Int) (_a1Index : Int) (_a1Release : Int) (a1Deadline : Int) (a1Bit : Int) (a1Group : Int) : Int := (match (windowHeavy a0E a0P) with | true => (if a1Deadline > a1Group then a1Deadline else a1Group) | false => (match (a1Bit == (1 : Int)) with | true => (IntKind.i64.wrap (a1Deadline + (1 : Int))) | false => (a1Deadline)))
noncomputable def ruleEndsCon : Con T O := fun args cs => match args, cs with
  | [.agg [.raw (.int .i64 a0E), .raw (.int .i64 a0P)], .agg [.raw (.int .i64 a1Index), .raw (.int .i64 a1Release), .raw (.int .i64 a1Deadline), .raw (.int .i64 a1Bit), .raw (.int .i64 a1Group)]], [] => retv (.raw (.int .i64 (ruleEnds a0E a0P a1Index a1Release a1Deadline a1Bit a1Group)))
  | _, _ => .fail
theorem ruleEndsVc (a0E : Int) (a0P : Int) (a1Index : Int) (a1Release : Int) (a1Deadline : Int) (a1Bit : Int) (a1Group : Int) : fnX X3 noAnn Try.f22 [.agg [.raw (.int .i64 a0E), .raw (.int .i64 a0P)], .agg [.raw (.int .i64 a1Index), .raw (.int .i64 a1Release), .raw (.int .i64 a1Deadline), .raw (.int .i64 a1Bit), .raw (.int .i64 a1Group)]] [] (ends [] ⟨some (.raw (.int .i64 (ruleEnds a0E a0P a1Index a1Release a1Deadline a1Bit a1Group))), []⟩) = ((match (windowHeavy a0E a0P) with | true => ((ruleEnds a0E a0P a1Index a1Release a1Deadline a1Bit a1Group = (if a1Deadline > a1Group then a1Deadline else a1Group)) ∧ True) ∧ True | false => (match (a1Bit == (1 : Int)) with | true => ((ruleEnds a0E a0P a1Index a1Release a1Deadline a1Bit a1Group = (IntKind.i64.wrap (a1Deadline + (1 : Int)))) ∧ True) ∧ True | false => ((ruleEnds a0E a0P a1Index a1Release a1Deadline a1Bit a1Group = (a1Deadline)) ∧ True) ∧ True))) := by kernel_rfl
theorem ruleEndsOk : ConOk R Try.prog 22 ruleEndsCon := con_of_fn R X3 (TabOk.con R X3Ok) mixed Try.call22 Try.func22 ruleEndsCon (by
  intro args cs K h
  unfold ruleEndsCon at h
  split at h
  · rename_i a0E a0P a1Index a1Release a1Deadline a1Bit a1Group
    refine ⟨noAnn, _, fun v S hv => ⟨_, h, hv⟩, ?_⟩
    rw [ruleEndsVc a0E a0P a1Index a1Release a1Deadline a1Bit a1Group]
    unfold ruleEnds
    cases (windowHeavy a0E a0P)
    ·
      cases (a1Bit == (1 : Int))
      ·
        exact ⟨⟨rfl, trivial⟩, trivial⟩
      ·
        exact ⟨⟨rfl, trivial⟩, trivial⟩
    ·
      exact ⟨⟨rfl, trivial⟩, trivial⟩
  · exact h.elim)
noncomputable def tab4 : Tab T O := (22, ruleEndsCon) :: tab3
theorem tabOk4 : TabOk R Try.prog tab4 := TabOk.cons R ruleEndsOk <| tabOk3
noncomputable def X4 : Ctx T O := { X0 with con := conOf tab4 }
theorem X4Ok : TabOk R X4.P tab4 := tabOk4
end Go.Proofs.Ytmdoilnmllajjaa
