/-
  Part of a proof over the seat Ytmdoilnmllajjaa: printed by a small program or typed by hand.
-/
import Derived.Test.YtmdoilnmllajjaaRulS4
import Derived.KernelRfl
namespace Go.Proofs.Ytmdoilnmllajjaa
open Go.Sx Go.Proofs Classical
/-! ### regatta/rule.Time -/
def ruleTime (a0E : Int) (a0P : Int) (a1Index : Int) (a1Release : Int) (a1Deadline : Int) (a1Bit : Int) (a1Group : Int) (a2 : Bool) (a3 : Int) : Int := (match (!a2) with | true => (a3) | false => (if ruleEnds a0E a0P a1Index a1Release a1Deadline a1Bit a1Group > a3 then ruleEnds a0E a0P a1Index a1Release a1Deadline a1Bit a1Group else a3))
noncomputable def ruleTimeCon : Con T O := fun args cs => match args, cs with
  | [.agg [.raw (.int .i64 a0E), .raw (.int .i64 a0P)], .agg [.raw (.int .i64 a1Index), .raw (.int .i64 a1Release), .raw (.int .i64 a1Deadline), .raw (.int .i64 a1Bit), .raw (.int .i64 a1Group)], .raw (.bool a2), .raw (.int .i64 a3)], [] => retv (.raw (.int .i64 (ruleTime a0E a0P a1Index a1Release a1Deadline a1Bit a1Group a2 a3)))
  | _, _ => .fail
theorem ruleTimeVc (a0E : Int) (a0P : Int) (a1Index : Int) (a1Release : Int) (a1Deadline : Int) (a1Bit : Int) (a1Group : Int) (a2 : Bool) (a3 : Int) : fnX X4 noAnn Try.f12 [.agg [.raw (.int .i64 a0E), .raw (.int .i64 a0P)], .agg [.raw (.int .i64 a1Index), .raw (.int .i64 a1Release), .raw (.int .i64 a1Deadline), .raw (.int .i64 a1Bit), .raw (.int .i64 a1Group)], .raw (.bool a2), .raw (.int .i64 a3)] [] (ends [] ⟨some (.raw (.int .i64 (ruleTime a0E a0P a1Index a1Release a1Deadline a1Bit a1Group a2 a3))), []⟩) = ((match (!a2) with | true => ((ruleTime a0E a0P a1Index a1Release a1Deadline a1Bit a1Group a2 a3 = (a3)) ∧ True) ∧ True | false => ((ruleTime a0E a0P a1Index a1Release a1Deadline a1Bit a1Group a2 a3 = (if ruleEnds a0E a0P a1Index a1Release a1Deadline a1Bit a1Group > a3 then ruleEnds a0E a0P a1Index a1Release a1Deadline a1Bit a1Group else a3)) ∧ True) ∧ True)) := by kernel_rfl
theorem ruleTimeOk : ConOk R Try.prog 12 ruleTimeCon := con_of_fn R X4 (TabOk.con R X4Ok) mixed Try.call12 Try.func12 ruleTimeCon (by
  intro args cs K h
  unfold ruleTimeCon at h
  split at h
  · rename_i a0E a0P a1Index a1Release a1Deadline a1Bit a1Group a2 a3
    refine ⟨noAnn, _, fun v S hv => ⟨_, h, hv⟩, ?_⟩
    rw [ruleTimeVc a0E a0P a1Index a1Release a1Deadline a1Bit a1Group a2 a3]
    unfold ruleTime
    cases (!a2)
    ·
      exact ⟨⟨rfl, trivial⟩, trivial⟩
    ·
      exact ⟨⟨rfl, trivial⟩, trivial⟩
  · exact h.elim)
/-! ### regatta/rule.Bound -/
def ruleBound (a0E : Int) (a0P : Int) : Int := (match (!windowCheck a0E a0P) with | true => ((0 : Int)) | false => (a0P))
noncomputable def ruleBoundCon : Con T O := fun args cs => match args, cs with
  | [.agg [.raw (.int .i64 a0E), .raw (.int .i64 a0P)]], [] => retv (.raw (.int .i64 (ruleBound a0E a0P)))
  | _, _ => .fail
theorem ruleBoundVc (a0E : Int) (a0P : Int) : fnX X4 noAnn Try.f15 [.agg [.raw (.int .i64 a0E), .raw (.int .i64 a0P)]] [] (ends [] ⟨some (.raw (.int .i64 (ruleBound a0E a0P))), []⟩) = ((match (!windowCheck a0E a0P) with | true => ((ruleBound a0E a0P = ((0 : Int))) ∧ True) ∧ True | false => ((ruleBound a0E a0P = (a0P)) ∧ True) ∧ True)) := by kernel_rfl
theorem ruleBoundOk : ConOk R Try.prog 15 ruleBoundCon := con_of_fn R X4 (TabOk.con R X4Ok) mixed Try.call15 Try.func15 ruleBoundCon (by
  intro args cs K h
  unfold ruleBoundCon at h
  split at h
  · rename_i a0E a0P
    refine ⟨noAnn, _, fun v S hv => ⟨_, h, hv⟩, ?_⟩
    rw [ruleBoundVc a0E a0P]
    unfold ruleBound
    cases (!windowCheck a0E a0P)
    ·
      exact ⟨⟨rfl, trivial⟩, trivial⟩
    ·
      exact ⟨⟨rfl, trivial⟩, trivial⟩
  · exact h.elim)
noncomputable def tab5 : Tab T O := (12, ruleTimeCon) :: (15, ruleBoundCon) :: tab4
theorem tabOk5 : TabOk R Try.prog tab5 := TabOk.cons R ruleTimeOk <| TabOk.cons R ruleBoundOk <| tabOk4
noncomputable def X5 : Ctx T O := { X0 with con := conOf tab5 }
theorem X5Ok : TabOk R X5.P tab5 := tabOk5
end Go.Proofs.Ytmdoilnmllajjaa
