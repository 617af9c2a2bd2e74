/-
  Part of a proof over the seat Ytmdoilnmllajjaa: printed by a small program or typed by hand.
-/
import Derived.Test.YtmdoilnmllajjaaRuleS5
import Derived.KernelRfl
namespace Go.Proofs.Ytmdoilnmllajjaa
open Go.Sx Go.Proofs
/-! ### regatta/rule.Wait -/
def ruleWait (a0E : Int) (a0P : Int) (a1Index : Int) (a1Release : Int) (a1Deadline : Int) (a1Bit : Int) (a1Group : Int) (a2 : Bool) (a3 : Int) : Int := (IntKind.i64.wrap (Ytmdoilnmllajjaa.ruleTime a0E a0P a1Index a1Release a1Deadline a1Bit a1Group a2 a3 - a3))
noncomputable def ruleWaitCon : Con T O := fun args cs => match args, cs with
  | [.agg [.raw (.int .i64 a0E), .raw (.int .i64 a0P)], .agg [.raw (.int .i64 a1Index), .raw (.int .i64 a1Release), .raw (.int .i64 a1Deadline), .raw (.int .i64 a1Bit), .raw (.int .i64 a1Group)], .raw (.bool a2), .raw (.int .i64 a3)], [] => retv (.raw (.int .i64 (ruleWait a0E a0P a1Index a1Release a1Deadline a1Bit a1Group a2 a3)))
  | _, _ => .fail
theorem ruleWaitVc (a0E : Int) (a0P : Int) (a1Index : Int) (a1Release : Int) (a1Deadline : Int) (a1Bit : Int) (a1Group : Int) (a2 : Bool) (a3 : Int) : fnX X5 noAnn Try.f14 [.agg [.raw (.int .i64 a0E), .raw (.int .i64 a0P)], .agg [.raw (.int .i64 a1Index), .raw (.int .i64 a1Release), .raw (.int .i64 a1Deadline), .raw (.int .i64 a1Bit), .raw (.int .i64 a1Group)], .raw (.bool a2), .raw (.int .i64 a3)] [] (ends [] ⟨some (.raw (.int .i64 (ruleWait a0E a0P a1Index a1Release a1Deadline a1Bit a1Group a2 a3))), []⟩) = (((ruleWait a0E a0P a1Index a1Release a1Deadline a1Bit a1Group a2 a3 = (IntKind.i64.wrap (Ytmdoilnmllajjaa.ruleTime a0E a0P a1Index a1Release a1Deadline a1Bit a1Group a2 a3 - a3))) ∧ True) ∧ True) := by kernel_rfl
theorem ruleWaitOk : ConOk R Try.prog 14 ruleWaitCon := con_of_fn R X5 (TabOk.con R X5Ok) mixed Try.call14 Try.func14 ruleWaitCon (by
  intro args cs K h
  unfold ruleWaitCon at h
  split at h
  · rename_i a0E a0P a1Index a1Release a1Deadline a1Bit a1Group a2 a3
    refine ⟨noAnn, _, fun v S hv => ⟨_, h, hv⟩, ?_⟩
    rw [ruleWaitVc]
    unfold ruleWait
    exact ⟨⟨rfl, trivial⟩, trivial⟩
  · exact h.elim)
/-! ### regatta/rule.Bound -/
def ruleBound (a0E : Int) (a0P : Int) : Int := (match (!Ytmdoilnmllajjaa.windowCheck a0E a0P) with | true => (0) | false => (a0P))
noncomputable def ruleBoundCon : Con T O := fun args cs => match args, cs with
  | [.agg [.raw (.int .i64 a0E), .raw (.int .i64 a0P)]], [] => retv (.raw (.int .i64 (ruleBound a0E a0P)))
  | _, _ => .fail
theorem ruleBoundVc (a0E : Int) (a0P : Int) : fnX X5 noAnn Try.f15 [.agg [.raw (.int .i64 a0E), .raw (.int .i64 a0P)]] [] (ends [] ⟨some (.raw (.int .i64 (ruleBound a0E a0P))), []⟩) = ((match (!Ytmdoilnmllajjaa.windowCheck a0E a0P) with | true => ((ruleBound a0E a0P = (0)) ∧ True) ∧ True | false => ((ruleBound a0E a0P = (a0P)) ∧ True) ∧ True)) := by kernel_rfl
theorem ruleBoundOk : ConOk R Try.prog 15 ruleBoundCon := con_of_fn R X5 (TabOk.con R X5Ok) mixed Try.call15 Try.func15 ruleBoundCon (by
  intro args cs K h
  unfold ruleBoundCon at h
  split at h
  · rename_i a0E a0P
    refine ⟨noAnn, _, fun v S hv => ⟨_, h, hv⟩, ?_⟩
    rw [ruleBoundVc]
    unfold ruleBound
    cases (!Ytmdoilnmllajjaa.windowCheck a0E a0P)
    ·
      exact ⟨⟨rfl, trivial⟩, trivial⟩
    ·
      exact ⟨⟨rfl, trivial⟩, trivial⟩
  · exact h.elim)
/-! ### regatta/rule.Free -/
def ruleFree (a0E : Int) (a0P : Int) (a1Index : Int) (a1Release : Int) (a1Deadline : Int) (a1Bit : Int) (a1Group : Int) (a2 : Bool) (a3 : Int) : Bool := (Ytmdoilnmllajjaa.ruleTime a0E a0P a1Index a1Release a1Deadline a1Bit a1Group a2 a3 == a3)
noncomputable def ruleFreeCon : Con T O := fun args cs => match args, cs with
  | [.agg [.raw (.int .i64 a0E), .raw (.int .i64 a0P)], .agg [.raw (.int .i64 a1Index), .raw (.int .i64 a1Release), .raw (.int .i64 a1Deadline), .raw (.int .i64 a1Bit), .raw (.int .i64 a1Group)], .raw (.bool a2), .raw (.int .i64 a3)], [] => retv (.raw (.bool (ruleFree a0E a0P a1Index a1Release a1Deadline a1Bit a1Group a2 a3)))
  | _, _ => .fail
theorem ruleFreeVc (a0E : Int) (a0P : Int) (a1Index : Int) (a1Release : Int) (a1Deadline : Int) (a1Bit : Int) (a1Group : Int) (a2 : Bool) (a3 : Int) : fnX X5 noAnn Try.f16 [.agg [.raw (.int .i64 a0E), .raw (.int .i64 a0P)], .agg [.raw (.int .i64 a1Index), .raw (.int .i64 a1Release), .raw (.int .i64 a1Deadline), .raw (.int .i64 a1Bit), .raw (.int .i64 a1Group)], .raw (.bool a2), .raw (.int .i64 a3)] [] (ends [] ⟨some (.raw (.bool (ruleFree a0E a0P a1Index a1Release a1Deadline a1Bit a1Group a2 a3))), []⟩) = (((ruleFree a0E a0P a1Index a1Release a1Deadline a1Bit a1Group a2 a3 = (Ytmdoilnmllajjaa.ruleTime a0E a0P a1Index a1Release a1Deadline a1Bit a1Group a2 a3 == a3)) ∧ True) ∧ True) := by kernel_rfl
theorem ruleFreeOk : ConOk R Try.prog 16 ruleFreeCon := con_of_fn R X5 (TabOk.con R X5Ok) mixed Try.call16 Try.func16 ruleFreeCon (by
  intro args cs K h
  unfold ruleFreeCon at h
  split at h
  · rename_i a0E a0P a1Index a1Release a1Deadline a1Bit a1Group a2 a3
    refine ⟨noAnn, _, fun v S hv => ⟨_, h, hv⟩, ?_⟩
    rw [ruleFreeVc]
    unfold ruleFree
    exact ⟨⟨rfl, trivial⟩, trivial⟩
  · exact h.elim)
noncomputable def tab6 : Tab T O := (14, ruleWaitCon) :: (15, ruleBoundCon) :: (16, ruleFreeCon) :: tab5
theorem tabOk6 : TabOk R Try.prog tab6 := TabOk.cons R ruleWaitOk <| TabOk.cons R ruleBoundOk <| TabOk.cons R ruleFreeOk <| tabOk5
noncomputable def X6 : Ctx T O := { X0 with con := conOf tab6 }
theorem X6Ok : TabOk R X6.P tab6 := tabOk6
end Go.Proofs.Ytmdoilnmllajjaa
