/-
  Part of a proof over the seat Ythihpebdcamilaa: printed by a small program or typed by hand.
-/
import Derived.Test.YthihpebdcamilaaPlayS2
import Derived.KernelRfl
namespace Go.Proofs.Ythihpebdcamilaa
open Go.Sx Go.Proofs Classical
/-! ### regatta/calendar.less -/
def calendarLess (a0 : Ev) (a1 : Ev) : Bool := (decide (orL [cmpL a0.At a1.At, cmpI a0.Kind a1.Kind, cmpI a0.ID a1.ID] < (0 : Int)))
noncomputable def calendarLessCon : Con T O := fun args cs => match args, cs with
  | [.agg [.raw (.int .i64 a0_0), .raw (.int .i64 a0_1), .raw (.int .i64 a0_2)], .agg [.raw (.int .i64 a1_0), .raw (.int .i64 a1_1), .raw (.int .i64 a1_2)]], [] => retv (.raw (.bool (calendarLess (⟨a0_0, a0_1, a0_2⟩ : Ev) (⟨a1_0, a1_1, a1_2⟩ : Ev))))
  | _, _ => .fail
theorem calendarLessVc (a0 : Ev) (a1 : Ev) : fnX X2 noAnn Try.f24 [.agg [.raw (.int .i64 a0.At), .raw (.int .i64 a0.ID), .raw (.int .i64 a0.Kind)], .agg [.raw (.int .i64 a1.At), .raw (.int .i64 a1.ID), .raw (.int .i64 a1.Kind)]] [] (ends [] ⟨some (.raw (.bool (calendarLess a0 a1))), []⟩) = (((calendarLess a0 a1 = (decide (orL [cmpL a0.At a1.At, cmpI a0.Kind a1.Kind, cmpI a0.ID a1.ID] < (0 : Int)))) ∧ True) ∧ True) := by kernel_rfl
theorem calendarLessOk : ConOk R Try.prog 24 calendarLessCon := con_of_fn R X2 (TabOk.con R X2Ok) mixed Try.call24 Try.func24 calendarLessCon (by
  intro args cs K h
  unfold calendarLessCon at h
  split at h
  · rename_i a0_0 a0_1 a0_2 a1_0 a1_1 a1_2
    refine ⟨noAnn, _, fun v S hv => ⟨_, h, hv⟩, ?_⟩
    rw [calendarLessVc (⟨a0_0, a0_1, a0_2⟩ : Ev) (⟨a1_0, a1_1, a1_2⟩ : Ev)]
    unfold calendarLess
    exact ⟨⟨rfl, trivial⟩, trivial⟩
  · exact h.elim)
noncomputable def tab3 : Tab T O := (24, calendarLessCon) :: tab2
theorem tabOk3 : TabOk R Try.prog tab3 := TabOk.cons R calendarLessOk <| tabOk2
noncomputable def X3 : Ctx T O := { X0 with con := conOf tab3 }
theorem X3Ok : TabOk R X3.P tab3 := tabOk3
end Go.Proofs.Ythihpebdcamilaa
