/-
  Part of a proof over the seat Ytkcnocigkblbiaa: printed by a small program or typed by hand.
-/
import Derived.Test.YtkcnocigkblbiaaWindS1
import Derived.KernelRfl
namespace Go.Proofs.Ytkcnocigkblbiaa
open Go.Sx Go.Proofs Classical
/-! ### regatta/audit.Late$1 -/
def auditLate1 (a0 : Note) : Bool := (!auditTimely a0)
noncomputable def auditLate1Con : Con T O := fun args cs => match args, cs with
  | [.agg [.raw (.int .i64 a0_0), .raw (.int .i64 a0_1), .raw (.int .i64 a0_2), .raw (.int .i64 a0_3), .raw (.int .i64 a0_4), .raw (.int .i64 a0_5), .raw (.int .i64 a0_6), .raw (.int .i64 a0_7), .raw (.int .i64 a0_8), .raw (.int .i64 a0_9)]], [] => retv (.raw (.bool (auditLate1 (⟨a0_0, a0_1, a0_2, a0_3, a0_4, a0_5, a0_6, a0_7, a0_8, a0_9⟩ : Note))))
  | _, _ => .fail
theorem auditLate1Vc (a0 : Note) : fnX X1 noAnn Try.f26 [.agg [.raw (.int .i64 a0.ID), .raw (.int .i64 a0.Since), .raw (.int .i64 a0.SubIndex), .raw (.int .i64 a0.SubRelease), .raw (.int .i64 a0.SubDeadline), .raw (.int .i64 a0.SubBit), .raw (.int .i64 a0.SubGroup), .raw (.int .i64 a0.Ready), .raw (.int .i64 a0.At), .raw (.int .i64 a0.Core)]] [] (ends [] ⟨some (.raw (.bool (auditLate1 a0))), []⟩) = (((auditLate1 a0 = (!auditTimely a0)) ∧ True) ∧ True) := by kernel_rfl
theorem auditLate1Ok : ConOk R Try.prog 26 auditLate1Con := con_of_fn R X1 (TabOk.con R X1Ok) mixed Try.call26 Try.func26 auditLate1Con (by
  intro args cs K h
  unfold auditLate1Con at h
  split at h
  · rename_i a0_0 a0_1 a0_2 a0_3 a0_4 a0_5 a0_6 a0_7 a0_8 a0_9
    refine ⟨noAnn, _, fun v S hv => ⟨_, h, hv⟩, ?_⟩
    rw [auditLate1Vc (⟨a0_0, a0_1, a0_2, a0_3, a0_4, a0_5, a0_6, a0_7, a0_8, a0_9⟩ : Note)]
    unfold auditLate1
    exact ⟨⟨rfl, trivial⟩, trivial⟩
  · exact h.elim)
noncomputable def tab2 : Tab T O := (26, auditLate1Con) :: tab1
theorem tabOk2 : TabOk R Try.prog tab2 := TabOk.cons R auditLate1Ok <| tabOk1
noncomputable def X2 : Ctx T O := { X0 with con := conOf tab2 }
theorem X2Ok : TabOk R X2.P tab2 := tabOk2
end Go.Proofs.Ytkcnocigkblbiaa
