/-
  Part of a proof over the seat Ytkcnocigkblbiaa: printed by a small program or typed by hand.
-/
import Derived.Test.YtkcnocigkblbiaaWindBase
import Derived.KernelRfl
namespace Go.Proofs.Ytkcnocigkblbiaa
open Go.Sx Go.Proofs Classical
/-! ### regatta/audit.Timely -/
def auditTimely (a0 : Note) : Bool := (match (decide (a0.Ready ≤ a0.At)) with | true => (decide (a0.At < a0.SubDeadline)) | false => (false))
noncomputable def auditTimelyCon : Con T O := fun args cs => match args, cs with
  | [.agg [.raw (.int .i64 a0_0), .raw (.int .i64 a0_1), .raw (.int .i64 a0_2), .raw (.int .i64 a0_3), .raw (.int .i64 a0_4), .raw (.int .i64 a0_5), .raw (.int .i64 a0_6), .raw (.int .i64 a0_7), .raw (.int .i64 a0_8), .raw (.int .i64 a0_9)]], [] => retv (.raw (.bool (auditTimely (⟨a0_0, a0_1, a0_2, a0_3, a0_4, a0_5, a0_6, a0_7, a0_8, a0_9⟩ : Note))))
  | _, _ => .fail
theorem auditTimelyVc (a0 : Note) : fnX X0 noAnn Try.f24 [.agg [.raw (.int .i64 a0.ID), .raw (.int .i64 a0.Since), .raw (.int .i64 a0.SubIndex), .raw (.int .i64 a0.SubRelease), .raw (.int .i64 a0.SubDeadline), .raw (.int .i64 a0.SubBit), .raw (.int .i64 a0.SubGroup), .raw (.int .i64 a0.Ready), .raw (.int .i64 a0.At), .raw (.int .i64 a0.Core)]] [] (ends [] ⟨some (.raw (.bool (auditTimely a0))), []⟩) = ((match (decide (a0.Ready ≤ a0.At)) with | true => ((auditTimely a0 = (decide (a0.At < a0.SubDeadline))) ∧ True) ∧ True | false => ((auditTimely a0 = (false)) ∧ True) ∧ True)) := by kernel_rfl
theorem auditTimelyOk : ConOk R Try.prog 24 auditTimelyCon := con_of_fn R X0 (TabOk.con R X0Ok) mixed Try.call24 Try.func24 auditTimelyCon (by
  intro args cs K h
  unfold auditTimelyCon at h
  split at h
  · rename_i a0_0 a0_1 a0_2 a0_3 a0_4 a0_5 a0_6 a0_7 a0_8 a0_9
    refine ⟨noAnn, _, fun v S hv => ⟨_, h, hv⟩, ?_⟩
    rw [auditTimelyVc (⟨a0_0, a0_1, a0_2, a0_3, a0_4, a0_5, a0_6, a0_7, a0_8, a0_9⟩ : Note)]
    unfold auditTimely
    cases (decide ((⟨a0_0, a0_1, a0_2, a0_3, a0_4, a0_5, a0_6, a0_7, a0_8, a0_9⟩ : Note).Ready ≤ (⟨a0_0, a0_1, a0_2, a0_3, a0_4, a0_5, a0_6, a0_7, a0_8, a0_9⟩ : Note).At))
    ·
      exact ⟨⟨rfl, trivial⟩, trivial⟩
    ·
      exact ⟨⟨rfl, trivial⟩, trivial⟩
  · exact h.elim)
/-! ### regatta/audit.follows -/
def auditFollows (a0 : Note) (a1 : Note) : Bool := (match (decide (a0.Since > a1.Since)) with | true => (a0.SubIndex == (1 : Int)) | false => (match (a0.Since == a1.Since) with | true => (match (IntKind.i64.wrap (a0.SubIndex - (1 : Int)) == a1.SubIndex) with | true => (decide (a0.At > a1.At)) | false => (false)) | false => (false)))
noncomputable def auditFollowsCon : Con T O := fun args cs => match args, cs with
  | [.agg [.raw (.int .i64 a0_0), .raw (.int .i64 a0_1), .raw (.int .i64 a0_2), .raw (.int .i64 a0_3), .raw (.int .i64 a0_4), .raw (.int .i64 a0_5), .raw (.int .i64 a0_6), .raw (.int .i64 a0_7), .raw (.int .i64 a0_8), .raw (.int .i64 a0_9)], .agg [.raw (.int .i64 a1_0), .raw (.int .i64 a1_1), .raw (.int .i64 a1_2), .raw (.int .i64 a1_3), .raw (.int .i64 a1_4), .raw (.int .i64 a1_5), .raw (.int .i64 a1_6), .raw (.int .i64 a1_7), .raw (.int .i64 a1_8), .raw (.int .i64 a1_9)]], [] => retv (.raw (.bool (auditFollows (⟨a0_0, a0_1, a0_2, a0_3, a0_4, a0_5, a0_6, a0_7, a0_8, a0_9⟩ : Note) (⟨a1_0, a1_1, a1_2, a1_3, a1_4, a1_5, a1_6, a1_7, a1_8, a1_9⟩ : Note))))
  | _, _ => .fail
theorem auditFollowsVc (a0 : Note) (a1 : Note) : fnX X0 noAnn Try.f27 [.agg [.raw (.int .i64 a0.ID), .raw (.int .i64 a0.Since), .raw (.int .i64 a0.SubIndex), .raw (.int .i64 a0.SubRelease), .raw (.int .i64 a0.SubDeadline), .raw (.int .i64 a0.SubBit), .raw (.int .i64 a0.SubGroup), .raw (.int .i64 a0.Ready), .raw (.int .i64 a0.At), .raw (.int .i64 a0.Core)], .agg [.raw (.int .i64 a1.ID), .raw (.int .i64 a1.Since), .raw (.int .i64 a1.SubIndex), .raw (.int .i64 a1.SubRelease), .raw (.int .i64 a1.SubDeadline), .raw (.int .i64 a1.SubBit), .raw (.int .i64 a1.SubGroup), .raw (.int .i64 a1.Ready), .raw (.int .i64 a1.At), .raw (.int .i64 a1.Core)]] [] (ends [] ⟨some (.raw (.bool (auditFollows a0 a1))), []⟩) = ((match (decide (a0.Since > a1.Since)) with | true => ((auditFollows a0 a1 = (a0.SubIndex == (1 : Int))) ∧ True) ∧ True | false => (match (a0.Since == a1.Since) with | true => (match (IntKind.i64.wrap (a0.SubIndex - (1 : Int)) == a1.SubIndex) with | true => ((auditFollows a0 a1 = (decide (a0.At > a1.At))) ∧ True) ∧ True | false => ((auditFollows a0 a1 = (false)) ∧ True) ∧ True) | false => ((auditFollows a0 a1 = (false)) ∧ True) ∧ True))) := by kernel_rfl
theorem auditFollowsOk : ConOk R Try.prog 27 auditFollowsCon := con_of_fn R X0 (TabOk.con R X0Ok) mixed Try.call27 Try.func27 auditFollowsCon (by
  intro args cs K h
  unfold auditFollowsCon at h
  split at h
  · rename_i a0_0 a0_1 a0_2 a0_3 a0_4 a0_5 a0_6 a0_7 a0_8 a0_9 a1_0 a1_1 a1_2 a1_3 a1_4 a1_5 a1_6 a1_7 a1_8 a1_9
    refine ⟨noAnn, _, fun v S hv => ⟨_, h, hv⟩, ?_⟩
    rw [auditFollowsVc (⟨a0_0, a0_1, a0_2, a0_3, a0_4, a0_5, a0_6, a0_7, a0_8, a0_9⟩ : Note) (⟨a1_0, a1_1, a1_2, a1_3, a1_4, a1_5, a1_6, a1_7, a1_8, a1_9⟩ : Note)]
    unfold auditFollows
    cases (decide ((⟨a0_0, a0_1, a0_2, a0_3, a0_4, a0_5, a0_6, a0_7, a0_8, a0_9⟩ : Note).Since > (⟨a1_0, a1_1, a1_2, a1_3, a1_4, a1_5, a1_6, a1_7, a1_8, a1_9⟩ : Note).Since))
    ·
      cases ((⟨a0_0, a0_1, a0_2, a0_3, a0_4, a0_5, a0_6, a0_7, a0_8, a0_9⟩ : Note).Since == (⟨a1_0, a1_1, a1_2, a1_3, a1_4, a1_5, a1_6, a1_7, a1_8, a1_9⟩ : Note).Since)
      ·
        exact ⟨⟨rfl, trivial⟩, trivial⟩
      ·
        cases (IntKind.i64.wrap ((⟨a0_0, a0_1, a0_2, a0_3, a0_4, a0_5, a0_6, a0_7, a0_8, a0_9⟩ : Note).SubIndex - (1 : Int)) == (⟨a1_0, a1_1, a1_2, a1_3, a1_4, a1_5, a1_6, a1_7, a1_8, a1_9⟩ : Note).SubIndex)
        ·
          exact ⟨⟨rfl, trivial⟩, trivial⟩
        ·
          exact ⟨⟨rfl, trivial⟩, trivial⟩
    ·
      exact ⟨⟨rfl, trivial⟩, trivial⟩
  · exact h.elim)
noncomputable def tab1 : Tab T O := (24, auditTimelyCon) :: (27, auditFollowsCon) :: tab0
theorem tabOk1 : TabOk R Try.prog tab1 := TabOk.cons R auditTimelyOk <| TabOk.cons R auditFollowsOk <| tabOk0
noncomputable def X1 : Ctx T O := { X0 with con := conOf tab1 }
theorem X1Ok : TabOk R X1.P tab1 := tabOk1
end Go.Proofs.Ytkcnocigkblbiaa
