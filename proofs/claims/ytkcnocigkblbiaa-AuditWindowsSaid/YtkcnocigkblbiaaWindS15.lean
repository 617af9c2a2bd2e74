/-
  Part of a proof over the seat Ytkcnocigkblbiaa: printed by a small program or typed by hand.
-/
import Derived.Test.YtkcnocigkblbiaaWindS14
import Derived.KernelRfl
namespace Go.Proofs.Ytkcnocigkblbiaa
open Go.Sx Go.Proofs Classical
/-! ### regatta/audit.Windows$1 -/
def winOfK0Text (n : Note) (e p : Int) : Prop := (match (auditOfPre n e p) with | true => ((((!auditOf n e p) = !auditOf n e p) ∧ True) ∧ (((True ∧ True) ∧ True) ∧ (((e = e) ∧ ((p = p) ∧ True)) ∧ True))) | false => False)
theorem winOfK0Vc (n : Note) (e p : Int) : fnX X14 (noAnn) Try.f39 [.agg [.raw (.int .i64 n.ID), .raw (.int .i64 n.Since), .raw (.int .i64 n.SubIndex), .raw (.int .i64 n.SubRelease), .raw (.int .i64 n.SubDeadline), .raw (.int .i64 n.SubBit), .raw (.int .i64 n.SubGroup), .raw (.int .i64 n.Ready), .raw (.int .i64 n.At), .raw (.int .i64 n.Core)], .ptr 0 0] [.cells [.fn 22 [.ptr 1 0]] 50, .cells [.raw (.int .i64 e), .raw (.int .i64 p)] 41] (ends [.cells [.fn 22 [.ptr 1 0]] 50, .cells [.raw (.int .i64 e), .raw (.int .i64 p)] 41] ⟨some (.raw (.bool (!(auditOf n e p)))), []⟩) = winOfK0Text n e p := by kernel_rfl
theorem winOfK0Holds (n : Note) (e p : Int) (hp : auditOfPre n e p = true) : winOfK0Text n e p := by
  unfold winOfK0Text
  rw [hp]
  repeat' first | trivial | rfl | apply And.intro
def winOfK1Text (n : Note) (e p : Int) : Prop := (match (auditOfPre n e p) with | true => ((((!auditOf n e p) = !auditOf n e p) ∧ True) ∧ (((True ∧ True) ∧ True) ∧ (((e = e) ∧ ((p = p) ∧ True)) ∧ True))) | false => False)
theorem winOfK1Vc (n : Note) (e p : Int) : fnX X14 (noAnn) Try.f39 [.agg [.raw (.int .i64 n.ID), .raw (.int .i64 n.Since), .raw (.int .i64 n.SubIndex), .raw (.int .i64 n.SubRelease), .raw (.int .i64 n.SubDeadline), .raw (.int .i64 n.SubBit), .raw (.int .i64 n.SubGroup), .raw (.int .i64 n.Ready), .raw (.int .i64 n.At), .raw (.int .i64 n.Core)], .ptr 0 0] [.cells [.fn 18 [.ptr 1 0]] 50, .cells [.raw (.int .i64 e), .raw (.int .i64 p)] 41] (ends [.cells [.fn 18 [.ptr 1 0]] 50, .cells [.raw (.int .i64 e), .raw (.int .i64 p)] 41] ⟨some (.raw (.bool (!(auditOf n e p)))), []⟩) = winOfK1Text n e p := by kernel_rfl
theorem winOfK1Holds (n : Note) (e p : Int) (hp : auditOfPre n e p = true) : winOfK1Text n e p := by
  unfold winOfK1Text
  rw [hp]
  repeat' first | trivial | rfl | apply And.intro
noncomputable def winOfCon : Con T O := fun args cs => match args, cs with
  | [.agg [.raw (.int .i64 n_0), .raw (.int .i64 n_1), .raw (.int .i64 n_2), .raw (.int .i64 n_3), .raw (.int .i64 n_4), .raw (.int .i64 n_5), .raw (.int .i64 n_6), .raw (.int .i64 n_7), .raw (.int .i64 n_8), .raw (.int .i64 n_9)], .ptr 0 0], [.cells [.fn 22 [.ptr 1 0]] 50, .cells [.raw (.int .i64 e), .raw (.int .i64 p)] 41] => chk (decide (auditOfPre (⟨n_0, n_1, n_2, n_3, n_4, n_5, n_6, n_7, n_8, n_9⟩ : Note) e p = true)) (.ret ⟨some (.raw (.bool (!(auditOf (⟨n_0, n_1, n_2, n_3, n_4, n_5, n_6, n_7, n_8, n_9⟩ : Note) e p)))), []⟩)
  | [.agg [.raw (.int .i64 n_0), .raw (.int .i64 n_1), .raw (.int .i64 n_2), .raw (.int .i64 n_3), .raw (.int .i64 n_4), .raw (.int .i64 n_5), .raw (.int .i64 n_6), .raw (.int .i64 n_7), .raw (.int .i64 n_8), .raw (.int .i64 n_9)], .ptr 0 0], [.cells [.fn 18 [.ptr 1 0]] 50, .cells [.raw (.int .i64 e), .raw (.int .i64 p)] 41] => chk (decide (auditOfPre (⟨n_0, n_1, n_2, n_3, n_4, n_5, n_6, n_7, n_8, n_9⟩ : Note) e p = true)) (.ret ⟨some (.raw (.bool (!(auditOf (⟨n_0, n_1, n_2, n_3, n_4, n_5, n_6, n_7, n_8, n_9⟩ : Note) e p)))), []⟩)
  | _, _ => .fail
theorem winOfOk : ConOk R Try.prog 39 winOfCon := con_of_fn R (X14) (TabOk.con R X14Ok) mixed Try.call39 Try.func39 winOfCon (by
  intro args cs K h
  unfold winOfCon at h
  split at h
  · rename_i n_0 n_1 n_2 n_3 n_4 n_5 n_6 n_7 n_8 n_9 e p
    rw [Tree.holds_chk] at h
    obtain ⟨hp, h⟩ := h
    refine ⟨noAnn, _, fun v S hv => ⟨_, h, hv⟩, ?_⟩
    rw [winOfK0Vc (⟨n_0, n_1, n_2, n_3, n_4, n_5, n_6, n_7, n_8, n_9⟩ : Note) e p]
    exact winOfK0Holds (⟨n_0, n_1, n_2, n_3, n_4, n_5, n_6, n_7, n_8, n_9⟩ : Note) e p (of_decide_eq_true hp)
  · rename_i n_0 n_1 n_2 n_3 n_4 n_5 n_6 n_7 n_8 n_9 e p
    rw [Tree.holds_chk] at h
    obtain ⟨hp, h⟩ := h
    refine ⟨noAnn, _, fun v S hv => ⟨_, h, hv⟩, ?_⟩
    rw [winOfK1Vc (⟨n_0, n_1, n_2, n_3, n_4, n_5, n_6, n_7, n_8, n_9⟩ : Note) e p]
    exact winOfK1Holds (⟨n_0, n_1, n_2, n_3, n_4, n_5, n_6, n_7, n_8, n_9⟩ : Note) e p (of_decide_eq_true hp)
  · exact h.elim)
noncomputable def tab15 : Tab T O := (39, winOfCon) :: tab14
theorem tabOk15 : TabOk R Try.prog tab15 := TabOk.cons R winOfOk <| tabOk14
noncomputable def X15 : Ctx T O := { X0 with con := conOf tab15 }
theorem X15Ok : TabOk R X15.P tab15 := tabOk15
end Go.Proofs.Ytkcnocigkblbiaa
