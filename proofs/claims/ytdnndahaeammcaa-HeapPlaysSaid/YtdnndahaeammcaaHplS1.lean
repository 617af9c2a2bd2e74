/-
  Part of a proof over the seat Ytdnndahaeammcaa: printed by a small program or typed by hand.
-/
import Derived.Test.YtdnndahaeammcaaHplBase
import Derived.KernelRfl
namespace Go.Proofs.Ytdnndahaeammcaa
open Go.Sx Go.Proofs Classical
/-! ### regatta/regattaref07.Less -/
def ref07Less (a0 : Int) (a1 : Int) : Bool := (decide (bits BinOp.and IntKind.i64 a0 (15 : Int) < bits BinOp.and IntKind.i64 a1 (15 : Int)))
noncomputable def ref07LessCon : Con T O := fun args cs => match args, cs with
  | [.raw (.int .i64 a0), .raw (.int .i64 a1)], [] => retv (.raw (.bool (ref07Less a0 a1)))
  | _, _ => .fail
theorem ref07LessVc (a0 : Int) (a1 : Int) : fnX X0 noAnn Try.f10 [.raw (.int .i64 a0), .raw (.int .i64 a1)] [] (ends [] ⟨some (.raw (.bool (ref07Less a0 a1))), []⟩) = (((ref07Less a0 a1 = (decide (bits BinOp.and IntKind.i64 a0 (15 : Int) < bits BinOp.and IntKind.i64 a1 (15 : Int)))) ∧ True) ∧ True) := by kernel_rfl
theorem ref07LessOk : ConOk R Try.prog 10 ref07LessCon := con_of_fn R X0 (TabOk.con R X0Ok) mixed Try.call10 Try.func10 ref07LessCon (by
  intro args cs K h
  unfold ref07LessCon at h
  split at h
  · rename_i a0 a1
    refine ⟨noAnn, _, fun v S hv => ⟨_, h, hv⟩, ?_⟩
    rw [ref07LessVc a0 a1]
    unfold ref07Less
    exact ⟨⟨rfl, trivial⟩, trivial⟩
  · exact h.elim)
noncomputable def tab1 : Tab T O := (10, ref07LessCon) :: tab0
theorem tabOk1 : TabOk R Try.prog tab1 := TabOk.cons R ref07LessOk <| tabOk0
noncomputable def X1 : Ctx T O := { X0 with con := conOf tab1 }
theorem X1Ok : TabOk R X1.P tab1 := tabOk1
end Go.Proofs.Ytdnndahaeammcaa
