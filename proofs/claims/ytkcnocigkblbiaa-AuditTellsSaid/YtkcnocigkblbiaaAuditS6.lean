/-
  Part of a proof over the seat Ytkcnocigkblbiaa: printed by a small program or typed by hand.
-/
import Derived.Test.YtkcnocigkblbiaaAuditS5
import Derived.KernelRfl
namespace Go.Proofs.Ytkcnocigkblbiaa
open Go.Sx Go.Proofs Classical
/-! ### regatta/regattalaw20.awake -/
def law20AwakeText  : Prop := (((true = (-1 == -1)) ∧ True) ∧ True)
theorem law20AwakeVc  : fnX X5 (annOf [] [] [(2, [1])]) Try.f8 [] [] (ends [] ⟨some (.raw (.bool true)), []⟩) = law20AwakeText  := by kernel_rfl
theorem law20AwakeHolds  : law20AwakeText  := by
  unfold law20AwakeText
  exact ⟨⟨rfl, trivial⟩, trivial⟩
noncomputable def law20AwakeCon : Con T O := fun args cs => match args, cs with
  | [], [] => .ret ⟨some (.raw (.bool true)), []⟩
  | _, _ => .fail
theorem law20AwakeOk : ConOk R Try.prog 8 law20AwakeCon := con_of_fn R (X5) (TabOk.con R X5Ok) mixed Try.call8 Try.func8 law20AwakeCon (by
  intro args cs K h
  unfold law20AwakeCon at h
  split at h
  ·
    refine ⟨annOf [] [] [(2, [1])], _, fun v S hv => ⟨_, h, hv⟩, ?_⟩
    rw [law20AwakeVc ]
    exact law20AwakeHolds 
  · exact h.elim)
noncomputable def tab6 : Tab T O := (8, law20AwakeCon) :: tab5
theorem tabOk6 : TabOk R Try.prog tab6 := TabOk.cons R law20AwakeOk <| tabOk5
noncomputable def X6 : Ctx T O := { X0 with con := conOf tab6 }
theorem X6Ok : TabOk R X6.P tab6 := tabOk6
end Go.Proofs.Ytkcnocigkblbiaa
