/-
  Part of a proof over the seat Ytmdoilnmllajjaa: printed by a small program or typed by hand.
-/
import Derived.Test.YtmdoilnmllajjaaRuleS6
import Derived.KernelRfl
namespace Go.Proofs.Ytmdoilnmllajjaa
open Go.Sx Go.Proofs
/-! ### regatta/regattalaw11.awake -/
def law11Awake  : Bool := (true)
noncomputable def law11AwakeCon : Con T O := fun args cs => match args, cs with
  | [], [] => retv (.raw (.bool (law11Awake)))
  | _, _ => .fail
theorem law11AwakeVc  : fnX X6 noAnn Try.f8 [] [] (ends [] ⟨some (.raw (.bool (law11Awake))), []⟩) = (((law11Awake = (true)) ∧ True) ∧ True) := by kernel_rfl
theorem law11AwakeOk : ConOk R Try.prog 8 law11AwakeCon := con_of_fn R X6 (TabOk.con R X6Ok) mixed Try.call8 Try.func8 law11AwakeCon (by
  intro args cs K h
  unfold law11AwakeCon at h
  split at h
  ·
    refine ⟨noAnn, _, fun v S hv => ⟨_, h, hv⟩, ?_⟩
    rw [law11AwakeVc]
    unfold law11Awake
    exact ⟨⟨rfl, trivial⟩, trivial⟩
  · exact h.elim)
noncomputable def tab7 : Tab T O := (8, law11AwakeCon) :: tab6
theorem tabOk7 : TabOk R Try.prog tab7 := TabOk.cons R law11AwakeOk <| tabOk6
noncomputable def X7 : Ctx T O := { X0 with con := conOf tab7 }
theorem X7Ok : TabOk R X7.P tab7 := tabOk7
end Go.Proofs.Ytmdoilnmllajjaa
