/-
  Part of a proof over the seat Ytmdoilnmllajjaa: printed by a small program or typed by hand.
-/
import Derived.Test.YtmdoilnmllajjaaSxAnn
import Derived.Test.YtmdoilnmllajjaaChecked
namespace Go.Proofs.Ytmdoilnmllajjaa
open Go.Sx Go.Proofs
def noEnc : Enc := { α := Unit, zero := (), n := 0, enc := fun _ => [], dec := fun | [] => some () | _ => none, len := fun _ => rfl, back := by intro cs a h; cases cs <;> simp_all, cell := by intro a c h; cases h }
abbrev T : Nat → Enc := fun _ => noEnc
abbrev O : Nat → Type := fun _ => Empty
def R : Objs O := { rep := fun _ d => d.elim, stable := fun _ d => d.elim, lt := fun _ d => d.elim, ptr := fun _ d => d.elim }
noncomputable def tab0 : Tab T O := []
theorem tabOk0 : TabOk R Try.prog tab0 := TabOk.nil R _
noncomputable def X0 : Ctx T O := { P := Try.prog, te := fun _ => none, arr := fun _ => none, con := conOf tab0 }
theorem X0Ok : TabOk R X0.P tab0 := tabOk0
theorem mixed : Try.prog.follows .mixedOrders = true := by kernel_rfl
end Go.Proofs.Ytmdoilnmllajjaa
