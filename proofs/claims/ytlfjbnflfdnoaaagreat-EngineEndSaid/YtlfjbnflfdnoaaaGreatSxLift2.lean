/-
  Part of a proof over the seat YtlfjbnflfdnoaaaGreat: printed by a small program or typed by hand.
-/
import Derived.Test.YtlfjbnflfdnoaaaGreatSxKit
import Derived.Deep.Slices
import Derived.OpenShut
/-
 Sx:what a row's arguments are:slices of ints,bools and flat structs,and slices of those.
-/
namespace Go.Sx
open Go.RowKit
section
variable {H:Type} {enc:TypeId×Value->H} {P:Program} {w:World} {base:Nat} {spare:Nat->Bool} {held:Bool}
end
section
variable {T:Nat->Enc} {O:Nat->Type} (R:Objs O)
end
end Go.Sx