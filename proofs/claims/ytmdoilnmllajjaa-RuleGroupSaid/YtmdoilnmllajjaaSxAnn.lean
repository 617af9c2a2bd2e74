/-
  Sx: states as annotations tell them.
-/
import Derived.Test.YtmdoilnmllajjaaSxFn
namespace Go.Sx
section
variable {T : Nat → Enc} {O : Nat → Type}
def onlyT (ks : List Nat) : Nat → List (Option SV) → List (Option SV)
  | _, [] => []
  | i, x :: l => (match ks.contains i with
    | true => x
    | false => none) :: onlyT ks (i + 1) l
/-- what is told of these slots only -/
def SS.keep (S : SS T O) (ks : List Nat) : SS T O := { S with tmps := onlyT ks 0 S.tmps }
def SS.slot (S : SS T O) (t : Nat) (v : SV) : SS T O := { S with tmps := setT (some v) S.tmps t }
def SS.int (S : SS T O) (t : Nat) (x : Int) : SS T O := S.slot t (.raw (.int .i64 x))
def SS.chunk (S : SS T O) (k : Nat) (c : Chunk T O) : SS T O := { S with heap := setK k c S.heap }
def SS.drop (S : SS T O) (k : Nat) : SS T O := { S with heap := delK k S.heap }
def oneLoop (id : Nat) (L : LoopAnn T O) : Ann T O := ⟨fun i => if i = id then some L else none, fun _ => none⟩
end
end Go.Sx
