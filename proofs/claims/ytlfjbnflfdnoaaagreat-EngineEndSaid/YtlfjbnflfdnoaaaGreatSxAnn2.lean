/-
  Part of a proof over the seat YtlfjbnflfdnoaaaGreat: printed by a small program or typed by hand.
-/
import Derived.Test.YtlfjbnflfdnoaaaGreatSxKit
/-
 Sx:more words for annotations:chunks by paths,chunks that nothing reaches.
-/
namespace Go.Sx
section
variable {T:Nat->Enc} {O:Nat->Type}
def keepIds (nf:Nat) (r:List Nat):List (Nat×Chunk T O)->List (Nat×Chunk T O)
 |[]=>[]
 |(k,c)::l=>match decide (k<nf)||r.contains k with
  |true=>(k,c)::keepIds nf r l
  |false=>keepIds nf r l
def idsT:List (Option SV)->List Nat
 |[]=>[]
 |some v::l=>v.ids++idsT l
 |none::l=>idsT l
def SS.gc (S:SS T O) (nf:Nat):SS T O:= { S with heap:=keepIds nf (reachIds S.get 6 (union [] (idsT S.tmps))) S.heap }
end
end Go.Sx