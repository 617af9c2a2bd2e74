/-
  Part of a proof over the seat YtlfjbnflfdnoaaaGreat: printed by a small program or typed by hand.
-/
import Derived.Test.YtlfjbnflfdnoaaaGreatSxFn
/-
 Sx:states as annotations tell them.
-/
namespace Go.Sx
section
variable {T:Nat->Enc} {O:Nat->Type}
def onlyT (ks:List Nat):Nat->List (Option SV)->List (Option SV)
 |_,[]=>[]
 |i,x::l=>(match ks.contains i with
  |true=>x
  |false=>none)::onlyT ks (i+1) l
def SS.keep (S:SS T O) (ks:List Nat):SS T O:= { S with tmps:=onlyT ks 0 S.tmps }
def SS.slot (S:SS T O) (t:Nat) (v:SV):SS T O:= { S with tmps:=setT (some v) S.tmps t }
def SS.int (S:SS T O) (t:Nat) (x:Int):SS T O:=S.slot t (.raw (.int .i64 x))
def SS.chunk (S:SS T O) (k:Nat) (c:Chunk T O):SS T O:= { S with heap:=setK k c S.heap }
def SS.drop (S:SS T O) (k:Nat):SS T O:= { S with heap:=delK k S.heap }
def SS.at' (S:SS T O) (t:Nat) (c:Chunk T O):SS T O:=match getT S.tmps t with
 |some v=>match v.head with
  |[k]=> { S with heap:=setK k c S.heap }
  |_=>S
 |none=>S
def SS.new (S:SS T O) (t:Nat) (c:Chunk T O):SS T O:= { tmps:=setT (some (.own S.next)) S.tmps t,heap:=setK S.next c S.heap,next:=S.next+1 }
def SS.add (S:SS T O) (c:Chunk T O):SS T O:= { S with heap:=setK S.next c S.heap,next:=S.next+1 }
def SS.gi (S:SS T O) (t:Nat):Int:=match getT S.tmps t with
 |some (.raw (.int _ n))=>n
 |_=>0
def SS.gv (S:SS T O) (t e:Nat):List (T e).α:=match getT S.tmps t with
 |some v=>match headC S.get v with
  |some (.vec e' L _)=>match Nat.decEq e' e with
   | .isTrue h=>castE h L
   |_=>[]
  |some (.ro e' L)=>match Nat.decEq e' e with
   | .isTrue h=>castE h L
   |_=>[]
  |some (.arr e' L _)=>match Nat.decEq e' e with
   | .isTrue h=>castE h L
   |_=>[]
  |_=>[]
 |none=>[]
def SS.atF (S:SS T O) (t i:Nat) (c:Chunk T O):SS T O:=match getT S.tmps t with
 |some v=>match headC S.get v with
  |some (.cells cs _)=>match cs[i]? with
   |some u=>match u.head with
    |[k]=> { S with heap:=setK k c S.heap }
    |_=>S
   |none=>S
  |_=>S
 |none=>S
def SS.cv (S:SS T O) (k e:Nat):List (T e).α:=match S.get k with
 |some (.vec e' L _)=>match Nat.decEq e' e with
  | .isTrue h=>castE h L
  |_=>[]
 |some (.ro e' L)=>match Nat.decEq e' e with
  | .isTrue h=>castE h L
  |_=>[]
 |some (.arr e' L _)=>match Nat.decEq e' e with
  | .isTrue h=>castE h L
  |_=>[]
 |_=>[]
def getL (i:Nat):List (Nat×LoopAnn T O)->Option (LoopAnn T O)
 |[]=>none
 |(j,a)::l=>if j=i then some a else getL i l
def getN {α:Type} (z:α) (i:Nat) (l:List (Nat×α)):α:=match lookK i l with
 |some a=>a
 |none=>z
def annOf (ls:List (Nat×LoopAnn T O)) (us:List (Nat×Nat)) (fs:List (Nat×List Nat):=[]) (fo:List Nat:=[]):Ann T O:=
 ⟨fun i=>getL i ls,fun _=>none,fun i=>getN 0 i us,fun i=>getN [] i fs,fun i=>fo.contains i⟩
def oneLoop (id:Nat) (L:LoopAnn T O):Ann T O:=annOf [(id,L)] []
end
end Go.Sx