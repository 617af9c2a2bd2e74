/-
  Part of a proof over the seat YtlfjbnflfdnoaaaGreat: printed by a small program or typed by hand.
-/
import Derived.Test.YtlfjbnflfdnoaaaGreatSxLift
/-
 Sx:small lemmas for verification conditions:indices,rows,maps.
-/
namespace Go.Sx
theorem dec_lt {a b:Nat} (h:a<b):decide ((a:Int)<(b:Int))=true:=by simp;omega
theorem dec_ge {a b:Nat} (h:b<=a):decide ((a:Int)<(b:Int))=false:=by simp;omega
theorem inb_nat {a b:Nat} (h:a<b):inb (a:Int) b=true:=by simp [inb];omega
theorem at_nat {α:Type} {z:α} {L:List α} {x:Nat} (h:x<L.length):at' z L (x:Int)=L[x]:=by
 simp [at',List.getD,List.getElem?_eq_getElem h]
theorem drop_at {α:Type} {L:List α} {x:Nat} (h:x<L.length):L.drop x=L[x]::L.drop (x+1):=List.drop_eq_getElem_cons h
theorem wrap_succ {x n:Nat} (h:x<n) (hn:n<=140737488355328):IntKind.i64.wrap ((x:Int)+1)=((x+1:Nat):Int):=by
 rw [wrap_id (by omega) (by omega)];rfl
theorem inb_iff {i:Int} {n:Nat}:inb i n=true↔0<=i/\ i<n:=by simp [inb]
theorem take_at {α:Type} {L:List α} {x:Nat} (h:x<L.length):L.take (x+1)=L.take x++[L[x]]:=by
 rw [List.take_succ_eq_append_getElem h]
theorem mget_put {α:Type} (k j:Int) (a:α): ∀L:List (Int×α),mget j (mput k a L)=if j=k then some a else mget j L
 |[]=>by
  simp only [mput,mget]
  by_cases h:j=k
  ·simp [h]
  ·rw [if_neg (fun e=>h e.symm),if_neg h]
 |(i,b)::L=>by
  simp only [mput]
  by_cases h:i=k
  ·rw [if_pos h]
   simp only [mget]
   subst h
   by_cases h2:i=j
   ·subst h2;simp
   ·rw [if_neg h2,if_neg (fun e=>h2 e.symm),if_neg h2]
  ·rw [if_neg h]
   simp only [mget,mget_put k j a L]
   by_cases h2:i=j
   ·subst h2
    rw [if_pos rfl,if_neg h,if_pos rfl]
   ·rw [if_neg h2,if_neg h2]
def endsIf {T:Nat->Enc} {O:Nat->Type} (b:Bool) (cs:List (Chunk T O)) (e1 e2:Eff T O) (v:SV) (S:SS T O):Prop:=match b with
 |true=>ends cs e1 v S
 |false=>ends cs e2 v S
theorem holds_if {T:Nat->Enc} {O:Nat->Type} {b:Bool} {cs:List (Chunk T O)} {e1 e2:Eff T O} {K:Eff T O->Prop} (h:(Tree.ite b (.ret e1) (.ret e2)).holds K) (v:SV) (S:SS T O) (hv:endsIf b cs e1 e2 v S): ∃e,K e/\ ends cs e v S:=by
 cases b
 ·exact ⟨_,h,hv⟩
 ·exact ⟨_,h,hv⟩
end Go.Sx