/-
  Part of a proof over the seat YtlfjbnflfdnoaaaGreat: printed by a small program or typed by hand.
-/
import Derived.RangeFuncIn
import Derived.Laws.Entries
import Derived.Laws.Rows
import Derived.Laws.AppendOwn
import Derived.Maps.AppendAt
import Derived.MapKept
/-
 Sx:a symbolic executor over the model's code. This text:symbolic values,what they denote,chunks of memory,symbolic states,the effect of one operation. No program in sight.
-/
namespace Go.Sx
inductive SV where
 |raw (v:Value)
 |ptr (k off:Nat)
 |elt (k:Nat) (i:Int) (E j:Nat)
 |own (k:Nat)
 |view (k:Nat) (lo n:Int) (E:Nat)
 |agg (cs:List SV)
 |tup (vs:List SV)
 |iface (t:TypeId) (v:SV)
 |fn (f:FuncId) (cap:List SV)
 /--an array in chunk k,from a cell on,as a slice-/
 |aview (k off n:Nat)
 /--a method's value:its first arguments are there-/
 |bfn (f:FuncId) (first:List SV)
 deriving Inhabited
abbrev Env:=Nat->Value
def addrOf:Value->Addr
 | .pointer (some a)=>a
 | .slice (some a) _ _=>a
 | .map (some r)=>⟨r,0,none⟩
 |_=>default
def viewOf (v:Value) (lo n:Int) (E:Nat):Value:=match v with
 | .slice p _ cap=> .slice (if cap=lo.toNat then p else p.map (·.add (lo.toNat*E))) n.toNat (cap-lo.toNat)
 |_=> .nilFunc
mutual
def SV.den (ρ:Env):SV->Value
 | .raw v=>v
 | .ptr k off=> .pointer (some ((addrOf (ρ k)).add off))
 | .elt k i E j=> .pointer (some ((addrOf (ρ k)).add (i.toNat*E+j)))
 | .own k=>ρ k
 | .view k lo n E=>viewOf (ρ k) lo n E
 | .agg cs=> .agg (denL ρ cs).toArray
 | .tup vs=> .tuple (denL ρ vs).toArray
 | .iface t v=> .iface t (v.den ρ)
 | .fn f cap=> .func (.func f) #[] (denL ρ cap).toArray
 | .bfn f first=> .func (.func f) (denL ρ first).toArray #[]
 | .aview k off n=> .slice (some ((addrOf (ρ k)).add off)) n n
def denL (ρ:Env):List SV->List Value
 |[]=>[]
 |v::vs=>v.den ρ::denL ρ vs
end
mutual
def SV.ids:SV->List Nat
 | .raw _=>[]
 | .ptr k _=>[k]
 | .elt k _ _ _=>[k]
 | .own k=>[k]
 | .view k _ _ _=>[k]
 | .agg cs=>idsL cs
 | .tup vs=>idsL vs
 | .iface _ v=>v.ids
 | .fn _ cap=>idsL cap
 | .bfn _ first=>idsL first
 | .aview k _ _=>[k]
def idsL:List SV->List Nat
 |[]=>[]
 |v::vs=>v.ids++idsL vs
end
def SV.head:SV->List Nat
 | .ptr k _=>[k]
 | .elt k _ _ _=>[k]
 | .own k=>[k]
 | .view k _ _ _=>[k]
 | .aview k _ _=>[k]
 |_=>[]
def SV.cells:SV->List SV
 | .agg cs=>cs
 |v=>[v]
def SV.cell:SV->Bool
 | .raw v=>v.oneCell'
 | .agg _=>false
 | .tup _=>false
 |_=>true
def svOf:Value->SV
 | .agg cs=> .agg (cs.toList.map .raw)
 |v=> .raw v
structure Enc where
 α:Type
 zero:α
 n:Nat
 /--a struct or an array (not one cell by itself)-/
 agg:Bool
 enc:α->List SV
 dec:List SV->Option α
 len: ∀a,(enc a).length=n
 back: ∀cs a,dec cs=some a->enc a=cs
 cell: ∀a,∀c∈enc a,∃v,c= .raw v/\ v.oneCell'=true
 /--keys of a map whose elements these are:whole numbers (false),or strings of one byte,told by the byte (true)-/
 skey:Bool:=false
def oneB (n:Int):ByteArray:=⟨#[UInt8.ofNat n.toNat]⟩
def kdesc (s:Bool):TypeDesc:=match s with
 |true=> .string
 |false=> .int .i64
def kval (s:Bool) (n:Int):Value:=match s with
 |true=> .string (oneB n)
 |false=> .int .i64 n
def kok (s:Bool) (n:Int):Prop:=s=true->0<=n/\ n<256
def at' {α:Type} (z:α) (l:List α) (i:Int):α:=l.getD i.toNat z
def inb (i:Int) (n:Nat):Bool:=decide (0<=i)&&decide (i<(n:Int))
inductive Chunk (T:Nat->Enc) (O:Nat->Type) where
 |cells (cs:List SV) (t:TypeId)
 |arr (e:Nat) (L:List (T e).α) (t:TypeId)
 |vec (e:Nat) (L:List (T e).α) (t:TypeId)
 |ro (e:Nat) (L:List (T e).α)
 |nest (e:Nat) (LL:List (List (T e).α))
 |map (e:Nat) (L:List (Int×(T e).α))
 |obj (o:Nat) (d:O o)
 /--a variable that has an array of data in it:cells ahead of it,the array's elements,cells behind-/
 |mix (cs:List SV) (e n:Nat) (L:List (T e).α) (ds:List SV) (t:TypeId)
 /--a variable that has an array of pointers to objects in it (none:nil):cells ahead,the objects,cells behind;hole:the object that is out,and the chunk that it is-/
 |tab (cs:List SV) (o n:Nat) (L:List (Option (O o))) (hole:Option (Int×Nat)) (ds:List SV) (t:TypeId)
 /--a slice of the call's own that begins anywhere in its row-/
 |que (e:Nat) (L:List (T e).α) (t:TypeId)
 /--a slice of the call's own whose elements are structs,the last field a row that is only read-/
 |deep (e1 e:Nat) (L:List ((T e1).α×List (T e).α)) (t:TypeId)
 /--the same,only read-/
 |dro (e1 e:Nat) (L:List ((T e1).α×List (T e).α))
section
variable {T:Nat->Enc} {O:Nat->Type}
def Chunk.ids:Chunk T O->List Nat
 | .cells cs _=>idsL cs
 | .mix cs _ _ _ ds _=>idsL cs++idsL ds
 | .tab cs _ _ _ hole ds _=>idsL cs++idsL ds++(match hole with
  |some (_,k)=>[k]
  |none=>[])
 |_=>[]
def lookK {α:Type} (k:Nat):List (Nat×α)->Option α
 |[]=>none
 |(j,a)::l=>if j=k then some a else lookK k l
def setK {α:Type} (k:Nat) (a:α):List (Nat×α)->List (Nat×α)
 |[]=>[(k,a)]
 |(j,b)::l=>if j=k then (k,a)::l else (j,b)::setK k a l
def delK {α:Type} (k:Nat):List (Nat×α)->List (Nat×α)
 |[]=>[]
 |(j,b)::l=>if j=k then delK k l else (j,b)::delK k l
def getT:List (Option SV)->Nat->Option SV
 |[],_=>none
 |x::_,0=>x
 |_::l,n+1=>getT l n
def setT (v:Option SV):List (Option SV)->Nat->List (Option SV)
 |[],_=>[]
 |_::l,0=>v::l
 |x::l,n+1=>x::setT v l n
structure SS (T:Nat->Enc) (O:Nat->Type) where
 tmps:List (Option SV)
 heap:List (Nat×Chunk T O)
 next:Nat
def SS.get (S:SS T O) (k:Nat):Option (Chunk T O):=lookK k S.heap
def opdT (tm:List (Option SV)):Operand->Option SV
 | .tmp t=>getT tm t
 | .const v=>some (svOf v)
 | .global g=>some (.raw (.pointer (some ⟨g,0,none⟩)))
 | .func f=>some (.fn f [])
mutual
def SV.rn (π:List (Nat×Nat)):SV->Option SV
 | .raw v=>some (.raw v)
 | .ptr k off=>(lookK k π).map (.ptr · off)
 | .elt k i E j=>(lookK k π).map (.elt · i E j)
 | .own k=>(lookK k π).map .own
 | .view k lo n E=>(lookK k π).map (.view · lo n E)
 | .agg cs=>(rnL π cs).map .agg
 | .tup vs=>(rnL π vs).map .tup
 | .iface t v=>(v.rn π).map (.iface t)
 | .fn f cap=>(rnL π cap).map (.fn f)
 | .bfn f first=>(rnL π first).map (.bfn f)
 | .aview k off n=>(lookK k π).map (.aview · off n)
def rnL (π:List (Nat×Nat)):List SV->Option (List SV)
 |[]=>some []
 |v::vs=>match v.rn π,rnL π vs with
  |some v,some vs=>some (v::vs)
  |_,_=>none
end
def Chunk.rn (π:List (Nat×Nat)):Chunk T O->Option (Chunk T O)
 | .cells cs t=>(rnL π cs).map (.cells · t)
 | .mix cs e n L ds t=>match rnL π cs,rnL π ds with
  |some cs,some ds=>some (.mix cs e n L ds t)
  |_,_=>none
 | .tab cs o n L hole ds t=>match rnL π cs,rnL π ds,hole with
  |some cs,some ds,none=>some (.tab cs o n L none ds t)
  |some cs,some ds,some (i,k)=>(lookK k π).map fun k=> .tab cs o n L (some (i,k)) ds t
  |_,_,_=>none
 |c=>some c
structure Eff (T:Nat->Enc) (O:Nat->Type) where
 val:Option SV
 upd:List (Nat×Option (Chunk T O)):=[]
def rnU (π:List (Nat×Nat)):List (Nat×Option (Chunk T O))->Option (List (Nat×Option (Chunk T O)))
 |[]=>some []
 |(k,none)::l=>match lookK k π,rnU π l with
  |some k,some l=>some ((k,none)::l)
  |_,_=>none
 |(k,some c)::l=>match lookK k π,c.rn π,rnU π l with
  |some k,some c,some l=>some ((k,some c)::l)
  |_,_,_=>none
def Eff.rn (π:List (Nat×Nat)) (e:Eff T O):Option (Eff T O):=
 match e.val with
 |none=>(rnU π e.upd).map fun u=>⟨none,u⟩
 |some v=>match v.rn π,rnU π e.upd with
  |some v,some u=>some ⟨some v,u⟩
  |_,_=>none
def applyUpd:List (Nat×Option (Chunk T O))->List (Nat×Chunk T O)->List (Nat×Chunk T O)
 |[],h=>h
 |(k,some c)::l,h=>applyUpd l (setK k c h)
 |(k,none)::l,h=>applyUpd l (delK k h)
def putT (dst:Option Tmp) (v:Option SV) (l:List (Option SV)):List (Option SV):=
 match dst with
 |none=>l
 |some d=>setT v l d
def SS.app (S:SS T O) (dst:Option Tmp) (e:Eff T O):SS T O:= { S with tmps:=putT dst e.val S.tmps,heap:=applyUpd e.upd S.heap }
inductive Tree (ε:Type) where
 |ret (e:ε)
 |fail
 |ite (b:Bool) (t f:Tree ε)
def Tree.holds {ε:Type} (K:ε->Prop):Tree ε->Prop
 | .ret e=>K e
 | .fail=>False
 | .ite b t f=>match b with
  |true=>t.holds K
  |false=>f.holds K
def chk {ε:Type} (b:Bool) (t:Tree ε):Tree ε:= .ite b t .fail
abbrev Con (T:Nat->Enc) (O:Nat->Type):=List SV->List (Chunk T O)->Tree (Eff T O)
structure LayF (T:Nat->Enc) (O:Nat->Type) (o:Nat) where
 n:Nat
 zero:O o
 lay:O o->List (Chunk T O)
 unlay:List (Chunk T O)->Option (O o)
structure Ctx (T:Nat->Enc) (O:Nat->Type) where
 P:Program
 /--which data the elements of a type are told by-/
 te:TypeId->Option Nat
 /--array variables that are told as a row of data (the others:cell by cell)-/
 arr:TypeId->Option Nat
 con:FuncId->Con T O
 /--a slice of an own slice:both are read only from then on-/
 frz:Bool:=false
 /--numbers and rows that a call hands back get names-/
 gen:Bool:=false
 /--a slice of an own slice,up to its end,is a view-/
 vw:Bool:=false
 /--variables with an array of data in them:how many cells are ahead of it,the data,how many elements-/
 mix:TypeId->Option (Nat×Nat×Nat):=fun _=>none
 /--variables with an array of pointers to objects in them:how many cells are ahead,the kind,how many-/
 tab:TypeId->Option (Nat×Nat×Nat):=fun _=>none
 lay:(o:Nat)->Option (LayF T O o):=fun _=>none
 /--elements that are structs with a row in their last field:what is ahead of it,what the row is of-/
 deep:TypeId->Option (Nat×Nat):=fun _=>none
section ops
variable (X:Ctx T O) (fresh:Nat)
def retv {T:Nat->Enc} {O:Nat->Type} (v:SV):Tree (Eff T O):= .ret { val:=some v }
def reti {T:Nat->Enc} {O:Nat->Type} (k:IntKind) (n:Int):Tree (Eff T O):=retv (.raw (.int k n))
def retb {T:Nat->Enc} {O:Nat->Type} (b:Bool):Tree (Eff T O):=retv (.raw (.bool b))
def nilPtr:SV->SV->Option Bool
 | .ptr _ _, .raw (.pointer none)=>some false
 | .raw (.pointer none), .ptr _ _=>some false
 | .raw (.pointer none), .raw (.pointer none)=>some true
 |_,_=>none
def nilFn:SV->SV->Option Bool
 | .fn _ _, .raw .nilFunc=>some false
 | .raw .nilFunc, .fn _ _=>some false
 | .raw .nilFunc, .raw .nilFunc=>some true
 |_,_=>none
def intBin (op:BinOp) (k:IntKind) (a b:Int):Tree (Eff T O):=
 match op with
 | .add=>reti k (k.wrap (a+b))
 | .sub=>reti k (k.wrap (a-b))
 | .mul=>reti k (k.wrap (a*b))
 | .quo=>chk (b !=0) (reti k (k.wrap (a.tdiv b)))
 | .rem=>chk (b !=0) (reti k (a.tmod b))
 | .and=>reti k (bits .and k a b)
 | .or=>reti k (bits .or k a b)
 | .xor=>reti k (bits .xor k a b)
 | .andNot=>reti k (bits .andNot k a b)
 | .eql=>retb (a==b)
 | .neq=>retb (a !=b)
 | .lss=>retb (decide (a<b))
 | .leq=>retb (decide (a<=b))
 | .gtr=>retb (decide (a>b))
 | .geq=>retb (decide (a>=b))
 |_=> .fail
def shiftBin (op:BinOp) (k:IntKind) (a b:Int):Tree (Eff T O):=
 match op with
 | .shl=>chk (decide (0<=b)) (reti k (k.wrap (a*2^(min b.toNat k.bits))))
 | .shr=>chk (decide (0<=b)) (reti k (a.fdiv (2^(min b.toNat k.bits))))
 |_=> .fail
def sizeT0 (t:TypeId):Option Nat:=(X.P.info? t).map (·.size)
def isShift:BinOp->Bool
 | .shl| .shr=>true
 |_=>false
def isAggT (t:TypeId):Option Bool:=
 match X.P.underlying t with
 |some (.struct _)=>some true
 |some (.array _ _)=>some true
 |some _=>some false
 |none=>none
def sizeT (t:TypeId):Option Nat:=(X.P.info? t).map (·.size)
def partT (t:TypeId) (cs:List SV) (off:Nat):Option SV:=
 match isAggT X t,sizeT X t with
 |some true,some n=>if off+n<=cs.length then some (.agg ((cs.drop off).take n)) else none
 |some false,some _=>cs[off]?
 |_,_=>none
def eqF (f:TypeId->SV->SV->Option Bool):List Field->List SV->List SV->Option Bool
 |[],_,_=>some true
 | fd :: fs, xs, ys => if fd.name ≠ "_" then (match partT X fd.type xs fd.offset, partT X fd.type ys fd.offset with
   |some a,some b=>match f fd.type a b,eqF f fs xs ys with
    |some p,some q=>some (p&&q)
    |_,_=>none
   |_,_=>none) else none
def eqA (f:TypeId->SV->SV->Option Bool) (el:TypeId) (E:Nat):List Nat->List SV->List SV->Option Bool
 |[],_,_=>some true
 |i::is,xs,ys=>match partT X el xs (i*E),partT X el ys (i*E) with
  |some a,some b=>match f el a b,eqA f el E is xs ys with
   |some p,some q=>some (p&&q)
   |_,_=>none
  |_,_=>none
def eqV:Nat->TypeId->SV->SV->Option Bool
 |0,_,_,_=>none
 |d+1,t,x,y=>match X.P.underlying t with
  |some (.int _)=>match x,y with
   | .raw (.int k a), .raw (.int k' b)=>if k=k' then some (a==b) else none
   |_,_=>none
  |some .bool=>match x,y with
   | .raw (.bool a), .raw (.bool b)=>some (a==b)
   |_,_=>none
  |some (.struct fs)=>match x,y with
   | .agg xs, .agg ys=>if X.P.stoodInHeld t then none else eqF X (eqV d) fs.toList xs ys
   |_,_=>none
  |some (.array n el)=>match x,y,sizeT0 X el with
   | .agg xs, .agg ys,some E=>eqA X (eqV d) el E (List.range' 0 n) xs ys
   |_,_,_=>none
  |_=>none
def binT (t:TypeId) (op:BinOp) (x y:SV):Tree (Eff T O):=
 match x,y with
 | .raw (.int k a), .raw (.int k' b)=>if isShift op then shiftBin op k a b else if k=k' then intBin op k a b else .fail
 | .raw (.bool a), .raw (.bool b)=>match X.P.underlying t,op with
  |some .bool, .eql=>retb (a==b)
  |some .bool, .neq=>retb (a !=b)
  |_,_=> .fail
 | .raw (.string a), .raw (.string b)=>match X.P.underlying t,op with
  |some .string, .eql=>retb (a.data.toList==b.data.toList)
  |some .string, .neq=>retb (a.data.toList !=b.data.toList)
  |_,_=> .fail
 |x,y=>match X.P.underlying t with
  |some (.pointer _)=>match nilPtr x y,op with
   |some b, .eql=>retb b
   |some b, .neq=>retb (!b)
   |_,_=> .fail
  |some (.func _ _ _)=>match nilFn x y,op with
   |some b, .eql=>retb b
   |some b, .neq=>retb (!b)
   |_,_=> .fail
  |some _=>match x,y with
   | .agg xs, .agg ys=>if X.P.eqGuardType X.P.depth t then .fail else (match eqV X 8 t (.agg xs) (.agg ys),op with
    |some b, .eql=>retb b
    |some b, .neq=>retb (!b)
    |_,_=> .fail)
   |_,_=> .fail
  |_=> .fail
def binM (t:TypeId) (op:BinOp) (x y:SV) (c:Option (Chunk T O)):Tree (Eff T O):=
 match x,y with
 | .own _, .raw (.map none)=>match c,X.P.underlying t,op with
  |some (.map _ _),some (.map _ _), .eql=>retb false
  |some (.map _ _),some (.map _ _), .neq=>retb true
  |_,_,_=> .fail
 | .raw (.map none), .raw (.map none)=>match X.P.underlying t,op with
  |some (.map _ _), .eql=>retb true
  |some (.map _ _), .neq=>retb false
  |_,_=> .fail
 |x,y=>binT X t op x y
def unT (op:UnOp) (x:SV):Tree (Eff T O):=
 match op,x with
 | .neg, .raw (.int k n)=>reti k (k.wrap (0-n))
 | .not, .raw (.bool b)=>retb (!b)
 |_,_=> .fail
def convT (src dst:TypeId) (x:SV):Tree (Eff T O):=
 match X.P.underlying src,X.P.underlying dst,x with
 |some _,some (.int k), .raw (.int _ n)=>reti k (k.wrap n)
 |_,_,_=> .fail
def zeroT (t:TypeId):Option (List SV):=
 match X.P.info? t with
 |some i=>match i.zero with
  |some z=>some (z.cells.toList.map .raw)
  |none=>none
 |none=>none
def splice (cs:List SV) (off:Nat) (new:List SV):List SV:=cs.take off++new++cs.drop (off+new.length)
def decAll (e:Nat):Nat->List SV->Option (List (T e).α)
 |0,cs=>match cs with
  |[]=>some []
  |_=>none
 |n+1,cs=>match (T e).dec (cs.take (T e).n),decAll e n (cs.drop (T e).n) with
  |some a,some l=>some (a::l)
  |_,_=>none
def allocT (t:TypeId):Tree (Eff T O):=
 match zeroT X t with
 |some z=>if z.all SV.cell then (match X.arr t with
  |some e=>match X.P.underlying t with
   |some (.array _ _)=>match decAll e (z.length/(T e).n) z with
    |some L=> .ret { val:=some (.ptr fresh 0),upd:=[(fresh,some (.arr e L t))] }
    |none=> .fail
   |_=> .fail
  |none=> .ret { val:=some (.ptr fresh 0),upd:=[(fresh,some (.cells z t))] }) else .fail
 |none=> .fail
def allNil:List SV->Bool
 |[]=>true
 | .raw (.pointer none)::l=>allNil l
 |_=>false
def boxT (t:TypeId) (x:SV):Tree (Eff T O):=
 if x.cells.all SV.cell then (match X.mix t with
  |none=>(match X.tab t with
   |none=> .ret { val:=some (.ptr fresh 0),upd:=[(fresh,some (.cells x.cells t))] }
   |some (p,o,n)=>if decide (p+n<=x.cells.length)&&allNil ((x.cells.drop p).take n) then .ret { val:=some (.ptr fresh 0),upd:=[(fresh,some (.tab (x.cells.take p) o n (List.replicate n none) none (x.cells.drop (p+n)) t))] } else .fail)
  |some (p,e,n)=>match decAll e n ((x.cells.drop p).take (n*(T e).n)) with
   |some L=>if decide (p+n*(T e).n<=x.cells.length) then .ret { val:=some (.ptr fresh 0),upd:=[(fresh,some (.mix (x.cells.take p) e n L (x.cells.drop (p+n*(T e).n)) t))] } else .fail
   |none=> .fail) else .fail
def fieldsOf (t:TypeId):Option (Array Field):=
 match X.P.underlying t with
 |some (.struct fs)=>some fs
 |_=>none
def fillT (place:Nat->Option (Nat×Nat)):List SV->List (Nat×Option SV)->Option (List SV)
 |cs,[]=>some cs
 |cs,(i,some v)::rest=>match place i with
  |some (off,n)=>if decide (v.cells.length=n)&&decide (off+n<=cs.length)&&v.cells.all SV.cell then fillT place (splice cs off v.cells) rest else none
  |none=>none
 |_,_=>none
def buildT (t:TypeId) (parts:List (Nat×Option SV)):Tree (Eff T O):=
 match X.P.underlying t,zeroT X t with
 |some (.struct fs),some z=>
  match fs.toList.mapM (fun f=>(sizeT X f.type).map fun n=>(f.offset,n)) with
  |some places=>match fillT (fun i=>places.toArray[i]?) z parts with
   |some cs=>retv (.agg cs)
   |none=> .fail
  |none=> .fail
 |some (.array _ el),some z=>
  match sizeT X el with
  |some n=>match fillT (fun i=>some (i*n,n)) z parts with
   |some cs=>retv (.agg cs)
   |none=> .fail
  |none=> .fail
 |_,_=> .fail
def fieldAddrT (t:TypeId) (x:SV) (f:Nat):Tree (Eff T O):=
 match fieldsOf X t with
 |some fs=>match fs[f]? with
  |some fd=>match sizeT X fd.type with
   |some (_+1)=>match x with
    | .ptr k off=>retv (.ptr k (off+fd.offset))
    | .elt k i E j=>retv (.elt k i E (j+fd.offset))
    |_=> .fail
   |_=> .fail
  |none=> .fail
 |none=> .fail
def fieldTT (t:TypeId) (x:SV) (f:Nat):Tree (Eff T O):=
 match fieldsOf X t,x with
 |some fs, .agg cs=>match fs[f]? with
  |some fd=>match partT X fd.type cs fd.offset with
   |some v=>retv v
   |none=> .fail
  |none=> .fail
 |_,_=> .fail
def eltsT (E:Nat) (t:TypeId) (i:Int) (j:Nat) (e:Nat) (L:List (T e).α):Tree (Eff T O):=
 if (T e).n=E then chk (inb i L.length) (match partT X t ((T e).enc (at' (T e).zero L i)) j with
  |some v=>retv v
  |none=> .fail) else .fail
def atO {α:Type} (L:List (Option α)) (i:Int):Option α:=L.getD i.toNat none
def shiftP (fresh:Nat):Nat->List (Nat×Nat)
 |0=>[]
 |n+1=>(n,fresh+n)::shiftP fresh n
def pullG (π:List (Nat×Nat)) (i:Nat):List (Chunk T O)->Option (List (Nat×Option (Chunk T O)))
 |[]=>some []
 |c::l=>match c.rn π,pullG π (i+1) l with
  |some c,some u=>some ((i,some c)::u)
  |_,_=>none
def pullU (fresh:Nat) (l:List (Chunk T O)):Option (List (Nat×Option (Chunk T O))):=pullG (shiftP fresh l.length) fresh l
def loadT (fresh:Nat) (t:TypeId) (x:SV) (c:Chunk T O):Tree (Eff T O):=
 match x,c with
 | .ptr _ off, .cells cs _=>match partT X t cs off with
  |some v=>retv v
  |none=> .fail
 | .ptr _ off, .mix cs e n _ ds _=>match decide (off<cs.length) with
  |true=>(match partT X t cs off with
   |some v=>retv v
   |none=> .fail)
  |false=>if cs.length+n*(T e).n<=off then (match partT X t ds (off-(cs.length+n*(T e).n)) with
   |some v=>retv v
   |none=> .fail) else .fail
 | .ptr _ off, .tab cs _ n _ _ ds _=>match decide (off<cs.length) with
  |true=>(match partT X t cs off with
   |some v=>retv v
   |none=> .fail)
  |false=>if cs.length+n<=off then (match partT X t ds (off-(cs.length+n)) with
   |some v=>retv v
   |none=> .fail) else .fail
 | .elt k i E j, .tab cs o n L hole ds ty=>match hole,isAggT X t,sizeT X t,X.lay o with
  |none,some false,some _,some ℓ=>if E=1/\ j=cs.length then chk (inb i n) (.ite (atO L i).isSome (match pullU fresh ((ℓ.lay ((atO L i).getD ℓ.zero))) with
   |some u=> .ret { val:=some (.ptr fresh 0),upd:=(k,some (.tab cs o n L (some (i,fresh)) ds ty))::u }
   |none=> .fail) (retv (.raw (.pointer none)))) else .fail
  |some (i0,k0),some false,some _,some _=>if E=1/\ j=cs.length then chk (inb i n&&decide (i0=i)) (retv (.ptr k0 0)) else .fail
  |_,_,_,_=> .fail
 | .elt _ i E j, .mix cs e _ L _ _=>if cs.length<=j then eltsT X E t i (j-cs.length) e L else .fail
 | .elt _ i E j, .arr e L _=>eltsT X E t i j e L
 | .elt _ i E j, .vec e L _=>eltsT X E t i j e L
 | .elt _ i E j, .ro e L=>eltsT X E t i j e L
 | .elt _ i E j, .que e L _=>eltsT X E t i j e L
 | .elt _ i E j, .dro e1 e L=>if (T e1).n+1=E then (match isAggT X t,sizeT X t with
  |some true,some n=>if n=E/\ j=0 then chk (inb i L.length) (.ret { val:=some (.agg ((T e1).enc (at' ((T e1).zero,[]) L i).1++[.own fresh])),upd:=[(fresh,some (.ro e (at' ((T e1).zero,[]) L i).2))] }) else .fail
  |some false,some _=>(match decide (j=(T e1).n) with
   |true=>chk (inb i L.length) (.ret { val:=some (.own fresh),upd:=[(fresh,some (.ro e (at' ((T e1).zero,[]) L i).2))] })
   |false=>chk (inb i L.length) (match partT X t ((T e1).enc (at' ((T e1).zero,[]) L i).1) j with
    |some v=>retv v
    |none=> .fail))
  |_,_=> .fail) else .fail
 | .elt _ i E j, .nest e LL=>match isAggT X t,sizeT X t with
  |some false,some _=>if decide (E=1)&&decide (j=0) then chk (inb i LL.length) (.ret { val:=some (.own fresh),upd:=[(fresh,some (.ro e (at' [] LL i)))] }) else .fail
  |_,_=> .fail
 |_,_=> .fail
def setElt (E:Nat) (i:Int) (j:Nat) (new:List SV) (e:Nat) (L:List (T e).α) (f:List (T e).α->Tree (Eff T O)):Tree (Eff T O):=
 if decide ((T e).n=E)&&decide (j+new.length<=E) then chk (inb i L.length) (match (T e).dec (splice ((T e).enc (at' (T e).zero L i)) j new) with
  |some a=>f (L.set i.toNat a)
  |none=> .fail) else .fail
def storeT (t:TypeId) (x v:SV) (c:Chunk T O):Tree (Eff T O):=
 if decide (sizeT X t=some v.cells.length)&&v.cells.all SV.cell then
  match x,c with
  | .ptr k off, .cells cs ty=>if off+v.cells.length<=cs.length then .ret { val:=none,upd:=[(k,some (.cells (splice cs off v.cells) ty))] } else .fail
  | .ptr k off, .tab cs o n L hole ds ty=>match decide (off<cs.length) with
   |true=>if off+v.cells.length<=cs.length then .ret { val:=none,upd:=[(k,some (.tab (splice cs off v.cells) o n L hole ds ty))] } else .fail
   |false=>if cs.length+n<=off/\ off-(cs.length+n)+v.cells.length<=ds.length then .ret { val:=none,upd:=[(k,some (.tab cs o n L hole (splice ds (off-(cs.length+n)) v.cells) ty))] } else .fail
  | .elt k i E j, .tab cs o n L hole ds ty=>match hole,v with
   |none, .raw (.pointer none)=>if E=1/\ j=cs.length then chk (inb i n) (.ret { val:=none,upd:=[(k,some (.tab cs o n (L.set i.toNat none) none ds ty))] }) else .fail
   |some (i0,_), .raw (.pointer none)=>if E=1/\ j=cs.length then chk (inb i n&&decide (i0=i)) (.ret { val:=none,upd:=[(k,some (.tab cs o n (L.set i.toNat none) none ds ty))] }) else .fail
   |_,_=> .fail
  | .ptr k off, .mix cs e n L ds ty=>match decide (off<cs.length) with
   |true=>if off+v.cells.length<=cs.length then .ret { val:=none,upd:=[(k,some (.mix (splice cs off v.cells) e n L ds ty))] } else .fail
   |false=>if cs.length+n*(T e).n<=off/\ off-(cs.length+n*(T e).n)+v.cells.length<=ds.length then .ret { val:=none,upd:=[(k,some (.mix cs e n L (splice ds (off-(cs.length+n*(T e).n)) v.cells) ty))] } else .fail
  | .elt k i E j, .mix cs e n L ds ty=>if cs.length<=j then setElt E i (j-cs.length) v.cells e L fun L'=> .ret { val:=none,upd:=[(k,some (.mix cs e n L' ds ty))] } else .fail
  | .elt k i E j, .arr e L ty=>setElt E i j v.cells e L fun L'=> .ret { val:=none,upd:=[(k,some (.arr e L' ty))] }
  | .elt k i E j, .vec e L ty=>setElt E i j v.cells e L fun L'=> .ret { val:=none,upd:=[(k,some (.vec e L' ty))] }
  |_,_=> .fail
 else .fail
def indexAddrT (t:TypeId) (x i:SV) (c:Chunk T O):Tree (Eff T O):=
 match X.P.underlying t,i with
 |some (.array n el), .raw (.int _ i)=>match sizeT X el,x,c with
  |some E, .ptr k off, .arr e L _=>if decide ((T e).n=E)&&decide (off=0) then chk (L.length==n) (chk (inb i n) (retv (.elt k i E 0))) else
    (if decide (off=0)&&decide ((T e).n*(E/(T e).n)=E) then chk (inb i n) (retv (.elt k (i*(E/(T e).n:Nat)) (T e).n 0)) else .fail)
  |some E, .elt k i0 E0 j, .arr _ _ _=>if decide (E0=E) then chk (decide (0<=i0)) (chk (inb i n) (retv (.elt k (i0+i) E j))) else .fail
  |some E, .ptr k off, .cells _ _=>chk (inb i n) (retv (.ptr k (off+i.toNat*E)))
  |some E, .ptr k off, .tab cs _ n' _ _ _ _=>if off=cs.length/\ E=1/\ n'=n then chk (inb i n) (retv (.elt k i E off)) else .fail
  |some E, .ptr k off, .mix cs e n' _ _ _=>if off=cs.length/\ (T e).n=E/\ n'=n then chk (inb i n) (retv (.elt k i E off)) else .fail
  |some E, .elt k i0 E0 j, .ro _ _=>chk (inb i n) (retv (.elt k i0 E0 (j+i.toNat*E)))
  |some E, .elt k i0 E0 j, .vec _ _ _=>chk (inb i n) (retv (.elt k i0 E0 (j+i.toNat*E)))
  |_,_,_=> .fail
 |some (.slice el), .raw (.int _ i)=>match sizeT X el,x,c with
  |some E, .own k, .vec e L _=>if (T e).n=E then chk (inb i L.length) (retv (.elt k i E 0)) else .fail
  |some E, .own k, .ro e L=>if (T e).n=E then chk (inb i L.length) (retv (.elt k i E 0)) else .fail
  |some E, .own k, .que e L _=>if (T e).n=E then chk (inb i L.length) (retv (.elt k i E 0)) else .fail
  |some E, .own k, .dro e1 _ L=>if (T e1).n+1=E then chk (inb i L.length) (retv (.elt k i E 0)) else .fail
  |some E, .view k lo n E', .vec e L _=>if (T e).n=E/\ E'=E then chk (inb i n.toNat&&decide (0<=lo)&&decide (lo+n<=(L.length:Int))) (retv (.elt k (lo+i) E 0)) else .fail
  |some E, .aview k off n, .tab _ _ _ _ _ _ _=>if E=1 then chk (inb i n) (retv (.elt k i E off)) else .fail
  |some E, .own k, .nest _ LL=>if E=1 then chk (inb i LL.length) (retv (.elt k i E 0)) else .fail
  |_,_,_=> .fail
 |_,_=> .fail
def lenT (t:TypeId) (x:SV) (c:Option (Chunk T O)):Tree (Eff T O):=
 match X.P.underlying t,x,c with
 |some (.slice _), .own _,some (.vec _ L _)=>reti .i64 L.length
 |some (.slice _), .own _,some (.ro _ L)=>reti .i64 L.length
 |some (.slice _), .own _,some (.que _ L _)=>reti .i64 L.length
 |some (.slice _), .own _,some (.dro _ _ L)=>reti .i64 L.length
 |some (.slice _), .own _,some (.deep _ _ L _)=>reti .i64 L.length
 |some (.slice _), .own _,some (.nest _ LL)=>reti .i64 LL.length
 |some (.slice _), .view _ lo n _,some (.vec _ _ _)=>chk (decide (0<=lo)&&decide (0<=n)) (reti .i64 n)
 |some (.map _ _), .own _,some (.map _ L)=>reti .i64 L.length
 |some (.slice _), .raw (.slice _ n _),_=>reti .i64 n
 |some (.slice _), .aview _ _ n,_=>reti .i64 n
 |some .string, .raw (.string s),_=>reti .i64 s.size
 |_,_,_=> .fail
def extractT (x:SV) (i:Nat):Tree (Eff T O):=
 match x with
 | .tup vs=>match vs[i]? with
  |some v=>retv v
  |none=> .fail
 |_=> .fail
def nilCheckT (x:SV):Tree (Eff T O):=
 match x with
 | .ptr k off=>retv (.ptr k off)
 | .elt k i E j=>retv (.elt k i E j)
 | .fn f c=>retv (.fn f c)
 |_=> .fail
def maxMinT (mx:Bool) (x y:SV):Tree (Eff T O):=
 match x,y with
 | .raw (.int k a), .raw (.int k' b)=>if k=k' then reti k (match mx with
  |true=>if b>a then b else a
  |false=>if b<a then b else a) else .fail
 |_,_=> .fail
def assertT (x:SV) (asserted:TypeId) (ok:Bool):Tree (Eff T O):=
 match X.P.underlying asserted,x with
 |some (.interface _),_=> .fail
 |some _, .iface t v=>if t=asserted then retv (match ok with
   |true=> .tup [v, .raw (.bool true)]
   |false=>v)
  else match ok,(X.P.info? asserted).bind (·.zero) with
   |true,some z=>retv (.tup [svOf z, .raw (.bool false)])
   |_,_=> .fail
 |_,_=> .fail
def mkIfaceT (t:TypeId) (x:SV):Tree (Eff T O):=
 match X.P.underlying t with
 |some (.interface _)=> .fail
 |some _=>retv (.iface t x)
 |none=> .fail
def optB (o:Option Int) (d:Int):Int:=match o with
 |some n=>n
 |none=>d
def slOk (lo hi mx:Option Int) (n:Int):Bool:=
 decide (0<=optB lo 0)&&decide (optB lo 0<=optB hi n)&&decide (optB hi n<=n)&&(match mx with
  |none=>true
  |some m=>hi.isSome&&m==optB hi n)
def cutL {α:Type} (lo hi:Option Int) (L:List α):List α:=(match hi with
 |some h=>L.take h.toNat
 |none=>L).drop (optB lo 0).toNat
def takeI (b:Bool) (l:List (Option SV)):Option (Option Int×List (Option SV)):=match b,l with
 |false,l=>some (none,l)
 |true,some (.raw (.int _ n))::l=>some (some n,l)
 |_,_=>none
def sliceT (t:TypeId) (x:SV) (c:Option (Chunk T O)) (lo hi mx:Option Int):Tree (Eff T O):=
 match X.P.underlying t with
 |some (.slice el)=>match x,c with
  | .raw (.slice none 0 0),_=>if (sizeT0 X el).isSome then chk (slOk lo hi mx 0) (retv (.raw (.slice none 0 0))) else .fail
  | .own _,some (.ro e L)=>if sizeT0 X el=some (T e).n then chk (slOk lo hi mx L.length) (.ret { val:=some (.own fresh),upd:=[(fresh,some (.ro e (cutL lo hi L)))] }) else .fail
  | .own k,some (.vec e L el')=>if sizeT0 X el=some (T e).n then (match X.frz with
    |true=>chk (slOk lo hi mx L.length) (.ret { val:=some (.own fresh),upd:=[(k,some (.ro e L)),(fresh,some (.ro e (cutL lo hi L)))] })
    |false=>match X.vw with
    |true=>(match hi,mx with
     |none,none=>chk (slOk lo none none L.length) (retv (.view k (optB lo 0) ((L.length:Int)-optB lo 0) (T e).n))
     |some h,none=>(match lo with
      |none=>chk (slOk none (some h) none L.length) (retv (.view k 0 h (T e).n))
      |some _=> .fail)
     |_,_=> .fail)
    |false=>match mx with
     |none=>chk (slOk lo hi none L.length&&decide (optB lo 0=0)) (.ret { val:=some (.own fresh),upd:=[(k,none),(fresh,some (.vec e (cutL none hi L) el'))] })
     |some m=>if m=0 then (match hi with
      |some h=>if h=0/\ optB lo 0=0 then .ret { val:=some (.own fresh),upd:=[(fresh,some (.que e [] el'))] } else .fail
      |none=> .fail) else .fail) else .fail
  | .own k,some (.que e L el')=>if sizeT0 X el=some (T e).n then chk (slOk lo hi mx L.length) (.ret { val:=some (.own fresh),upd:=[(k,none),(fresh,some (.que e (cutL lo hi L) el'))] }) else .fail
  |_,_=> .fail
 |some (.array n el)=>match x,c,lo,hi,mx with
  | .ptr k off,some (.tab cs _ n' _ _ _ _),none,none,none=>if off=cs.length/\ n'=n/\ sizeT0 X el=some 1 then retv (.aview k off n) else .fail
  |_,_,_,_,_=> .fail
 |_=> .fail
def sliceA (t:TypeId) (blo bhi bmx:Bool) (args:List (Option SV)) (g:SV->Option (Chunk T O)):Tree (Eff T O):=match args with
 |some x::l=>match takeI blo l with
  |some (lo,l)=>match takeI bhi l with
   |some (hi,l)=>match takeI bmx l with
    |some (mx,[])=>sliceT X fresh t x (g x) lo hi mx
    |_=> .fail
   |none=> .fail
  |none=> .fail
 |_=> .fail
def castE {e e':Nat} (h:e=e') (L:List (T e).α):List (T e').α:=h▸L
def ownL (e:Nat) (el:TypeId) (s:SV) (c:Option (Chunk T O)):Option (List (T e).α×List (Nat×Option (Chunk T O))):=match s,c with
 | .raw (.slice none 0 0),_=>some ([],[])
 | .own k,some (.vec e' L el')=>match Nat.decEq e' e,el'==el with
  | .isTrue h,true=>some (castE h L,[(k,none)])
  |_,_=>none
 |_,_=>none
def castDD {e1 e1' e e':Nat} (h1:e1=e1') (h:e=e') (L:List ((T e1).α×List (T e).α)):List ((T e1').α×List (T e').α):=h▸h1▸L
def ownD (e1 e:Nat) (el:TypeId) (s:SV) (c:Option (Chunk T O)):Option (List ((T e1).α×List (T e).α)×Nat):=match s,c with
 | .own k,some (.deep a b L el')=>match Nat.decEq a e1,Nat.decEq b e,el'==el with
  | .isTrue h, .isTrue h',true=>some (castDD h h' L,k)
  |_,_,_=>none
 |_,_=>none
def ownQ (e:Nat) (el:TypeId) (s:SV) (c:Option (Chunk T O)):Option (List (T e).α×Nat):=match s,c with
 | .own k,some (.que e' L el')=>match Nat.decEq e' e,el'==el with
  | .isTrue h,true=>some (castE h L,k)
  |_,_=>none
 |_,_=>none
def anyL (e:Nat) (s:SV) (c:Option (Chunk T O)):Option (List (T e).α):=match s,c with
 | .raw (.slice none 0 0),_=>some []
 | .own _,some (.vec e' L _)=>match Nat.decEq e' e with
  | .isTrue h=>some (castE h L)
  |_=>none
 | .own _,some (.ro e' L)=>match Nat.decEq e' e with
  | .isTrue h=>some (castE h L)
  |_=>none
 | .own _,some (.que e' L _)=>match Nat.decEq e' e with
  | .isTrue h=>some (castE h L)
  |_=>none
 |_,_=>none
def roomy (n bytes:Nat):Bool:=decide (n*bytes<=140737488355328)
def zeroOk (e:Nat) (i:TypeInfo):Bool:=match i.zero with
 |some z=>decide (z.cells.size=(T e).n)&&decide (i.size=(T e).n)&&decide (0<(T e).n)&&decide (0<i.bytes)
 |none=>false
def zeroN (n:Nat) (i:TypeInfo):Bool:=match i.zero with
 |some z=>decide (z.cells.size=n)&&decide (i.size=n)&&decide (0<n)&&decide (0<i.bytes)
 |none=>false
def appendT (t:TypeId) (s x:SV) (cs cx:Option (Chunk T O)):Tree (Eff T O):=
 match X.P.underlying t with
 |some (.slice el)=>match X.te el,X.P.info? el with
  |some e,some i=>if zeroOk (T:=T) e i&&(s.head.all fun k=> !x.head.contains k) then (match ownL e el s cs,anyL e x cx with
   |some (L,up),some L'=>chk (roomy (L.length+L'.length) i.bytes) (.ret { val:=some (.own fresh),upd:=up++[(fresh,some (.vec e (L++L') el))] })
   |_,_=>(match ownQ e el s cs,anyL e x cx with
    |some (L,k),some L'=>chk (roomy (L.length+L'.length) i.bytes) (.ret { val:=some (.own fresh),upd:=[(k,none),(fresh,some (.que e (L++L') el))] })
    |_,_=> .fail)) else .fail
  |none,some i=>(match X.deep el with
   |some (e1,e)=>if zeroN ((T e1).n+1) i&&(s.head.all fun k=> !x.head.contains k) then (match ownD e1 e el s cs,ownD e1 e el x cx with
    |some (L,k),some (L',k')=>chk (roomy (L.length+L'.length) i.bytes) (.ret { val:=some (.own fresh),upd:=[(k,none),(k',none),(fresh,some (.deep e1 e (L++L') el))] })
    |_,_=> .fail) else .fail
   |none=> .fail)
  |_,_=> .fail
 |_=> .fail
def decParts (e:Nat):Nat->List (Nat×Option SV)->Option (List (T e).α)
 |_,[]=>some []
 |i,(j,some v)::l=>if decide (j=i)&&v.cells.all SV.cell then (match (T e).dec v.cells,decParts e (i+1) l with
  |some a,some L=>some (a::L)
  |_,_=>none) else none
 |_,_=>none
def buildSliceT (t:TypeId) (len:Nat) (parts:List (Nat×Option SV)):Tree (Eff T O):=
 match X.P.underlying t with
 |some (.slice el)=>match X.te el,X.P.info? el with
  |some e,some i=>if zeroOk (T:=T) e i&&decide (parts.length=len)&&decide (len*(T e).n<=2^24) then (match decParts e 0 parts with
   |some L=> .ret { val:=some (.own fresh),upd:=[(fresh,some (.vec e L el))] }
   |none=> .fail) else .fail
  |_,_=> .fail
 |_=> .fail
def buildDeepT (t:TypeId) (len:Nat) (parts:List (Nat×Option SV)) (g:Nat->Option (Chunk T O)):Tree (Eff T O):=
 match X.P.underlying t with
 |some (.slice el)=>match X.te el,X.deep el with
  |none,some (e1,e)=>(match X.P.info? el,len,parts with
   |some i,1,[(0,some (.agg cs))]=>if zeroN ((T e1).n+1) i&&decide ((T e1).n+1<=2^24)&&cs.all SV.cell then (match (T e1).dec (cs.take (T e1).n),cs.drop (T e1).n with
    |some a,[.own k]=>(match g k with
     |some (.vec e' L _)=>(match Nat.decEq e' e with
      | .isTrue h=> .ret { val:=some (.own fresh),upd:=[(k,none),(fresh,some (.deep e1 e [(a,castE h L)] el))] }
      |_=> .fail)
     |_=> .fail)
    |some a,[.raw (.slice none 0 0)]=> .ret { val:=some (.own fresh),upd:=[(fresh,some (.deep e1 e [(a,[])] el))] }
    |_,_=> .fail) else .fail
   |_,_,_=> .fail)
  |_,_=>buildSliceT X fresh t len parts
 |_=> .fail
def makeSliceT (t:TypeId) (l c:SV):Tree (Eff T O):=
 match X.P.underlying t,l,c with
 |some (.slice el), .raw (.int _ n), .raw (.int _ m)=>match X.te el,X.P.info? el with
  |some e,some i=>if zeroOk (T:=T) e i then (match (i.zero.bind fun z=>(T e).dec ((svOf z).cells)) with
   |some a=>chk (decide (0<=n)&&decide (n=m)&&roomy n.toNat i.bytes) (.ret { val:=some (.own fresh),upd:=[(fresh,some (.vec e (List.replicate n.toNat a) el))] })
   |none=> .fail) else .fail
  |_,_=> .fail
 |_,_,_=> .fail
def mget {α:Type} (k:Int):List (Int×α)->Option α
 |[]=>none
 |(j,a)::l=>if j=k then some a else mget k l
def mput {α:Type} (k:Int) (a:α):List (Int×α)->List (Int×α)
 |[]=>[(k,a)]
 |(j,b)::l=>if j=k then (j,a)::l else (j,b)::mput k a l
def mdel {α:Type} (k:Int):List (Int×α)->List (Int×α)
 |[]=>[]
 |(j,b)::l=>if j=k then l else (j,b)::mdel k l
def decV (e:Nat) (v:SV):Option (T e).α:=match (T e).agg with
 |true=>match v with
  | .agg cs=>(T e).dec cs
  |_=>none
 |false=>(T e).dec [v]
def valT (e:Nat) (a:(T e).α):Option SV:=match (T e).agg with
 |true=>some (.agg ((T e).enc a))
 |false=>match (T e).enc a with
  |[v]=>some v
  |_=>none
def zeroE (el:TypeId) (e:Nat):Option (T e).α:=match X.P.info? el with
 |some i=>match i.zero with
  |some z=>decV e (svOf z)
  |none=>none
 |none=>none
def keyI (s:Bool) (kt:TypeId) (key:SV):Option Int:=match s with
 |false=>match X.P.underlying kt,key with
  |some (.int .i64), .raw (.int .i64 n)=>some n
  |_,_=>none
 |true=>match X.P.underlying kt,key with
  |some .string, .raw (.string b)=>match b.data.toList with
   |[c]=>some (c.toNat:Int)
   |_=>none
  |_,_=>none
def mapE (t el:TypeId):Option Nat:=match X.te t with
 |some e=>some e
 |none=>X.te el
def lookE (el:TypeId) (e:Nat) (n:Int) (L:List (Int×(T e).α)) (ok:Bool):Tree (Eff T O):=match zeroE X el e with
 |some z=>match valT e ((mget n L).getD z) with
  |some v=>retv (match ok with
   |true=> .tup [v, .raw (.bool (mget n L).isSome)]
   |false=>v)
  |none=> .fail
 |none=> .fail
def lookupT (t:TypeId) (m key:SV) (ok:Bool) (c:Option (Chunk T O)):Tree (Eff T O):=
 match X.P.underlying t with
 |some (.map kt el)=>match m,c with
  | .own _,some (.map e L)=>match keyI X (T e).skey kt key with
   |some n=>lookE X el e n L ok
   |none=> .fail
  | .raw (.map none),_=>match mapE X t el with
   |some e=>match keyI X (T e).skey kt key with
    |some n=>lookE X el e n [] ok
    |none=> .fail
   |none=> .fail
  |_,_=> .fail
 |_=> .fail
def mapUpdateT (t:TypeId) (m key v:SV) (c:Option (Chunk T O)):Tree (Eff T O):=
 match X.P.underlying t with
 |some (.map kt _)=>match m,c with
  | .own k,some (.map e L)=>match keyI X (T e).skey kt key,decV e v with
   |some n,some a=> .ret { val:=none,upd:=[(k,some (.map e (mput n a L)))] }
   |_,_=> .fail
  |_,_=> .fail
 |_=> .fail
def deleteT (t:TypeId) (m key:SV) (c:Option (Chunk T O)):Tree (Eff T O):=
 match X.P.underlying t with
 |some (.map kt _)=>match m,c with
  | .own k,some (.map e L)=>match keyI X (T e).skey kt key with
   |some n=> .ret { val:=some (.tup []),upd:=[(k,some (.map e (mdel n L)))] }
   |none=> .fail
  |_,_=> .fail
 |_=> .fail
def clearT (t:TypeId) (m:SV) (c:Option (Chunk T O)):Tree (Eff T O):=
 match X.P.underlying t,m,c with
 |some (.map _ _), .own k,some (.map e _)=> .ret { val:=some (.tup []),upd:=[(k,some (.map e []))] }
 |_,_,_=> .fail
def makeMapT (t:TypeId) (rs:Option Operand):Tree (Eff T O):=
 match X.P.underlying t,rs with
 |some (.map _ el),none=>match mapE X t el with
  |some e=> .ret { val:=some (.own fresh),upd:=[(fresh,some (.map e []))] }
  |none=> .fail
 |_,_=> .fail
def strAt (s:ByteArray) (i:Int):Int:=((s.data[i.toNat]?.getD 0).toNat:Int)
def indexT (t:TypeId) (x i:SV):Tree (Eff T O):=
 match X.P.underlying t,x,i with
 |some (.array n el), .agg cs, .raw (.int _ i)=>match sizeT0 X el with
  |some E=>chk (inb i n) (match partT X el cs (i.toNat*E) with
   |some v=>retv v
   |none=> .fail)
  |none=> .fail
 |some .string, .raw (.string s), .raw (.int _ i)=>chk (inb i s.data.size) (reti .u8 (strAt s i))
 |_,_,_=> .fail
def union (l:List Nat):List Nat->List Nat
 |[]=>l
 |x::m=>if l.contains x then union l m else union (l++[x]) m
def chIds (g:Nat->Option (Chunk T O)) (k:Nat):List Nat:=match g k with
 |some c=>c.ids
 |none=>[]
def reachIds (g:Nat->Option (Chunk T O)):Nat->List Nat->List Nat
 |0,l=>l
 |n+1,l=>reachIds g n (union l (l.flatMap (chIds g)))
def chunksAt (g:Nat->Option (Chunk T O)) (π:List (Nat×Nat)):List Nat->Option (List (Chunk T O))
 |[]=>some []
 |k::l=>match (g k).bind (·.rn π),chunksAt g π l with
  |some c,some cs=>some (c::cs)
  |_,_=>none
def number (i:Nat):List Nat->List (Nat×Nat)
 |[]=>[]
 |k::l=>(k,i)::number (i+1) l
def numberBack (i:Nat):List Nat->List (Nat×Nat)
 |[]=>[]
 |k::l=>(i,k)::numberBack (i+1) l
def stride:Nat:=16
def newIds (n fresh:Nat):Nat->List (Nat×Nat)
 |0=>[]
 |i+1=>(n+i,fresh+i)::newIds n fresh i
def Tree.mapO {ε δ:Type} (f:ε->Option δ):Tree ε->Tree δ
 | .ret e=>match f e with
  |some d=> .ret d
  |none=> .fail
 | .fail=> .fail
 | .ite b t u=> .ite b (t.mapO f) (u.mapO f)
def callT (f:FuncId) (args:List SV) (ids:List Nat) (g:Nat->Option (Chunk T O)):Tree (Eff T O):=
 match rnL (number 0 ids) args,chunksAt g (number 0 ids) ids with
 |some args',some cs=>(X.con f args' cs).mapO (Eff.rn (numberBack 0 ids++newIds ids.length fresh stride))
 |_,_=> .fail
def headC (g:Nat->Option (Chunk T O)) (x:SV):Option (Chunk T O):=match x.head with
 |[k]=>g k
 |_=>none
def allSome:List (Option SV)->Option (List SV)
 |[]=>some []
 |some v::l=>(allSome l).map (v:: ·)
 |none::_=>none
def head1 (args:List (Option SV)):List Nat:=match args with
 |some x::_=>x.head
 |_=>[]
def footV (g:Nat->Option (Chunk T O)) (args:List (Option SV)):List Nat:=match args with
 |some (.fn _ cap)::rest=>match allSome rest with
  |some vs=>reachIds g 4 (union [] (idsL (vs++cap)))
  |none=>[]
 |some (.bfn _ first)::rest=>match allSome rest with
  |some vs=>reachIds g 4 (union [] (idsL (first++vs)))
  |none=>[]
 |_=>[]
def head2 (args:List (Option SV)):List Nat:=match args with
 |some x::some y::_=>x.head++y.head
 |_=>[]
def mapFoot (args:List (Option SV)):List Nat:=match args with
 |[some (.own k),some (.raw (.map none))]=>[k]
 |_=>[]
def footS (g:Nat->Option (Chunk T O)) (args:List (Option SV)):List Nat:=match args with
 |[some (.elt k _ _ _),some (.ptr k' _)]=>(match g k with
  |some (.tab _ _ _ _ _ _ _)=>k::reachIds g 4 [k']
  |_=>[k])
 |_=>head1 args
def footB (args:List (Option SV)):List Nat:=match args with
 |some (.agg cs)::_=>(match cs.getLast? with
  |some s=>s.head
  |none=>[])
 |_=>[]
def opFoot (g:Nat->Option (Chunk T O)) (op:Op) (args:List (Option SV)):List Nat:=
 match op with
 | .load .. =>head1 args
 | .store .. =>footS g args
 | .buildSlice .. =>footB args
 | .indexAddr .. =>head1 args
 | .slice .. =>head1 args
 | .lookup .. =>head1 args
 | .mapUpdate .. =>head1 args
 | .binOp .. =>mapFoot args
 | .call c=>match c.callee with
  | .builtin b=>match b with
   | .append=>head2 args
   | .copy=>head2 args
   |_=>head1 args
  | .value _=>footV g args
  | .invoke .. =>[]
 |_=>[]
def cpyD (n:Nat):SV->Option (Nat×Int×Int)
 | .own k=>some (k,0,n)
 | .view k lo m E=>if E=1 then some (k,lo,m) else none
 |_=>none
def cpyS (e:Nat) (x:SV) (c:Option (Chunk T O)):Option (List (T e).α×Int×Int):=match x,c with
 | .own _,some (.vec e' L _)=>match Nat.decEq e' e with
  | .isTrue h=>some (castE h L,0,L.length)
  |_=>none
 | .own _,some (.ro e' L)=>match Nat.decEq e' e with
  | .isTrue h=>some (castE h L,0,L.length)
  |_=>none
 | .view _ lo m E,some (.vec e' L _)=>match Nat.decEq e' e with
  | .isTrue h=>if E=1 then some (castE h L,lo,m) else none
  |_=>none
 |_,_=>none
def spanOk (lo m:Int) (n:Nat):Bool:=decide (0<=lo)&&decide (0<=m)&&decide (lo+m<=(n:Int))
def cpyN (a b:Int):Int:=if a<b then a else b
def layL {α:Type} (L:List α) (o:Nat) (S:List α):List α:=L.take o++S++L.drop (o+S.length)
def copyT (t:TypeId) (d s:SV) (cd cs:Option (Chunk T O)):Tree (Eff T O):=match X.P.underlying t with
 |some (.slice el)=>match sizeT0 X el,cd with
  |some 1,some (.vec e L el')=>if (T e).n=1 then (match cpyD L.length d,cpyS e s cs with
   |some (k,lo,m),some (L',lo',m')=>chk (spanOk lo m L.length&&spanOk lo' m' L'.length) (.ret { val:=some (.raw (.int .i64 (cpyN m' m))),upd:=[(k,some (.vec e (layL L lo.toNat ((L'.drop lo'.toNat).take (cpyN m' m).toNat)) el'))] })
   |_,_=> .fail) else .fail
  |_,_=> .fail
 |_=> .fail
def u1 (args:List (Option SV)) (f:SV->Tree (Eff T O)):Tree (Eff T O):=match args with
 |[some x]=>f x
 |_=> .fail
def u2 (args:List (Option SV)) (f:SV->SV->Tree (Eff T O)):Tree (Eff T O):=match args with
 |[some x,some y]=>f x y
 |_=> .fail
def onHead (g:Nat->Option (Chunk T O)) (x:SV) (f:Chunk T O->Tree (Eff T O)):Tree (Eff T O):=match headC g x with
 |some c=>f c
 |none=> .fail
def optT (a:Option SV):Tree (Eff T O):=match a with
 |some a=>retv a
 |none=> .fail
def pickT (args:List (Option SV)):Tree (Eff T O):=match args with
 |[some (.raw (.bool c)),a,b]=> .ite c (optT a) (optT b)
 |_=> .fail
def funcT (f:Fn) (first:Array Operand) (args:List (Option SV)):Tree (Eff T O):=match f with
 | .func f=>if first.size=0 then (match allSome args with
  |some vs=>retv (.fn f vs)
  |none=> .fail) else (match allSome args with
  |some vs=>if first.size=vs.length then retv (.bfn f vs) else .fail
  |none=> .fail)
 |_=> .fail
def callVT (args:List (Option SV)) (g:Nat->Option (Chunk T O)) (ids:List Nat):Tree (Eff T O):=match args with
 |some (.fn f cap)::rest=>match allSome rest with
  |some vs=>callT X fresh f (vs++cap) ids g
  |none=> .fail
 |some (.bfn f first)::rest=>match allSome rest with
  |some vs=>callT X fresh f (first++vs) ids g
  |none=> .fail
 |_=> .fail
def u3 (args:List (Option SV)) (f:SV->SV->SV->Tree (Eff T O)):Tree (Eff T O):=match args with
 |[some x,some y,some z]=>f x y z
 |_=> .fail
def callBT (b:Builtin) (tys:Array TypeId) (args:List (Option SV)) (g:Nat->Option (Chunk T O)):Tree (Eff T O):=match b with
 | .len=>u1 args fun x=>match tys[0]? with
  |some t=>lenT X t x (headC g x)
  |none=> .fail
 | .append=>u2 args fun s x=>match tys[0]?,tys[1]? with
  |some t,some t'=>if t=t'/\ tys.size=2 then appendT X fresh t s x (headC g s) (headC g x) else .fail
  |_,_=> .fail
 | .copy=>u2 args fun d s=>match tys[0]?,tys[1]? with
  |some t,some t'=>if t=t'/\ tys.size=2 then copyT X t d s (headC g d) (headC g s) else .fail
  |_,_=> .fail
 | .delete=>u2 args fun m k=>match tys[0]? with
  |some t=>deleteT X t m k (headC g m)
  |none=> .fail
 | .clear=>u1 args fun m=>match tys[0]? with
  |some t=>clearT X t m (headC g m)
  |none=> .fail
 | .max=>u2 args (maxMinT true)
 | .min=>u2 args (maxMinT false)
 |_=> .fail
def takeO (o:Nat) (g:Nat->Option (Chunk T O)) (k':Nat):Option (O o×List Nat):=match X.lay o with
 |some ℓ=>(fun ids=>match chunksAt g (number 0 ids) ids with
  |some l=>(ℓ.unlay l).map fun d=>(d,ids)
  |none=>none) (reachIds g 4 [k'])
 |none=>none
def goneU (l:List Nat):List (Nat×Option (Chunk T O)):=l.map fun k=>(k,none)
def storeP (t:TypeId) (g:Nat->Option (Chunk T O)) (x v:SV) (c:Chunk T O):Tree (Eff T O):=match c,x,v with
 | .tab cs o n L hole ds ty, .elt k i E j, .ptr k' off=>match hole,takeO X o g k',sizeT X t with
  |none,some (d,ids),some 1=>if E=1/\ j=cs.length/\ off=0/\ (!ids.contains k)=true then chk (inb i n) (.ret { val:=none,upd:=(k,some (.tab cs o n (L.set i.toNat (some d)) none ds ty))::goneU ids }) else .fail
  |some (i0,_),some (d,ids),some 1=>if E=1/\ j=cs.length/\ off=0/\ (!ids.contains k)=true then chk (inb i n&&decide (i0=i)) (.ret { val:=none,upd:=(k,some (.tab cs o n (L.set i.toNat (some d)) none ds ty))::goneU ids }) else .fail
  |_,_,_=> .fail
 |c,x,v=>storeT X t x v c
def opRun (op:Op) (args:List (Option SV)) (g:Nat->Option (Chunk T O)) (ids:List Nat):Tree (Eff T O):=
 match op with
 | .move _=>u1 args retv
 | .assign _=>u1 args retv
 | .pick .. =>pickT args
 | .alloc t=>allocT X fresh t
 | .box t _=>u1 args (boxT X fresh t)
 | .build t ps=>buildT X t ((ps.toList.map (·.1)).zip args)
 | .load t _=>u1 args fun x=>onHead g x fun c=>loadT X fresh t x c
 | .store t _ _=>u2 args fun x v=>onHead g x fun c=>storeP X t g x v c
 | .nilCheck _=>u1 args nilCheckT
 | .binOp op t _ _ _=>u2 args fun x y=>binM X t op x y (headC g x)
 | .unOp op _ _=>u1 args (unT op)
 | .convert s d _=>u1 args (convT X s d)
 | .makeInterface t _=>u1 args (mkIfaceT X t)
 | .makeFunc f first _=>funcT f first args
 | .fieldAddr t _ f=>u1 args fun x=>fieldAddrT X t x f
 | .field t _ f=>u1 args fun x=>fieldTT X t x f
 | .buildSlice t n ps=>buildDeepT X fresh t n ((ps.toList.map (·.1)).zip args) g
 | .makeSlice t _ _=>u2 args (makeSliceT X fresh t)
 | .slice t _ lo hi mx=>sliceA X fresh t lo.isSome hi.isSome mx.isSome args (headC g)
 | .makeMap t rs=>makeMapT X fresh t rs
 | .lookup t _ _ ok=>u2 args fun m k=>lookupT X t m k ok (headC g m)
 | .mapUpdate t _ _ _=>u3 args fun m k v=>mapUpdateT X t m k v (headC g m)
 | .index t _ _=>u2 args (indexT X t)
 | .indexAddr t _ _=>u2 args fun x i=>onHead g x fun c=>indexAddrT X t x i c
 | .typeAssert _ _ a ok=>u1 args fun x=>assertT X x a ok
 | .extract _ i=>u1 args fun x=>extractT x i
 | .call c=>match c.callee with
  | .builtin b=>callBT X fresh b c.argTypes args g
  | .value _=>callVT X fresh args g ids
  | .invoke .. => .fail
 |_=> .fail
end ops
end
end Go.Sx