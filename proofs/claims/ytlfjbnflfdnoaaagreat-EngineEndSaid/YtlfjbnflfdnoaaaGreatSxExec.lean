/-
  Part of a proof over the seat YtlfjbnflfdnoaaaGreat: printed by a small program or typed by hand.
-/
import Derived.Test.YtlfjbnflfdnoaaaGreatSxDefs
/-
 Sx:the executor of regions and of code;how a state is met by another one,up to the chunks' numbers.
-/
namespace Go.Sx
section
variable {T:Nat->Enc} {O:Nat->Type}
structure Touch where
 idx:Nat
 rd:List Nat
 wr:List Nat
 crd:List Nat
 cwr:List Nat
def tmpsOf (o:Oper):List Nat:=o.op.operands.toList.filterMap fun
 | .tmp t=>some t
 |_=>none
def disj (a b:List Nat):Bool:=a.all fun x=> !b.contains x
def Touch.apart (a b:Touch):Bool:=
 disj a.wr b.rd&&disj a.wr b.wr&&disj a.rd b.wr&&disj a.cwr b.crd&&disj a.cwr b.cwr&&disj a.crd b.cwr
def behind (o:Oper) (acc:List Nat):Nat:=o.after.toList.foldl (fun s e=>if Region.binds .any e then s|||(2^e.on|||acc.getD e.on 0) else s) 0
def befGo:List Oper->List Nat->List Nat
 |[],acc=>acc
 |o::l,acc=>befGo l (acc++[behind o acc])
def befs (l:List Oper):List Nat:=befGo l []
def edgesOk:List Oper->Nat->Bool
 |[],_=>true
 |o::l,i=>(o.after.toList.all fun e=> !Region.binds .any e||decide (e.on<i))&&edgesOk l (i+1)
def orderly (before:List Nat):List Touch->Bool
 |[]=>true
 |b::l=>(l.all fun a=>(before.getD b.idx 0).testBit a.idx||a.apart b)&&orderly before l
def Eff.ids (e:Eff T O):List Nat:=
 (match e.val with
 |some v=>v.ids
 |none=>[])++e.upd.flatMap fun p=>match p.2 with
  |some c=>c.ids
  |none=>[]
def idOk (draw:Bool) (before:List Nat) (base i id:Nat):Bool:=
 decide (id<base+stride*(i+1))&&(decide (id<base)||decide (base+stride*i<=id)|| !draw||(before.getD i 0).testBit ((id-base)/stride))
def effOk (draw:Bool) (before:List Nat) (base i:Nat) (ids:List Nat) (e:Eff T O):Bool:=
 e.ids.all (idOk draw before base i)&&e.upd.all fun p=>ids.contains p.1||(decide (base+stride*i<=p.1)&&decide (p.1<base+stride*(i+1)))
mutual
def genV:SV->(SV->Prop)->Prop
 | .raw (.int k n),K=> ∀m:Int,m=n->K (.raw (.int k m))
 | .agg cs,K=>genVL cs fun cs'=>K (.agg cs')
 | .tup cs,K=>genVL cs fun cs'=>K (.tup cs')
 | .iface t v,K=>genV v fun v'=>K (.iface t v')
 |v,K=>K v
def genVL:List SV->(List SV->Prop)->Prop
 |[],K=>K []
 |v::vs,K=>genV v fun v'=>genVL vs fun vs'=>K (v'::vs')
end
def genC:Chunk T O->(Chunk T O->Prop)->Prop
 | .cells cs t,K=>genVL cs fun cs'=>K (.cells cs' t)
 | .arr e L t,K=> ∀L',L'=L->K (.arr e L' t)
 | .vec e L t,K=> ∀L',L'=L->K (.vec e L' t)
 | .ro e L,K=> ∀L',L'=L->K (.ro e L')
 | .nest e L,K=> ∀L',L'=L->K (.nest e L')
 | .que e L t,K=> ∀L',L'=L->K (.que e L' t)
 | .deep e1 e L t,K=> ∀L',L'=L->K (.deep e1 e L' t)
 | .dro e1 e L,K=> ∀L',L'=L->K (.dro e1 e L')
 | .map e L,K=> ∀L',L'=L->K (.map e L')
 | .obj o d,K=> ∀d',d'=d->K (.obj o d')
 | .tab cs o n L hole ds t,K=>genVL cs fun cs'=> ∀L',L'=L->genVL ds fun ds'=>K (.tab cs' o n L' hole ds' t)
 | .mix cs e n L ds t,K=>genVL cs fun cs'=> ∀L',L'=L->genVL ds fun ds'=>K (.mix cs' e n L' ds' t)
def genU:List (Nat×Option (Chunk T O))->(List (Nat×Option (Chunk T O))->Prop)->Prop
 |[],K=>K []
 |(k,none)::l,K=>genU l fun l'=>K ((k,none)::l')
 |(k,some c)::l,K=>genC c fun c'=>genU l fun l'=>K ((k,some c')::l')
def genE (e:Eff T O) (K:Eff T O->Prop):Prop:=match e.val with
 |none=>genU e.upd fun u=>K ⟨none,u⟩
 |some v=>genV v fun v'=>genU e.upd fun u=>K ⟨some v',u⟩
def isCallOp:Op->Bool
 | .call c=>match c.callee with
  | .value _=>true
  |_=>false
 |_=>false
def genX (X:Ctx T O) (op:Op) (e:Eff T O) (K:Eff T O->Prop):Prop:=match X.gen&&isCallOp op with
 |true=>genE e K
 |false=>K e
def runX (X:Ctx T O) (draw:Bool) (before:List Nat) (base:Nat) (o:Oper) (i:Nat) (gd:List Nat) (S:SS T O) (K:Touch->SS T O->Prop):Prop:=
 (fun args=>(fun ids=>(opRun X (base+stride*i) o.op args S.get ids).holds fun e=>
  match effOk draw before base i ids e with
  |true=>genX X o.op e fun e'=>K ⟨i,tmpsOf o++gd,o.dst.toList,ids,e.upd.map (·.1)⟩ (S.app o.dst e')
  |false=>False) (opFoot S.get o.op args)) (o.op.operands.toList.map (opdT S.tmps))
def skipX (o:Oper) (i:Nat) (gd:List Nat) (S:SS T O) (K:Touch->SS T O->Prop):Prop:=
 K ⟨i,gd,o.dst.toList,[],[]⟩ { S with tmps:=putT o.dst (some (.tup [])) S.tmps }
def opsX (X:Ctx T O) (draw:Bool) (before:List Nat) (ops:Array Oper) (base:Nat):List Oper->Nat->List Touch->SS T O->(List Touch->SS T O->Prop)->Prop
 |[],_,ts,S,K=>K ts S
 |o::rest,i,ts,S,K=>
  match o.guard with
  |none=>runX X draw before base o i [] S fun t S=>opsX X draw before ops base rest (i+1) (t::ts) S K
  |some (j,want)=>match (ops[j]?).bind (·.dst) with
   |some g=>match getT S.tmps g with
    |some (.raw (.bool b))=>match b with
     |true=>(fun S'=>match want with
      |true=>runX X draw before base o i [g] S' fun t S=>opsX X draw before ops base rest (i+1) (t::ts) S K
      |false=>skipX o i [g] S' fun t S=>opsX X draw before ops base rest (i+1) (t::ts) S K) { S with tmps:=setT (some (.raw (.bool true))) S.tmps g }
     |false=>(fun S'=>match want with
      |true=>skipX o i [g] S' fun t S=>opsX X draw before ops base rest (i+1) (t::ts) S K
      |false=>runX X draw before base o i [g] S' fun t S=>opsX X draw before ops base rest (i+1) (t::ts) S K) { S with tmps:=setT (some (.raw (.bool false))) S.tmps g }
    |some (.tup [])=>skipX o i [g] S fun t S=>opsX X draw before ops base rest (i+1) (t::ts) S K
    |_=>False
   |none=>False
def regX (X:Ctx T O) (ops:Array Oper) (draw:Bool) (S:SS T O) (K:SS T O->Prop):Prop:=
 (fun before=>opsX X draw before ops S.next ops.toList 0 [] S fun ts S'=>match draw with
  |true=>(match orderly before ts&&edgesOk ops.toList 0 with
   |true=>K { S' with next:=S.next+stride*ops.size }
   |false=>False)
  |false=>K { S' with next:=S.next+stride*ops.size }) (match draw with
  |true=>befs ops.toList
  |false=>[])
mutual
def SV.pairs:SV->SV->List (Nat×Nat)
 | .ptr k _, .ptr k' _=>[(k,k')]
 | .elt k _ _ _, .elt k' _ _ _=>[(k,k')]
 | .own k, .own k'=>[(k,k')]
 | .view k _ _ _, .view k' _ _ _=>[(k,k')]
 | .agg cs, .agg cs'=>pairsL cs cs'
 | .tup cs, .tup cs'=>pairsL cs cs'
 | .iface _ v, .iface _ v'=>v.pairs v'
 | .fn _ cs, .fn _ cs'=>pairsL cs cs'
 | .bfn _ cs, .bfn _ cs'=>pairsL cs cs'
 | .aview k _ _, .aview k' _ _=>[(k,k')]
 |_,_=>[]
def pairsL:List SV->List SV->List (Nat×Nat)
 |v::vs,v'::vs'=>v.pairs v'++pairsL vs vs'
 |_,_=>[]
end
def pairsT:List (Option SV)->List (Option SV)->List (Nat×Nat)
 |some v::l,some v'::l'=>v.pairs v'++pairsT l l'
 |_::l,_::l'=>pairsT l l'
 |_,_=>[]
def pairsC (A B:List (Nat×Chunk T O)):List (Nat×Nat)->List (Nat×Nat)
 |[]=>[]
 |(k,k')::l=>(match lookK k A,lookK k' B with
  |some (.cells cs _),some (.cells cs' _)=>pairsL cs cs'
  |some (.tab cs _ _ _ hole ds _),some (.tab cs' _ _ _ hole' ds' _)=>(match hole,hole' with
   |some (_,k),some (_,k')=>[(k,k')]
   |_,_=>[])++pairsL cs cs'++pairsL ds ds'
  |some (.mix cs _ _ _ ds _),some (.mix cs' _ _ _ ds' _)=>pairsL cs cs'++pairsL ds ds'
  |_,_=>[])++pairsC A B l
def addNew (π:List (Nat×Nat)):List (Nat×Nat)->List (Nat×Nat)
 |[]=>π
 |(k,k')::l=>match lookK k π with
  |some _=>addNew π l
  |none=>addNew ((k,k')::π) l
def growPairs (A B:List (Nat×Chunk T O)):Nat->List (Nat×Nat)->List (Nat×Nat)
 |0,π=>π
 |n+1,π=>growPairs A B n (addNew π (pairsC A B π))
def Chunk.owned:Chunk T O->Bool
 | .ro _ _=>false
 | .nest _ _=>false
 | .dro _ _ _=>false
 |_=>true
def roAt (B:List (Nat×Chunk T O)) (k:Nat):Bool:=match lookK k B with
 |some c=> !c.owned
 |none=>false
def one2one (B:List (Nat×Chunk T O)):List (Nat×Nat)->Bool
 |[]=>true
 |(k,k')::l=>l.all (fun p=>p.1 !=k&&(p.2 !=k'||(roAt B k&&roAt B p.1)))&&one2one B l
mutual
def SV.same:SV->SV->Prop
 | .raw (.int k a), .raw (.int k' b)=>match decide (k=k') with
  |true=>a=b
  |false=>False
 | .raw (.bool a), .raw (.bool b)=>a=b
 | .ptr k off, .ptr k' off'=>match k==k'&&off==off' with
  |true=>True
  |false=>False
 | .own k, .own k'=>match k==k' with
  |true=>True
  |false=>False
 | .view k lo n E, .view k' lo' n' E'=>(match k==k'&&E==E' with
  |true=>lo=lo'/\ n=n'
  |false=>False)
 | .elt k i E j, .elt k' i' E' j'=>(match k==k'&&E==E'&&j==j' with
  |true=>i=i'
  |false=>False)
 | .agg cs, .agg cs'=>sameL cs cs'
 | .tup cs, .tup cs'=>sameL cs cs'
 | .iface t v, .iface t' v'=>match t==t' with
  |true=>v.same v'
  |false=>False
 | .fn f cs, .fn f' cs'=>match f==f' with
  |true=>sameL cs cs'
  |false=>False
 | .bfn f cs, .bfn f' cs'=>match f==f' with
  |true=>sameL cs cs'
  |false=>False
 | .raw v, .raw v'=>v=v'
 | .aview k off n, .aview k' off' n'=>match k==k'&&off==off'&&n==n' with
  |true=>True
  |false=>False
 |_,_=>False
def sameL:List SV->List SV->Prop
 |[],[]=>True
 |v::vs,v'::vs'=>v.same v'/\ sameL vs vs'
 |_,_=>False
end
def castL {e e':Nat} (h:e=e') (L:List (T e).α):List (T e').α:=h▸L
def castN {e e':Nat} (h:e=e') (L:List (List (T e).α)):List (List (T e').α):=h▸L
def castD {e1 e1' e e':Nat} (h1:e1=e1') (h:e=e') (L:List ((T e1).α×List (T e).α)):List ((T e1').α×List (T e').α):=h▸h1▸L
def castM {e e':Nat} (h:e=e') (L:List (Int×(T e).α)):List (Int×(T e').α):=h▸L
def castP {o o':Nat} (h:o=o') (L:List (Option (O o))):List (Option (O o')):=h▸L
def castO {o o':Nat} (h:o=o') (d:O o):O o':=h▸d
def Chunk.same:Chunk T O->Chunk T O->Prop
 | .cells cs t, .cells cs' t'=>match t==t' with
  |true=>sameL cs cs'
  |false=>False
 | .arr e L t, .arr e' L' t'=>match Nat.decEq e e',t==t' with
  | .isTrue h,true=>castL h L=L'
  |_,_=>False
 | .vec e L t, .vec e' L' t'=>match Nat.decEq e e',t==t' with
  | .isTrue h,true=>castL h L=L'
  |_,_=>False
 | .ro e L, .ro e' L'=>match Nat.decEq e e' with
  | .isTrue h=>castL h L=L'
  |_=>False
 | .nest e L, .nest e' L'=>match Nat.decEq e e' with
  | .isTrue h=>castN h L=L'
  |_=>False
 | .que e L t, .que e' L' t'=>match Nat.decEq e e',t==t' with
  | .isTrue h,true=>castL h L=L'
  |_,_=>False
 | .deep e1 e L t, .deep e1' e' L' t'=>match Nat.decEq e1 e1',Nat.decEq e e',t==t' with
  | .isTrue h1, .isTrue h,true=>castD h1 h L=L'
  |_,_,_=>False
 | .dro e1 e L, .dro e1' e' L'=>match Nat.decEq e1 e1',Nat.decEq e e' with
  | .isTrue h1, .isTrue h=>castD h1 h L=L'
  |_,_=>False
 | .map e L, .map e' L'=>match Nat.decEq e e' with
  | .isTrue h=>castM h L=L'
  |_=>False
 | .obj o d, .obj o' d'=>match Nat.decEq o o' with
  | .isTrue h=>castO h d=d'
  |_=>False
 | .tab cs o n L hole ds t, .tab cs' o' n' L' hole' ds' t'=>match Nat.decEq o o',n==n'&&t==t' with
  | .isTrue h,true=>sameL cs cs'/\ castP h L=L'/\ sameL ds ds'/\ (match hole,hole' with
   |none,none=>True
   |some (i,k),some (i',k')=>(match k==k' with
    |true=>i=i'
    |false=>False)
   |_,_=>False)
  |_,_=>False
 | .mix cs e n L ds t, .mix cs' e' n' L' ds' t'=>match Nat.decEq e e',n==n'&&t==t' with
  | .isTrue h,true=>sameL cs cs'/\ castL h L=L'/\ sameL ds ds'
  |_,_=>False
 |_,_=>False
def metT (π:List (Nat×Nat)):List (Option SV)->List (Option SV)->Prop
 |[],[]=>True
 |none::l,_::l'=>metT π l l'
 |some v::l,some v'::l'=>(match v.rn π with
  |some u=>u.same v'
  |none=>False)/\ metT π l l'
 |_,_=>False
def metH (π:List (Nat×Nat)) (B:List (Nat×Chunk T O)):List (Nat×Chunk T O)->Prop
 |[]=>True
 |(k,c)::l=>(match lookK k π with
  |some k'=>match lookK k' B,c.rn π with
   |some c',some d=>d.same c'
   |_,_=>False
  |none=>False)/\ metH π B l
def keysIn (π:List (Nat×Nat)):List (Nat×Chunk T O)->Bool
 |[]=>true
 |(k,_)::l=>(lookK k π).isSome&&(lookK k l).isNone&&keysIn π l
def selfPairs (m:Nat):List (Nat×Chunk T O)->List (Nat×Nat)
 |[]=>[]
 |(k,_)::l=>match decide (k<m) with
  |true=>(k,k)::selfPairs m l
  |false=>selfPairs m l
def fixes (m:Nat):List (Nat×Nat)->Bool
 |[]=>true
 |(k,k')::l=>(decide (m<=k)||k==k')&&fixes m l
mutual
def SV.pro (B:List (Nat×Chunk T O)):SV->SV->Nat->SV×Nat×List (Nat×Chunk T O)
 | .raw (.slice none 0 0), .own k',f=>match lookK k' B with
  |some (.vec e _ t)=>(.own f,f+1,[(f, .vec e [] t)])
  |some (.que e _ t)=>(.own f,f+1,[(f, .que e [] t)])
  |some (.deep e1 e _ t)=>(.own f,f+1,[(f, .deep e1 e [] t)])
  |some (.ro e _)=>(.own f,f+1,[(f, .ro e [])])
  |_=>(.raw (.slice none 0 0),f,[])
 | .agg cs, .agg cs',f=>(fun p=>(.agg p.1,p.2.1,p.2.2)) (proL B cs cs' f)
 | .tup cs, .tup cs',f=>(fun p=>(.tup p.1,p.2.1,p.2.2)) (proL B cs cs' f)
 |v,_,f=>(v,f,[])
def proL (B:List (Nat×Chunk T O)):List SV->List SV->Nat->List SV×Nat×List (Nat×Chunk T O)
 |v::vs,v'::vs',f=>(fun p=>(fun q=>(p.1::q.1,q.2.1,p.2.2++q.2.2)) (proL B vs vs' p.2.1)) (v.pro B v' f)
 |vs,_,f=>(vs,f,[])
end
def proT (B:List (Nat×Chunk T O)):List (Option SV)->List (Option SV)->Nat->List (Option SV)×Nat×List (Nat×Chunk T O)
 |some v::vs,some v'::vs',f=>(fun p=>(fun q=>(some p.1::q.1,q.2.1,p.2.2++q.2.2)) (proT B vs vs' p.2.1)) (v.pro B v' f)
 |v::vs,_::vs',f=>(fun q=>(v::q.1,q.2.1,q.2.2)) (proT B vs vs' f)
 |vs,_,f=>(vs,f,[])
def proH (B:List (Nat×Chunk T O)) (π:List (Nat×Nat)):List (Nat×Chunk T O)->Nat->List (Nat×Chunk T O)×Nat×List (Nat×Chunk T O)
 |[],f=>([],f,[])
 |(k,c)::l,f=>match c,(lookK k π).bind (lookK · B) with
  | .cells cs t,some (.cells cs' _)=>(fun p=>(fun q=>((k, .cells p.1 t)::q.1,q.2.1,p.2.2++q.2.2)) (proH B π l p.2.1)) (proL B cs cs' f)
  | .tab cs o n L hole ds t,some (.tab _ _ _ _ _ ds' _)=>(fun p=>(fun q=>((k, .tab cs o n L hole p.1 t)::q.1,q.2.1,p.2.2++q.2.2)) (proH B π l p.2.1)) (proL B ds ds' f)
  |c,_=>(fun q=>((k,c)::q.1,q.2.1,q.2.2)) (proH B π l f)
def flipP:List (Nat×Nat)->List (Nat×Nat)
 |[]=>[]
 |(a,b)::l=>(b,a)::flipP l
def pairsOf (nf:Nat) (S S':SS T O):List (Nat×Nat):=growPairs S'.heap S.heap 4 (addNew (selfPairs nf S'.heap) (pairsT S'.tmps S.tmps))
def pro1 (S S':SS T O):SS T O:=(fun p=> { tmps:=p.1,heap:=S.heap++p.2.2,next:=p.2.1 }) (proT S'.heap S.tmps S'.tmps S.next)
def pro2 (nf:Nat) (S S':SS T O):SS T O:=(fun p=> { tmps:=S.tmps,heap:=p.1++p.2.2,next:=p.2.1 }) (proH S'.heap (flipP (pairsOf nf S S')) S.heap S.next)
def frzH (B:List (Nat×Chunk T O)) (π:List (Nat×Nat)):List (Nat×Chunk T O)->List (Nat×Chunk T O)
 |[]=>[]
 |(k,c)::l=>(k,match c,(lookK k π).bind (lookK · B) with
  | .vec e L _,some (.ro _ _)=> .ro e L
  | .vec e L t,some (.que _ _ _)=> .que e L t
  |c,_=>c)::frzH B π l
def pro3 (nf:Nat) (S S':SS T O):SS T O:= { S with heap:=frzH S'.heap (flipP (pairsOf nf S S')) S.heap }
def pro (nf:Nat) (S S':SS T O):SS T O:=pro3 nf (pro2 nf (pro1 S S') S') S'
def le0 (nf:Nat) (S S':SS T O):Prop:=
 (fun π=>match one2one S'.heap π&&keysIn π S'.heap&&fixes nf π with
  |true=>metT π S'.tmps S.tmps/\ metH π S.heap S'.heap
  |false=>False) (pairsOf nf S S')
def le (nf:Nat) (S S':SS T O):Prop:=le0 nf (pro nf S S') S'
def SS.wf (nf:Nat) (S:SS T O):Bool:=
 decide (nf<=S.next)&&(S.tmps.all fun
  |some v=>v.ids.all (fun id=>decide (id<S.next))
  |none=>true)&&S.heap.all fun p=>decide (p.1<S.next)&&p.2.ids.all (fun id=>decide (id<S.next))
structure LoopAnn (T:Nat->Enc) (O:Nat->Type) where
 σ:Type
 st:SS T O->σ->SS T O
 /--of the state in which the loop begins,and of a round's-/
 inv:SS T O->σ->Prop
 m:σ->Nat
def firstRegion:Code->Option Nat
 | .region id _ _=>some id
 | .seq a b=>match firstRegion a with
  |some i=>some i
  |none=>firstRegion b
 | .cond _ a b=>match firstRegion a with
  |some i=>some i
  |none=>firstRegion b
 | .block _ b| .loop b| .scope b=>firstRegion b
 |_=>none
structure JoinAnn (T:Nat->Enc) (O:Nat->Type) where
 σ:Type
 st:SS T O->σ->SS T O
 inv:SS T O->σ->Prop
structure Ann (T:Nat->Enc) (O:Nat->Type) where
 loop:Nat->Option (LoopAnn T O)
 join:Nat->Option (JoinAnn T O)
 /--how many rounds of a loop are carried out one by one (0:it has an annotation)-/
 unr:Nat->Nat:=fun _=>0
 /--which slots' rows are only read from a region on-/
 frz:Nat->List Nat:=fun _=>[]
 /--behind which regions the objects that are out go back-/
 fold:Nat->Bool:=fun _=>false
def wrOps:List Oper->List Nat
 |[]=>[]
 |o::l=>o.dst.toList++wrOps l
def wrCode:Code->List Nat
 | .region _ ops _=>wrOps ops.toList
 | .seq a b=>wrCode a++wrCode b
 | .cond _ a b=>wrCode a++wrCode b
 | .block _ b| .loop b| .scope b=>wrCode b
 |_=>[]
def forgetT:List Nat->List (Option SV)->List (Option SV)
 |[],l=>l
 |n::ns,l=>forgetT ns (setT none l n)
def SS.forget (S:SS T O) (ns:List Nat):SS T O:= { S with tmps:=forgetT ns S.tmps }
def wfP (nf:Nat) (S:SS T O) (p:Prop):Prop:=match S.wf nf with
 |true=>p
 |false=>False
def fN:Nat->(Nat->Prop)->Prop
 |0,K=>K 0
 |n+1,K=>K (n+1)
mutual
def fV:SV->(SV->Prop)->Prop
 | .raw v,K=>match v with
  | .int k n=>K (.raw (.int k n))
  | .bool b=>K (.raw (.bool b))
  |v=>K (.raw v)
 | .ptr k o,K=>fN k fun k=>fN o fun o=>K (.ptr k o)
 | .elt k i E j,K=>fN k fun k=>fN E fun E=>fN j fun j=>K (.elt k i E j)
 | .own k,K=>fN k fun k=>K (.own k)
 | .view k lo n E,K=>fN k fun k=>fN E fun E=>K (.view k lo n E)
 | .agg cs,K=>fL cs fun cs=>K (.agg cs)
 | .tup cs,K=>fL cs fun cs=>K (.tup cs)
 | .iface t v,K=>fV v fun v=>K (.iface t v)
 | .fn f cs,K=>fL cs fun cs=>K (.fn f cs)
 | .bfn f cs,K=>fL cs fun cs=>K (.bfn f cs)
 | .aview k o n,K=>fN k fun k=>fN o fun o=>K (.aview k o n)
def fL:List SV->(List SV->Prop)->Prop
 |[],K=>K []
 |v::l,K=>fV v fun v=>fL l fun l=>K (v::l)
end
def fT:List (Option SV)->(List (Option SV)->Prop)->Prop
 |[],K=>K []
 |none::l,K=>fT l fun l=>K (none::l)
 |some v::l,K=>fV v fun v=>fT l fun l=>K (some v::l)
def fC:Chunk T O->(Chunk T O->Prop)->Prop
 | .cells cs t,K=>fL cs fun cs=>K (.cells cs t)
 | .mix cs e n L ds t,K=>fL cs fun cs=>fL ds fun ds=>K (.mix cs e n L ds t)
 | .tab cs o n L hole ds t,K=>fL cs fun cs=>fL ds fun ds=>K (.tab cs o n L hole ds t)
 |c,K=>K c
def fH:List (Nat×Chunk T O)->(List (Nat×Chunk T O)->Prop)->Prop
 |[],K=>K []
 |(k,c)::l,K=>fN k fun k=>fC c fun c=>fH l fun l=>K ((k,c)::l)
def fS (S:SS T O) (K:SS T O->Prop):Prop:=match S with
 |⟨tm,h,n⟩=>fT tm fun tm=>fH h fun h=>fN n fun n=>K ⟨tm,h,n⟩
def frzK (k:Nat):List (Nat×Chunk T O)->List (Nat×Chunk T O)
 |[]=>[]
 |(j,c)::l=>(j,match j==k,c with
  |true, .vec e L _=> .ro e L
  |true, .deep e1 e L _=> .dro e1 e L
  |_,c=>c)::frzK k l
def frzS:List Nat->SS T O->SS T O
 |[],S=>S
 |t::l,S=>match getT S.tmps t with
  |some (.own k)=>frzS l { S with heap:=frzK k S.heap }
  |_=>frzS l S
def foldH (X:Ctx T O) (g:Nat->Option (Chunk T O)):List (Nat×Chunk T O)->List (Nat×Option (Chunk T O))
 |[]=>[]
 |(k,_)::l=>match g k with
  |some (.tab cs o n L (some (i,k')) ds t)=>(match takeO X o g k' with
   |some (d,ids)=>(match !ids.contains k with
    |true=>(k,some (.tab cs o n (L.set i.toNat (some d)) none ds t))::goneU ids
    |false=>[])
   |none=>[])
  |_=>foldH X g l
def foldS (X:Ctx T O) (b:Bool) (S:SS T O):SS T O:=match b with
 |true=> { S with heap:=applyUpd (foldH X S.get S.heap) S.heap }
 |false=>S
def unrX (f:SS T O->(Exit->SS T O->Prop)->Prop):Nat->SS T O->(Exit->SS T O->Prop)->Prop
 |0,_,_=>False
 |n+1,S,K=>f S fun e S'=>match e with
  | .normal=>unrX f n S' K
  |e=>K e S'
def unrOf (A:Ann T O) (b:Code):Nat:=match firstRegion b with
 |some i=>A.unr i
 |none=>0
def exec (X:Ctx T O) (A:Ann T O) (nf:Nat):Code->SS T O->(Exit->SS T O->Prop)->Prop
 | .skip,S,K=>K .normal S
 | .label _,S,K=>K .normal S
 | .region id ops d,S,K=>regX X ops d (frzS (A.frz id) S) fun S=>fS (foldS X (A.fold id) S) (K .normal)
 | .seq a b,S,K=>match (firstRegion b).bind A.join with
  |none=>exec X A nf a S fun e S'=>match e with
   | .normal=>exec X A nf b S' K
   |e=>K e S'
  |some J=>exec X A nf a S (fun e S'=>match e with
   | .normal=> ∃x,J.inv S x/\ le nf S' (J.st (S.forget (wrCode a)) x)
   |e=>K e S')/\ ∀x,J.inv S x->fS (J.st (S.forget (wrCode a)) x) fun S1=>wfP nf S1 (exec X A nf b S1 K)
 | .cond c a b,S,K=>match c with
  | .tmp t=>match getT S.tmps t with
   |some (.raw (.bool v))=>match v with
    |true=>exec X A nf a { S with tmps:=setT (some (.raw (.bool true))) S.tmps t } K
    |false=>exec X A nf b { S with tmps:=setT (some (.raw (.bool false))) S.tmps t } K
   |_=>False
  | .const (.bool v)=>match v with
   |true=>exec X A nf a S K
   |false=>exec X A nf b S K
  |_=>False
 | .block id b,S,K=>exec X A nf b S fun e S'=>match e with
  | .exit id'=>match id'==id with
   |true=>K .normal S'
   |false=>K (.exit id') S'
  |e=>K e S'
 | .loop b,S,K=>match (firstRegion b).bind A.loop with
  |none=>unrX (fun S K=>exec X A nf b S K) (unrOf A b) S K
  |some L=>(∃x,L.inv S x/\ le nf S (L.st (S.forget (wrCode b)) x))/\ ∀x,L.inv S x->fS (L.st (S.forget (wrCode b)) x) fun S1=>wfP nf S1 (exec X A nf b S1 fun e S'=>match e with
   | .normal=> ∃x',L.inv S x'/\ L.m x'<L.m x/\ le nf S' (L.st (S.forget (wrCode b)) x')
   |e=>K e S')
 | .exit id,S,K=>K (.exit id) S
 | .ret,S,K=>K .ret S
 | .scope b,S,K=>exec X A nf b S fun e S'=>match e with
  | .goto _=>False
  |e=>K e S'
 |_,_,_=>False
def resOf (X:Ctx T O) (S:SS T O):List ResultVar->Option (List SV)
 |[]=>some []
 | .tmp t::l=>match getT S.tmps t,resOf X S l with
  |some v,some vs=>some (v::vs)
  |_,_=>none
 | .cell a t::l=>match getT S.tmps a,resOf X S l with
  |some (.ptr k off),some vs=>match S.get k with
   |some (.cells cs _)=>match partT X t cs off with
    |some v=>some (v::vs)
    |none=>none
   |_=>none
  |_,_=>none
def tupOf:List SV->SV
 |[v]=>v
 |vs=> .tup vs
def blanks:Nat->List (Option SV)
 |0=>[]
 |n+1=>none::blanks n
def zipK (i:Nat):List (Chunk T O)->List (Nat×Chunk T O)
 |[]=>[]
 |c::l=>(i,c)::zipK (i+1) l
def start (args:List SV) (n:Nat) (cs:List (Chunk T O)):SS T O:=
 { tmps:=args.map some++blanks (n-args.length),heap:=zipK 0 cs,next:=cs.length }
def fnX (X:Ctx T O) (A:Ann T O) (fn:Func) (args:List SV) (cs:List (Chunk T O)) (K:SV->SS T O->Prop):Prop:=
 match fn.body with
 |none=>False
 |some c=>wfP cs.length (start args fn.ntmps cs) (exec X A cs.length c (start args fn.ntmps cs) fun e S=>match e with
  | .ret| .normal=>match resOf X S fn.results.toList with
   |some vs=>K (tupOf vs) S
   |none=>False
  |_=>False)
def Chunk.plain:Chunk T O->Bool
 | .cells _ _=>true
 | .arr _ _ _=>true
 | .ro _ _=>true
 | .nest _ _=>true
 | .mix _ _ _ _ _ _=>true
 |_=>false
def nthC:List (Chunk T O)->Nat->Option (Chunk T O)
 |[],_=>none
 |c::_,0=>some c
 |_::l,n+1=>nthC l n
def updOk (cs:List (Chunk T O)) (upd:List (Nat×Option (Chunk T O))):Bool:=
 ((zipK 0 cs).all fun p=>p.2.plain||(upd.map (·.1)).contains p.1)&&upd.all fun p=>match nthC cs p.1 with
  |some c=>c.owned
  |none=>decide (cs.length<=p.1)&&decide (p.1<cs.length+stride)
def ends (cs:List (Chunk T O)) (e:Eff T O) (v:SV) (S:SS T O):Prop:=
 match e.val,updOk cs e.upd&&v.ids.all (fun id=>decide (id<S.next)) with
 |some u,true=>wfP cs.length { tmps:=[some u],heap:=applyUpd e.upd (zipK 0 cs),next:=cs.length+stride } (le cs.length { tmps:=[some v],heap:=S.heap,next:=S.next }
   { tmps:=[some u],heap:=applyUpd e.upd (zipK 0 cs),next:=cs.length+stride })
 |_,_=>False
end
end Go.Sx