/-
  Part of a proof over the seat YtlfjbnflfdnoaaaGreat: printed by a small program or typed by hand.
-/
import Derived.Test.YtlfjbnflfdnoaaaGreatSxOpSound
import Derived.OrdersIn
/-
 Sx:a region of operations:in the order of the text;in any order,where operations that are not ordered do not touch what the other ones do.
-/
namespace Go.Sx
section
variable {T:Nat->Enc} {O:Nat->Type} (R:Objs O)
section steps
variable (X:Ctx T O) (draw:Bool) (before:List Nat) (ops:Array Oper) (base:Nat)
def argsOf (o:Oper) (tm:List (Option SV)):List (Option SV):=o.op.operands.toList.map (opdT tm)
def gdOf (v:SV) (want:Bool):Option Bool:=match v with
 | .raw (.bool b)=>some (b==want)
 | .tup []=>some false
 |_=>none
def Gd (o:Oper) (tm:List (Option SV)) (gd:List Nat) (go:Bool):Prop:=
 match o.guard with
 |none=>gd=[]/\ go=true
 |some (j,want)=> ∃g v,(ops[j]?).bind (·.dst)=some g/\ gd=[g]/\ getT tm g=some v/\ gdOf v want=some go
def StepR (τ:Nat->Touch) (i:Nat) (tm:List (Option SV)) (H:Nat->Option (Chunk T O)) (tm':List (Option SV)) (H':Nat->Option (Chunk T O)):Prop:=
 ∃o,ops[i]?=some o∧
  ((∃gd e,Gd ops o tm gd true/\ (opRun X (base+stride*i) o.op (argsOf o tm) H (opFoot H o.op (argsOf o tm))).holds (· =e)/\ effOk draw before base i (opFoot H o.op (argsOf o tm)) e=true∧
   τ i=⟨i,tmpsOf o++gd,o.dst.toList,opFoot H o.op (argsOf o tm),e.upd.map (·.1)⟩/\ tm'=putT o.dst e.val tm/\ H'=updH e.upd H)∨
  (∃gd,Gd ops o tm gd false/\ τ i=⟨i,gd,o.dst.toList,[],[]⟩/\ tm'=putT o.dst (some (.tup [])) tm/\ H'=H))
def RunL (τ:Nat->Touch):List Nat->List (Option SV)->(Nat->Option (Chunk T O))->List (Option SV)->(Nat->Option (Chunk T O))->Prop
 |[],tm,H,tm',H'=>tm'=tm/\ H'=H
 |i::l,tm,H,tm',H'=> ∃tm1 H1,StepR X draw before ops base τ i tm H tm1 H1/\ RunL τ l tm1 H1 tm' H'
theorem StepR.congr {τ τ':Nat->Touch} {i:Nat} {tm tm':List (Option SV)} {H H':Nat->Option (Chunk T O)} (h:StepR X draw before ops base τ i tm H tm' H') (e:τ i=τ' i):StepR X draw before ops base τ' i tm H tm' H':=by
 unfold StepR at*
 rw [←e]
 exact h
theorem RunL.congr {τ τ':Nat->Touch}: ∀ {l:List Nat} {tm tm':List (Option SV)} {H H':Nat->Option (Chunk T O)},RunL X draw before ops base τ l tm H tm' H'->(∀i∈l,τ i=τ' i)->RunL X draw before ops base τ' l tm H tm' H'
 |[],_,_,_,_,h,_=>h
 |i::l,_,_,_,_,⟨tm1,H1,h1,h2⟩,he=>⟨tm1,H1,StepR.congr X draw before ops base h1 (he i (by simp)),RunL.congr h2 (fun j hj=>he j (by simp [hj]))⟩
theorem holds_at {ε:Type} {K:ε->Prop}: ∀ {t:Tree ε},t.holds K-> ∃e,t.holds (· =e)/\ K e
 | .ret e,h=>⟨e,rfl,h⟩
 | .fail,h=>h.elim
 | .ite b t u,h=>by
  cases b
  ·exact holds_at (t:=u) h
  ·exact holds_at (t:=t) h
theorem setT_self {v:SV}: ∀ {l:List (Option SV)} {n:Nat},getT l n=some v->setT (some v) l n=l
 |[],n,h=>by simp [getT] at h
 |x::l,0,h=>by simp [getT] at h;simp [setT,h]
 |x::l,n+1,h=>by simp only [getT] at h;simp only [setT,setT_self h]
theorem get_app (S:SS T O) (dst:Option Tmp) (e:Eff T O):(S.app dst e).get=updH e.upd S.get:=by
 funext j
 exact lookK_applyUpd e.upd S.heap j
theorem fN_eq (n:Nat) (K:Nat->Prop):fN n K=K n:=by cases n<;>rfl
mutual
theorem fV_eq: ∀(v:SV) (K:SV->Prop),fV v K=K v
 | .raw v,K=>by unfold fV;split<;>rfl
 | .ptr k o,K=>by unfold fV;simp only [fN_eq]
 | .elt k i E j,K=>by unfold fV;simp only [fN_eq]
 | .own k,K=>by unfold fV;simp only [fN_eq]
 | .view k lo n E,K=>by unfold fV;simp only [fN_eq]
 | .agg cs,K=>by unfold fV;exact fL_eq cs _
 | .tup cs,K=>by unfold fV;exact fL_eq cs _
 | .iface t v,K=>by unfold fV;exact fV_eq v _
 | .fn f cs,K=>by unfold fV;exact fL_eq cs _
 | .bfn f cs,K=>by unfold fV;exact fL_eq cs _
 | .aview k o n,K=>by unfold fV;simp only [fN_eq]
theorem fL_eq: ∀(l:List SV) (K:List SV->Prop),fL l K=K l
 |[],K=>rfl
 |v::l,K=>by unfold fL;rw [fV_eq v,fL_eq l]
end
theorem fT_eq: ∀(l:List (Option SV)) (K:List (Option SV)->Prop),fT l K=K l
 |[],K=>rfl
 |none::l,K=>by unfold fT;rw [fT_eq l]
 |some v::l,K=>by unfold fT;rw [fV_eq v,fT_eq l]
theorem fC_eq (c:Chunk T O) (K:Chunk T O->Prop):fC c K=K c:=by
 cases c<;>first|rfl|exact fL_eq _ _|(exact (fL_eq _ _).trans (fL_eq _ _))
theorem fH_eq: ∀(l:List (Nat×Chunk T O)) (K:List (Nat×Chunk T O)->Prop),fH l K=K l
 |[],K=>rfl
 |(k,c)::l,K=>by unfold fH;rw [fN_eq,fC_eq,fH_eq l]
theorem fS_eq (S:SS T O) (K:SS T O->Prop):fS S K=K S:=by
 obtain ⟨tm,h,n⟩:=S
 show (fT tm fun tm=>fH h fun h=>fN n fun n=>K ⟨tm,h,n⟩)=_
 rw [fT_eq,fH_eq,fN_eq]
mutual
theorem genV_elim: ∀(v:SV) (K:SV->Prop),genV v K->K v
 | .raw x,K,h=>by
  cases x<;>first
   |exact h
   |exact h _ rfl
 | .ptr _ _,K,h=>h
 | .elt _ _ _ _,K,h=>h
 | .own _,K,h=>h
 | .view _ _ _ _,K,h=>h
 | .agg cs,K,h=>genVL_elim cs (fun cs'=>K (.agg cs')) h
 | .tup cs,K,h=>genVL_elim cs (fun cs'=>K (.tup cs')) h
 | .iface t v,K,h=>genV_elim v (fun v'=>K (.iface t v')) h
 | .fn _ _,K,h=>h
 | .bfn _ _,K,h=>h
 | .aview _ _ _,K,h=>h
theorem genVL_elim: ∀(l:List SV) (K:List SV->Prop),genVL l K->K l
 |[],K,h=>h
 |v::vs,K,h=>genVL_elim vs (fun vs'=>K (v::vs')) (genV_elim v (fun v'=>genVL vs fun vs'=>K (v'::vs')) h)
end
theorem genC_elim (c:Chunk T O) (K:Chunk T O->Prop) (h:genC c K):K c:=by
 cases c with
 |cells cs t=>exact genVL_elim cs (fun cs'=>K (.cells cs' t)) h
 |tab cs o n L hole ds t=>exact genVL_elim ds (fun ds'=>K (.tab cs o n L hole ds' t)) (genVL_elim cs (fun cs'=> ∀L',L'=L->genVL ds fun ds'=>K (.tab cs' o n L' hole ds' t)) h L rfl)
 |mix cs e n L ds t=>exact genVL_elim ds (fun ds'=>K (.mix cs e n L ds' t)) (genVL_elim cs (fun cs'=> ∀L',L'=L->genVL ds fun ds'=>K (.mix cs' e n L' ds' t)) h L rfl)
 |_=>exact h _ rfl
theorem genU_elim: ∀(l:List (Nat×Option (Chunk T O))) (K:List (Nat×Option (Chunk T O))->Prop),genU l K->K l
 |[],K,h=>h
 |(k,none)::l,K,h=>genU_elim l (fun l'=>K ((k,none)::l')) h
 |(k,some c)::l,K,h=>genU_elim l (fun l'=>K ((k,some c)::l')) (genC_elim c (fun c'=>genU l fun l'=>K ((k,some c')::l')) h)
theorem genX_elim {X:Ctx T O} {op:Op} {e:Eff T O} {K:Eff T O->Prop} (h:genX X op e K):K e:=by
 unfold genX at h
 split at h
 ·unfold genE at h
  split at h
  ·rename_i hv
   have:=genU_elim _ _ h
   rwa [←hv] at this
  ·rename_i v hv
   have:=genU_elim _ _ (genV_elim v (fun v'=>genU e.upd fun u=>K ⟨some v',u⟩) h)
   rwa [←hv] at this
 ·exact h
theorem opsX_run: ∀(l:List Oper) (i:Nat) (ts:List Touch) (S:SS T O) (K:List Touch->SS T O->Prop),(∀j,l[j]?=ops[i+j]?)->opsX X draw before ops base l i ts S K→
  ∃τ tm' S',RunL X draw before ops base τ (List.range' i l.length) S.tmps S.get tm' S'.get/\ tm'=S'.tmps/\ K ((List.range' i l.length).map τ|>.reverse|>.append ts) S'
 |[],i,ts,S,K,_,h=>⟨fun _=>⟨0,[],[],[],[]⟩,S.tmps,S,⟨rfl,rfl⟩,rfl,h⟩
 |o::l,i,ts,S,K,hl,h=>by
  have ho:ops[i]?=some o:=by simpa using (hl 0).symm
  have hl': ∀j,l[j]?=ops[i+1+j]?:=fun j=>by have:=hl (j+1);simpa [Nat.add_assoc,Nat.add_comm 1 j] using this
  --put a step ahead of a run
  have cons: ∀(t:Touch) (S1:SS T O),(∀τ:Nat->Touch,τ i=t->StepR X draw before ops base τ i S.tmps S.get S1.tmps S1.get)->opsX X draw before ops base l (i+1) (t::ts) S1 K→
    ∃τ tm' S',RunL X draw before ops base τ (List.range' i (o::l).length) S.tmps S.get tm' S'.get/\ tm'=S'.tmps/\ K ((List.range' i (o::l).length).map τ|>.reverse|>.append ts) S':=by
   intro t S1 hstep hrest
   obtain ⟨τ,tm',S',hrun,htm,hK⟩:=opsX_run l (i+1) (t::ts) S1 K hl' hrest
   have hne: ∀j∈List.range' (i+1) l.length,(if j=i then t else τ j)=τ j:=by
    intro j hj
    rw [List.mem_range'_1] at hj
    rw [if_neg (by omega)]
   refine ⟨fun j=>if j=i then t else τ j,tm',S', ?_,htm, ?_⟩
   ·simp only [List.length_cons,List.range'_succ]
    exact ⟨S1.tmps,S1.get,hstep _ (if_pos rfl),RunL.congr X draw before ops base hrun (fun j hj=>(hne j hj).symm)⟩
   ·simp only [List.length_cons,List.range'_succ,List.map_cons,if_true,List.reverse_cons]
    rw [List.map_congr_left hne]
    simpa using hK
  have run: ∀(gd:List Nat),Gd ops o S.tmps gd true->runX X draw before base o i gd S (fun t S=>opsX X draw before ops base l (i+1) (t::ts) S K)→
    ∃τ tm' S',RunL X draw before ops base τ (List.range' i (o::l).length) S.tmps S.get tm' S'.get/\ tm'=S'.tmps/\ K ((List.range' i (o::l).length).map τ|>.reverse|>.append ts) S':=by
   intro gd hgd h
   unfold runX at h
   obtain ⟨e,he,h⟩:=holds_at h
   split at h
   ·rename_i hok
    refine cons _ _ (fun τ hτ=>⟨o,ho, .inl ⟨gd,e,hgd,he,hok,hτ,rfl,get_app S o.dst e⟩⟩) (genX_elim h)
   ·exact h.elim
  have skip: ∀(gd:List Nat),Gd ops o S.tmps gd false->skipX o i gd S (fun t S=>opsX X draw before ops base l (i+1) (t::ts) S K)→
    ∃τ tm' S',RunL X draw before ops base τ (List.range' i (o::l).length) S.tmps S.get tm' S'.get/\ tm'=S'.tmps/\ K ((List.range' i (o::l).length).map τ|>.reverse|>.append ts) S':=by
   intro gd hgd h
   exact cons _ { S with tmps:=putT o.dst (some (.tup [])) S.tmps } (fun τ hτ=>⟨o,ho, .inr ⟨gd,hgd,hτ,rfl,rfl⟩⟩) h
  unfold opsX at h
  split at h
  ·rename_i hg
   exact run [] (by unfold Gd;rw [hg];exact ⟨rfl,rfl⟩) h
  ·rename_i j want hg
   split at h
   ·rename_i g hdst
    split at h
    ·rename_i b hb
     have hself: ∀b',b=b'->({ S with tmps:=setT (some (.raw (.bool b'))) S.tmps g }:SS T O)=S:=by
      rintro _ rfl
      rw [setT_self hb]
     cases b with
     |true=>
      simp only at h
      rw [hself true rfl] at h
      cases want with
      |true=>exact run [g] (by unfold Gd;rw [hg];exact ⟨g,_,hdst,rfl,hb,rfl⟩) h
      |false=>exact skip [g] (by unfold Gd;rw [hg];exact ⟨g,_,hdst,rfl,hb,rfl⟩) h
     |false=>
      simp only at h
      rw [hself false rfl] at h
      cases want with
      |true=>exact skip [g] (by unfold Gd;rw [hg];exact ⟨g,_,hdst,rfl,hb,rfl⟩) h
      |false=>exact run [g] (by unfold Gd;rw [hg];exact ⟨g,_,hdst,rfl,hb,rfl⟩) h
    ·rename_i hb
     exact skip [g] (by unfold Gd;rw [hg];exact ⟨g,_,hdst,rfl,hb,rfl⟩) h
    ·exact h.elim
   ·exact h.elim
theorem mem_union {x:Nat}: ∀ {m l:List Nat},x∈union l m↔x∈l \/x∈m
 |[],l=>by simp [union]
 |y::m,l=>by
  simp only [union]
  split
  ·rename_i hy
   rw [mem_union]
   simp only [List.mem_cons]
   constructor
   ·rintro (h|h)
    ·exact .inl h
    ·exact .inr (.inr h)
   ·rintro (h|h|h)
    ·exact .inl h
    ·subst h;exact .inl (by simpa using hy)
    ·exact .inr h
  ·rw [mem_union]
   simp [or_assoc]
theorem reach_sub {g:Nat->Option (Chunk T O)}: ∀(n:Nat) {l:List Nat} {x:Nat},x∈l->x∈reachIds g n l
 |0,_,_,h=>h
 |n+1,_,_,h=>reach_sub n (mem_union.2 (.inl h))
theorem reach_congr {g g':Nat->Option (Chunk T O)}: ∀(n:Nat) {l:List Nat},(∀k∈reachIds g n l,g k=g' k)->reachIds g' n l=reachIds g n l
 |0,_,_=>rfl
 |n+1,l,h=>by
  simp only [reachIds] at h ⊢
  have e:l.flatMap (chIds g')=l.flatMap (chIds g):=by
   refine congrArg List.flatten (List.map_congr_left fun k hk=> ?_)
   unfold chIds
   rw [h k (reach_sub n (mem_union.2 (.inl hk)))]
  rw [e]
  exact reach_congr n h
theorem footV_congr {g g':Nat->Option (Chunk T O)} {args:List (Option SV)} (h: ∀k∈footV g args,g k=g' k):footV g' args=footV g args:=by
 unfold footV at*
 split at h
 ·split at h
  ·exact reach_congr 4 h
  ·rfl
 ·split at h
  ·exact reach_congr 4 h
  ·rfl
 ·rfl
theorem footS_congr {g g':Nat->Option (Chunk T O)} {args:List (Option SV)} (h: ∀k∈footS g args,g k=g' k):footS g' args=footS g args:=by
 unfold footS at*
 split at h
 ·rename_i k i E j k' off
  have hk:g k=g' k:=by
   split at h
   ·exact h k (by simp)
   ·exact h k (by simp)
  show (match g' k with
   |some (.tab _ _ _ _ _ _ _)=>k::reachIds g' 4 [k']
   |_=>[k])=(match g k with
   |some (.tab _ _ _ _ _ _ _)=>k::reachIds g 4 [k']
   |_=>[k])
  rw [←hk]
  cases hg:g k with
  |none=>rfl
  |some c=>
   rw [hg] at h
   cases c with
   |tab cs o n L hole ds t=>
    show k::reachIds g' 4 [k']=k::reachIds g 4 [k']
    have h: ∀j∈k::reachIds g 4 [k'],g j=g' j:=h
    rw [reach_congr 4 (g:=g) (g':=g') fun j hj=>h j (by simp [hj])]
   |_=>rfl
 ·rfl
theorem foot_congr {g g':Nat->Option (Chunk T O)} {op:Op} {args:List (Option SV)} (h: ∀k∈opFoot g op args,g k=g' k):opFoot g' op args=opFoot g op args:=by
 cases op with
 |call c=>
  obtain ⟨callee,as,tys⟩:=c
  cases callee with
  |value f=>exact footV_congr h
  |builtin b=>cases b<;>rfl
  |invoke r m=>rfl
 |store t x y=>exact footS_congr h
 |_=>rfl
theorem chunksAt_congr {g g':Nat->Option (Chunk T O)} {π:List (Nat×Nat)}: ∀ {l:List Nat},(∀k∈l,g k=g' k)->chunksAt g' π l=chunksAt g π l
 |[],_=>rfl
 |k::l,h=>by
  simp only [chunksAt]
  rw [h k (by simp),chunksAt_congr fun j hj=>h j (by simp [hj])]
theorem head_congr {g g':Nat->Option (Chunk T O)} {x:SV} (h: ∀k∈x.head,g k=g' k):headC g' x=headC g x:=by
 unfold headC
 split
 ·rename_i k hk
  rw [h k (by rw [hk];simp)]
 ·rfl
theorem callVT_congr {g g':Nat->Option (Chunk T O)} {fresh:Nat} {args:List (Option SV)} (h: ∀k∈footV g args,g k=g' k):callVT X fresh args g' (footV g args)=callVT X fresh args g (footV g args):=by
 generalize hids:footV g args=ids at h
 unfold callVT
 split
 ·split
  ·unfold callT
   rw [chunksAt_congr h]
  ·rfl
 ·split
  ·unfold callT
   rw [chunksAt_congr h]
  ·rfl
 ·rfl
theorem takeO_congr {g g':Nat->Option (Chunk T O)} {o k':Nat} (h: ∀j∈reachIds g 4 [k'],g j=g' j):takeO X o g' k'=takeO X o g k':=by
 unfold takeO
 split
 ·rename_i ℓ hl
  show (match chunksAt g' (number 0 (reachIds g' 4 [k'])) (reachIds g' 4 [k']) with
   |some l=>(ℓ.unlay l).map fun d=>(d,reachIds g' 4 [k'])
   |none=>none)=(match chunksAt g (number 0 (reachIds g 4 [k'])) (reachIds g 4 [k']) with
   |some l=>(ℓ.unlay l).map fun d=>(d,reachIds g 4 [k'])
   |none=>none)
  rw [reach_congr 4 h,chunksAt_congr h]
 ·rfl
theorem head_footS {g:Nat->Option (Chunk T O)} {x v:SV} {k:Nat} (h:k∈x.head):k∈footS g [some x,some v]:=by
 unfold footS
 split
 ·rename_i k1 i E j k' off e
  simp only [List.cons.injEq,Option.some.injEq,and_true] at e
  obtain ⟨rfl,rfl⟩:=e
  simp only [SV.head,List.mem_singleton] at h
  subst h
  split<;>simp
 ·exact h
theorem storeP_congr {g g':Nat->Option (Chunk T O)} {t:TypeId} {x v:SV} {c:Chunk T O} (hc:headC g x=some c) (h: ∀k∈footS g [some x,some v],g k=g' k):storeP X t g' x v c=storeP X t g x v c:=by
 unfold storeP
 split
 ·rename_i cs o n L hole ds ty k i E j k' off
  have hk:g k=some (.tab cs o n L hole ds ty):=hc
  have hf: ∀j∈reachIds g 4 [k'],g j=g' j:=fun j hj=>h j (by
   unfold footS
   simp only [hk]
   simp [hj])
  rw [takeO_congr X hf]
 ·rfl
theorem footB_zip {l:List Nat} {args:List (Option SV)}: ∀k∈footB ((l.zip args).map (·.2)),k∈footB args:=by
 intro k hk
 cases l with
 |nil=>simp [footB] at hk
 |cons a l=>
  cases args with
  |nil=>simp [footB] at hk
  |cons b args=>
   cases b with
   |none=>simp [footB] at hk
   |some s=>cases s<;>first|exact hk|simp [footB] at hk
theorem buildDeep_congr {g g':Nat->Option (Chunk T O)} {fresh:Nat} {t:TypeId} {n:Nat} {parts:List (Nat×Option SV)} (h: ∀k∈footB (parts.map (·.2)),g k=g' k):buildDeepT X fresh t n parts g'=buildDeepT X fresh t n parts g:=by
 unfold buildDeepT
 split
 ·split
  ·rename_i e1 e _ _
   split
   ·rename_i cs _
    split
    ·split
     ·rename_i a k ha hdr
      have hk:g k=g' k:=by
       refine h k ?_
       have hl:cs.getLast?=some (.own k):=by
        have:cs=cs.take (T e1).n++[SV.own k]:=by rw [←hdr,List.take_append_drop]
        rw [this];simp
       show k∈(match cs.getLast? with
        |some s=>s.head
        |none=>[])
       rw [hl]
       simp [SV.head]
      rw [hk]
     ·rfl
     ·rfl
    ·rfl
   ·rfl
  ·rfl
 ·rfl
theorem run_congr {g g':Nat->Option (Chunk T O)} {fresh:Nat} {op:Op} {args:List (Option SV)} (h: ∀k∈opFoot g op args,g k=g' k):
  opRun X fresh op args g' (opFoot g op args)=opRun X fresh op args g (opFoot g op args):=by
 cases op<;>try rfl
 case load t x=>
  simp only [opRun,u1]
  split
  ·rename_i v
   unfold onHead
   rw [head_congr (g:=g) (g':=g') (x:=v) h]
  ·rfl
 case buildSlice t n ps=>
  have h': ∀k∈footB args,g k=g' k:=h
  show buildDeepT X fresh t n _ g'=buildDeepT X fresh t n _ g
  exact buildDeep_congr X fun k hk=>h' k (footB_zip k hk)
 case store t x y=>
  simp only [opRun,u2]
  split
  ·rename_i v u
   have h': ∀k∈footS g [some v,some u],g k=g' k:=h
   unfold onHead
   rw [head_congr (g:=g) (g':=g') (x:=v) fun k hk=>h' k (head_footS hk)]
   split
   ·rename_i c hc
    exact storeP_congr X hc h'
   ·rfl
  ·rfl
 case indexAddr t x y=>
  simp only [opRun,u2]
  split
  ·rename_i v u
   unfold onHead
   rw [head_congr (g:=g) (g':=g') (x:=v) h]
  ·rfl
 case slice t x lo hi mx=>
  simp only [opRun,sliceA]
  split
  ·rename_i v l
   rw [head_congr (g:=g) (g':=g') (x:=v) h]
  ·rfl
 case binOp bop t x y yt=>
  simp only [opRun,u2]
  split
  ·rename_i v u
   unfold binM
   split
   ·rename_i k
    rw [head_congr (g:=g) (g':=g') (x:= .own k) h]
   ·rfl
   ·rfl
  ·rfl
 case lookup t x y ok=>
  simp only [opRun,u2]
  split
  ·rename_i v u
   rw [head_congr (g:=g) (g':=g') (x:=v) h]
  ·rfl
 case mapUpdate t x y z=>
  simp only [opRun,u3]
  split
  ·rename_i v u q
   rw [head_congr (g:=g) (g':=g') (x:=v) h]
  ·rfl
 case call c=>
  obtain ⟨callee,as,tys⟩:=c
  cases callee with
  |invoke r m=>rfl
  |builtin b=>
   cases b<;>try rfl
   case append=>
    simp only [opRun,callBT,u2]
    split
    ·rename_i v u
     have h': ∀k∈v.head++u.head,g k=g' k:=h
     rw [head_congr (g:=g) (g':=g') (x:=v) (fun k hk=>h' k (by simp [hk])),head_congr (g:=g) (g':=g') (x:=u) (fun k hk=>h' k (by simp [hk]))]
    ·rfl
   case copy=>
    simp only [opRun,callBT,u2]
    split
    ·rename_i v u
     have h': ∀k∈v.head++u.head,g k=g' k:=h
     rw [head_congr (g:=g) (g':=g') (x:=v) (fun k hk=>h' k (by simp [hk])),head_congr (g:=g) (g':=g') (x:=u) (fun k hk=>h' k (by simp [hk]))]
    ·rfl
   case delete=>
    simp only [opRun,callBT,u2]
    split
    ·rename_i v u
     split
     ·rw [head_congr (g:=g) (g':=g') (x:=v) h]
     ·rfl
    ·rfl
   all_goals
    simp only [opRun,callBT,u1]
    split
    ·rename_i v
     split
     ·rw [head_congr (g:=g) (g':=g') (x:=v) h]
     ·rfl
    ·rfl
  |value f=>exact callVT_congr X h
theorem updH_eq (u:List (Nat×Option (Chunk T O))): ∀(H H':Nat->Option (Chunk T O)) (j:Nat),j∈u.map (·.1)->updH u H j=updH u H' j:=by
 induction u with
 |nil=>intro H H' j h;simp at h
 |cons p u ih=>
  obtain ⟨k,c⟩:=p
  intro H H' j h
  simp only [updH]
  by_cases hj:j∈u.map (·.1)
  ·exact ih _ _ j hj
  ·rw [updH_notin hj,updH_notin hj]
   simp only [List.map_cons,List.mem_cons] at h
   rw [if_pos (h.resolve_right hj),if_pos (h.resolve_right hj)]
theorem updH_comm {u v:List (Nat×Option (Chunk T O))} (h: ∀k∈u.map (·.1),k∉v.map (·.1)) (H:Nat->Option (Chunk T O)):updH u (updH v H)=updH v (updH u H):=by
 funext j
 by_cases hu:j∈u.map (·.1)
 ·rw [updH_notin (h j hu)]
  exact updH_eq u _ _ j hu
 ·rw [updH_notin hu]
  by_cases hv:j∈v.map (·.1)
  ·exact updH_eq v _ _ j hv
  ·rw [updH_notin hv,updH_notin hv,updH_notin hu]
theorem setT_comm {u v:Option SV}: ∀ {l:List (Option SV)} {m n:Nat},m≠n->setT u (setT v l m) n=setT v (setT u l n) m
 |[],_,_,_=>rfl
 |x::l,0,0,h=>absurd rfl h
 |x::l,0,n+1,_=>rfl
 |x::l,m+1,0,_=>rfl
 |x::l,m+1,n+1,h=>by simp only [setT];rw [setT_comm (by omega)]
theorem putT_comm {u v:Option SV} {l:List (Option SV)} {c d:Option Tmp} (h: ∀x,c=some x->d≠some x):putT d u (putT c v l)=putT c v (putT d u l):=by
 cases c with
 |none=>rfl
 |some m=>
  cases d with
  |none=>rfl
  |some n=>exact setT_comm (fun e=>h m rfl (by rw [e]))
theorem opd_put {l:List (Option SV)} {d:Option Tmp} {v:Option SV} {x:Operand} (h: ∀t,x= .tmp t->d≠some t):opdT (putT d v l) x=opdT l x:=by
 cases x with
 |tmp t=>
  cases d with
  |none=>rfl
  |some n=>
   simp only [opdT,putT,getT_setT]
   rw [if_neg (fun e=>h t rfl (by rw [e.1]))]
 |_=>rfl
theorem mem_tmpsOf {o:Oper} {t:Nat}:t∈tmpsOf o↔Operand.tmp t∈o.op.operands.toList:=by
 unfold tmpsOf
 rw [List.mem_filterMap]
 constructor
 ·rintro ⟨x,hx,he⟩
  cases x<;>simp at he
  subst he;exact hx
 ·intro h;exact ⟨.tmp t,h,rfl⟩
theorem args_put {o:Oper} {l:List (Option SV)} {d:Option Tmp} {v:Option SV} (h: ∀t∈d.toList,t∉tmpsOf o):argsOf o (putT d v l)=argsOf o l:=by
 unfold argsOf
 refine List.map_congr_left fun x hx=>opd_put fun t ht hd=> ?_
 subst ht
 exact h t (by rw [hd];simp) (mem_tmpsOf.2 hx)
theorem gd_put {o:Oper} {l:List (Option SV)} {d:Option Tmp} {v:Option SV} {gd:List Nat} {go:Bool} (h: ∀t∈d.toList,t∉gd):Gd ops o (putT d v l) gd go↔Gd ops o l gd go:=by
 unfold Gd
 split
 ·rfl
 ·rename_i j want hg
  constructor
  ·rintro ⟨g,b,h1,rfl,h3,h4⟩
   refine ⟨g,b,h1,rfl, ?_,h4⟩
   have:=opd_put (l:=l) (d:=d) (v:=v) (x:= .tmp g) (fun t ht hd=>by
    simp only [Operand.tmp.injEq] at ht
    subst ht
    exact h g (by rw [hd];simp) (by simp))
   exact this.symm.trans h3
  ·rintro ⟨g,b,h1,rfl,h3,h4⟩
   refine ⟨g,b,h1,rfl, ?_,h4⟩
   have:=opd_put (l:=l) (d:=d) (v:=v) (x:= .tmp g) (fun t ht hd=>by
    simp only [Operand.tmp.injEq] at ht
    subst ht
    exact h g (by rw [hd];simp) (by simp))
   exact this.trans h3
theorem disj_iff {a b:List Nat}:disj a b=true↔ ∀x∈a,x∉b:=by
 simp [disj]
theorem apart_iff {a b:Touch}:a.apart b=true↔(∀x∈a.wr,x∉b.rd)/\ (∀x∈a.wr,x∉b.wr)/\ (∀x∈a.rd,x∉b.wr)/\ (∀x∈a.cwr,x∉b.crd)/\ (∀x∈a.cwr,x∉b.cwr)/\ (∀x∈a.crd,x∉b.cwr):=by
 unfold Touch.apart
 simp only [Bool.and_eq_true,disj_iff,and_assoc]
theorem StepR.swap {τ:Nat->Touch} {i j:Nat} {tm tm1 tm2:List (Option SV)} {H H1 H2:Nat->Option (Chunk T O)} (hj:StepR X draw before ops base τ j tm H tm1 H1) (hi:StepR X draw before ops base τ i tm1 H1 tm2 H2)
  (hap:(τ j).apart (τ i)=true): ∃tm1' H1',StepR X draw before ops base τ i tm H tm1' H1'/\ StepR X draw before ops base τ j tm1' H1' tm2 H2:=by
 rw [apart_iff] at hap
 obtain ⟨a1,a2,a3,a4,a5,a6⟩:=hap
 obtain ⟨oj,hoj,hj⟩:=hj
 obtain ⟨oi,hoi,hi⟩:=hi
 have dd:oj.dst.toList=(τ j).wr->oi.dst.toList=(τ i).wr-> ∀x,oj.dst=some x->oi.dst≠some x:=fun e1 e2 x hx hx'=>a2 x (by rw [←e1,hx];simp) (by rw [←e2,hx'];simp)
 rcases hj with ⟨gdj,ej,gj,rj,kj,tj,rfl,rfl⟩|⟨gdj,gj,tj,rfl,rfl⟩
 ·rcases hi with ⟨gdi,ei,gi,ri,ki,ti,rfl,rfl⟩|⟨gdi,gi,ti,rfl,rfl⟩
  ·rw [tj,ti] at a1 a2 a3 a4 a5 a6 dd
   simp only [List.mem_append,not_or] at a1 a3
   have hargs:argsOf oi (putT oj.dst ej.val tm)=argsOf oi tm:=args_put fun t ht=>(a1 t ht).1
   rw [hargs] at ri ki ti a4 a6
   have hfoot:opFoot H oi.op (argsOf oi tm)=opFoot (updH ej.upd H) oi.op (argsOf oi tm):=foot_congr fun k hk=>updH_notin (fun hm=>a4 k hm hk)
   have hrun:opRun X (base+stride*i) oi.op (argsOf oi tm) H (opFoot H oi.op (argsOf oi tm))=opRun X (base+stride*i) oi.op (argsOf oi tm) (updH ej.upd H) (opFoot (updH ej.upd H) oi.op (argsOf oi tm)):=by
    rw [hfoot]
    exact run_congr X fun k hk=>updH_notin (fun hm=>a4 k hm hk)
   refine ⟨putT oi.dst ei.val tm,updH ei.upd H,⟨oi,hoi, .inl ⟨gdi,ei,(gd_put ops fun t ht=>(a1 t ht).2).1 gi,by rw [hrun];exact ri,by rw [hfoot];exact ki,by rw [hfoot];exact ti,rfl,rfl⟩⟩, ?_⟩
   have hargsj:argsOf oj (putT oi.dst ei.val tm)=argsOf oj tm:=args_put fun t ht hm=>(a3 t (.inl hm)) ht
   have hk: ∀k∈opFoot H oj.op (argsOf oj tm),H k=updH ei.upd H k:=fun k hk=>(updH_notin (fun hm=>a6 k hk hm)).symm
   have hfootj:opFoot (updH ei.upd H) oj.op (argsOf oj tm)=opFoot H oj.op (argsOf oj tm):=foot_congr hk
   have hrunj:opRun X (base+stride*j) oj.op (argsOf oj tm) (updH ei.upd H) (opFoot (updH ei.upd H) oj.op (argsOf oj tm))=opRun X (base+stride*j) oj.op (argsOf oj tm) H (opFoot H oj.op (argsOf oj tm)):=by
    rw [hfootj];exact run_congr X hk
   refine ⟨oj,hoj, .inl ⟨gdj,ej,(gd_put ops fun t ht hm=>(a3 t (.inr hm)) ht).2 gj,by rw [hargsj,hrunj];exact rj,by rw [hargsj,hfootj];exact kj,by rw [hargsj,hfootj];exact tj, ?_, ?_⟩⟩
   ·exact putT_comm (dd rfl rfl)
   ·exact (updH_comm (u:=ej.upd) (v:=ei.upd) (fun k hk=>a5 k hk) H).symm
  ·rw [tj,ti] at a1 a2 a3 a4 a5 a6 dd
   simp only [List.mem_append] at a1 a3
   refine ⟨putT oi.dst (some (.tup [])) tm,H,⟨oi,hoi, .inr ⟨gdi,(gd_put ops fun t ht=>a1 t ht).1 gi,ti,rfl,rfl⟩⟩, ?_⟩
   have hargsj:argsOf oj (putT oi.dst (some (.tup [])) tm)=argsOf oj tm:=args_put fun t ht hm=>(a3 t (.inl hm)) ht
   exact ⟨oj,hoj, .inl ⟨gdj,ej,(gd_put ops fun t ht hm=>(a3 t (.inr hm)) ht).2 gj,by rw [hargsj];exact rj,by rw [hargsj];exact kj,by rw [hargsj];exact tj,putT_comm (dd rfl rfl),rfl⟩⟩
 ·rcases hi with ⟨gdi,ei,gi,ri,ki,ti,rfl,rfl⟩|⟨gdi,gi,ti,rfl,rfl⟩
  ·rw [tj,ti] at a1 a2 a3 a4 a5 a6 dd
   simp only [List.mem_append,not_or] at a1 a3
   have hargs:argsOf oi (putT oj.dst (some (.tup [])) tm)=argsOf oi tm:=args_put fun t ht=>(a1 t ht).1
   rw [hargs] at ri ki ti
   refine ⟨putT oi.dst ei.val tm,updH ei.upd _,⟨oi,hoi, .inl ⟨gdi,ei,(gd_put ops fun t ht=>(a1 t ht).2).1 gi,ri,ki,ti,rfl,rfl⟩⟩, ?_⟩
   exact ⟨oj,hoj, .inr ⟨gdj,(gd_put ops fun t ht hm=>(a3 t hm) ht).2 gj,tj,putT_comm (dd rfl rfl),rfl⟩⟩
  ·rw [tj,ti] at a1 a2 a3 a4 a5 a6 dd
   refine ⟨putT oi.dst (some (.tup [])) tm,_,⟨oi,hoi, .inr ⟨gdi,(gd_put ops fun t ht=>a1 t ht).1 gi,ti,rfl,rfl⟩⟩, ?_⟩
   exact ⟨oj,hoj, .inr ⟨gdj,(gd_put ops fun t ht hm=>(a3 t hm) ht).2 gj,tj,putT_comm (dd rfl rfl),rfl⟩⟩
theorem RunL.first {τ:Nat->Touch} {i:Nat} {r2:List Nat} {tm2:List (Option SV)} {H2:Nat->Option (Chunk T O)}: ∀ {r1:List Nat} {tm:List (Option SV)} {H:Nat->Option (Chunk T O)},RunL X draw before ops base τ (r1++i::r2) tm H tm2 H2->(∀j∈r1,(τ j).apart (τ i)=true)→
  RunL X draw before ops base τ (i::(r1++r2)) tm H tm2 H2
 |[],_,_,h,_=>h
 |j::r1,tm,H,⟨tm1,H1,hj,hr⟩,hap=>by
  obtain ⟨tm1',H1',hi,hr'⟩:=RunL.first hr (fun k hk=>hap k (by simp [hk]))
  obtain ⟨tma,Ha,hi',hj'⟩:=StepR.swap X draw before ops base hj hi (hap j (by simp))
  exact ⟨tma,Ha,hi',tm1',H1',hj',hr'⟩
end steps
end
end Go.Sx