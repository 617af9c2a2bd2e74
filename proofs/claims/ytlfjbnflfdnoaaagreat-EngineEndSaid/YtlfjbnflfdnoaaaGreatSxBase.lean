/-
  Part of a proof over the seat YtlfjbnflfdnoaaaGreat: printed by a small program or typed by hand.
-/
import Derived.Test.YtlfjbnflfdnoaaaGreatSxExec
/-
 Sx:what chunks and states say of the model's memory;how a statement on them is kept.
-/
namespace Go.Sx
section
variable {T:Nat->Enc} {O:Nat->Type}
mutual
theorem SV.den_congr {ρ ρ':Env}: ∀(v:SV),(∀id∈v.ids,ρ id=ρ' id)->v.den ρ=v.den ρ'
 | .raw _,_=>rfl
 | .ptr k _,h=>by simp only [SV.den,h k (by simp [SV.ids])]
 | .elt k _ _ _,h=>by simp only [SV.den,h k (by simp [SV.ids])]
 | .own k,h=>by simp only [SV.den,h k (by simp [SV.ids])]
 | .view k _ _ _,h=>by simp only [SV.den,h k (by simp [SV.ids])]
 | .agg cs,h=>by simp only [SV.den,denL_congr cs h]
 | .tup vs,h=>by simp only [SV.den,denL_congr vs h]
 | .iface _ v,h=>by simp only [SV.den,SV.den_congr v h]
 | .fn _ cap,h=>by simp only [SV.den,denL_congr cap h]
 | .bfn _ cap,h=>by simp only [SV.den,denL_congr cap h]
 | .aview k _ _,h=>by simp only [SV.den,h k (by simp [SV.ids])]
theorem denL_congr {ρ ρ':Env}: ∀(l:List SV),(∀id∈idsL l,ρ id=ρ' id)->denL ρ l=denL ρ' l
 |[],_=>rfl
 |v::vs,h=>by
  simp only [denL,SV.den_congr v (fun id hid=>h id (by simp [idsL,hid])),denL_congr vs (fun id hid=>h id (by simp [idsL,hid]))]
end
theorem denL_eq_map (ρ:Env): ∀l:List SV,denL ρ l=l.map (SV.den ρ)
 |[]=>rfl
 |v::vs=>by simp [denL,denL_eq_map ρ vs]
theorem idsL_eq: ∀l:List SV,idsL l=l.flatMap SV.ids
 |[]=>rfl
 |v::vs=>by simp [idsL,idsL_eq vs]
theorem mem_idsL {l:List SV} {id:Nat}:id∈idsL l↔ ∃v∈l,id∈v.ids:=by simp [idsL_eq]
mutual
theorem SV.rn_den {π:List (Nat×Nat)} {ρ ρ':Env} (h: ∀k k',lookK k π=some k'->ρ' k'=ρ k): ∀(v v':SV),v.rn π=some v'->v'.den ρ'=v.den ρ
 | .raw _,v',e=>by simp [SV.rn] at e;subst e;rfl
 | .ptr k off,v',e=>by
  simp only [SV.rn,Option.map_eq_some_iff] at e
  obtain ⟨k',hk,rfl⟩:=e
  simp only [SV.den,h k k' hk]
 | .elt k i E j,v',e=>by
  simp only [SV.rn,Option.map_eq_some_iff] at e
  obtain ⟨k',hk,rfl⟩:=e
  simp only [SV.den,h k k' hk]
 | .own k,v',e=>by
  simp only [SV.rn,Option.map_eq_some_iff] at e
  obtain ⟨k',hk,rfl⟩:=e
  simp only [SV.den,h k k' hk]
 | .view k lo n E,v',e=>by
  simp only [SV.rn,Option.map_eq_some_iff] at e
  obtain ⟨k',hk,rfl⟩:=e
  simp only [SV.den,h k k' hk]
 | .agg cs,v',e=>by
  simp only [SV.rn,Option.map_eq_some_iff] at e
  obtain ⟨cs',hk,rfl⟩:=e
  simp only [SV.den,rnL_den h cs cs' hk]
 | .tup cs,v',e=>by
  simp only [SV.rn,Option.map_eq_some_iff] at e
  obtain ⟨cs',hk,rfl⟩:=e
  simp only [SV.den,rnL_den h cs cs' hk]
 | .iface t v,v',e=>by
  simp only [SV.rn,Option.map_eq_some_iff] at e
  obtain ⟨u,hk,rfl⟩:=e
  simp only [SV.den,SV.rn_den h v u hk]
 | .fn f cs,v',e=>by
  simp only [SV.rn,Option.map_eq_some_iff] at e
  obtain ⟨cs',hk,rfl⟩:=e
  simp only [SV.den,rnL_den h cs cs' hk]
 | .bfn f cs,v',e=>by
  simp only [SV.rn,Option.map_eq_some_iff] at e
  obtain ⟨cs',hk,rfl⟩:=e
  simp only [SV.den,rnL_den h cs cs' hk]
 | .aview k off n,v',e=>by
  simp only [SV.rn,Option.map_eq_some_iff] at e
  obtain ⟨k',hk,rfl⟩:=e
  simp only [SV.den,h k k' hk]
theorem rnL_den {π:List (Nat×Nat)} {ρ ρ':Env} (h: ∀k k',lookK k π=some k'->ρ' k'=ρ k): ∀(l l':List SV),rnL π l=some l'->denL ρ' l'=denL ρ l
 |[],l',e=>by simp [rnL] at e;subst e;rfl
 |v::vs,l',e=>by
  unfold rnL at e
  split at e
  ·rename_i u us hu hus
   simp only [Option.some.injEq] at e
   subst e
   simp only [denL,SV.rn_den h v u hu,rnL_den h vs us hus]
  ·cases e
end
theorem lookK_mem {α:Type} {k:Nat} {a:α}: ∀ {l:List (Nat×α)},lookK k l=some a->(k,a)∈l
 |[],h=>by simp [lookK] at h
 |(j,b)::l,h=>by
  simp only [lookK] at h
  split at h
  ·rename_i hj
   simp only [Option.some.injEq] at h
   subst h;subst hj
   simp
  ·exact List.mem_cons_of_mem _ (lookK_mem h)
mutual
theorem SV.rn_ids {π:List (Nat×Nat)}: ∀(v v':SV),v.rn π=some v'-> ∀id∈v'.ids,∃k,lookK k π=some id
 | .raw _,v',e=>by simp [SV.rn] at e;subst e;simp [SV.ids]
 | .ptr k off,v',e=>by
  simp only [SV.rn,Option.map_eq_some_iff] at e
  obtain ⟨k',hk,rfl⟩:=e
  intro id hid;simp [SV.ids] at hid;subst hid;exact ⟨k,hk⟩
 | .elt k i E j,v',e=>by
  simp only [SV.rn,Option.map_eq_some_iff] at e
  obtain ⟨k',hk,rfl⟩:=e
  intro id hid;simp [SV.ids] at hid;subst hid;exact ⟨k,hk⟩
 | .own k,v',e=>by
  simp only [SV.rn,Option.map_eq_some_iff] at e
  obtain ⟨k',hk,rfl⟩:=e
  intro id hid;simp [SV.ids] at hid;subst hid;exact ⟨k,hk⟩
 | .view k lo n E,v',e=>by
  simp only [SV.rn,Option.map_eq_some_iff] at e
  obtain ⟨k',hk,rfl⟩:=e
  intro id hid;simp [SV.ids] at hid;subst hid;exact ⟨k,hk⟩
 | .agg cs,v',e=>by
  simp only [SV.rn,Option.map_eq_some_iff] at e
  obtain ⟨cs',hk,rfl⟩:=e
  simpa only [SV.ids] using rnL_ids cs cs' hk
 | .tup cs,v',e=>by
  simp only [SV.rn,Option.map_eq_some_iff] at e
  obtain ⟨cs',hk,rfl⟩:=e
  simpa only [SV.ids] using rnL_ids cs cs' hk
 | .iface t v,v',e=>by
  simp only [SV.rn,Option.map_eq_some_iff] at e
  obtain ⟨u,hk,rfl⟩:=e
  simpa only [SV.ids] using SV.rn_ids v u hk
 | .fn f cs,v',e=>by
  simp only [SV.rn,Option.map_eq_some_iff] at e
  obtain ⟨cs',hk,rfl⟩:=e
  simpa only [SV.ids] using rnL_ids cs cs' hk
 | .bfn f cs,v',e=>by
  simp only [SV.rn,Option.map_eq_some_iff] at e
  obtain ⟨cs',hk,rfl⟩:=e
  simpa only [SV.ids] using rnL_ids cs cs' hk
 | .aview k off n,v',e=>by
  simp only [SV.rn,Option.map_eq_some_iff] at e
  obtain ⟨k',hk,rfl⟩:=e
  intro id hid;simp [SV.ids] at hid;subst hid;exact ⟨k,hk⟩
theorem rnL_ids {π:List (Nat×Nat)}: ∀(l l':List SV),rnL π l=some l'-> ∀id∈idsL l',∃k,lookK k π=some id
 |[],l',e=>by simp [rnL] at e;subst e;simp [idsL]
 |v::vs,l',e=>by
  unfold rnL at e
  split at e
  ·rename_i u us hu hus
   simp only [Option.some.injEq] at e
   subst e
   intro id hid
   simp only [idsL,List.mem_append] at hid
   rcases hid with hid|hid
   ·exact SV.rn_ids v u hu id hid
   ·exact rnL_ids vs us hus id hid
  ·cases e
end
theorem raw_same (a b:Value) (h:(SV.raw a).same (.raw b)):a=b:=by
 cases a<;>cases b<;>first
  |exact False.elim h
  |(simp only [SV.same] at h;split at h
    ·rename_i hk;simp only [decide_eq_true_eq] at hk;rw [hk,h]
    ·exact h.elim)
  |exact congrArg Value.bool h
  |(simp only [SV.same] at h;first|exact h|rfl)
mutual
theorem SV.same_eq: ∀(v v':SV),v.same v'->v=v'
 | .raw a,v',h=>by
  cases v' with
  |raw b=>rw [raw_same a b h]
  |_=>cases a<;>exact False.elim h
 | .ptr k off,v',h=>by
  cases v' with
  |ptr k' off'=>
   simp only [SV.same] at h
   split at h
   ·rename_i hk;simp at hk;rw [hk.1,hk.2]
   ·exact h.elim
  |_=>exact False.elim h
 | .own k,v',h=>by
  cases v' with
  |own k'=>
   simp only [SV.same] at h
   split at h
   ·rename_i hk;simp at hk;rw [hk]
   ·exact h.elim
  |_=>exact False.elim h
 | .view k lo n E,v',h=>by
  cases v' with
  |view k' lo' n' E'=>
   simp only [SV.same] at h
   split at h
   ·rename_i hk;simp at hk;rw [hk.1,hk.2,h.1,h.2]
   ·exact h.elim
  |_=>exact False.elim h
 | .elt k i E j,v',h=>by
  cases v' with
  |elt k' i' E' j'=>
   simp only [SV.same] at h
   split at h
   ·rename_i hk;simp at hk;rw [hk.1.1,hk.1.2,hk.2,h]
   ·exact h.elim
  |_=>exact False.elim h
 | .agg cs,v',h=>by
  cases v' with
  |agg cs'=>simp only [SV.same] at h;rw [sameL_eq cs cs' h]
  |_=>exact False.elim h
 | .tup cs,v',h=>by
  cases v' with
  |tup cs'=>simp only [SV.same] at h;rw [sameL_eq cs cs' h]
  |_=>exact False.elim h
 | .iface t v,v',h=>by
  cases v' with
  |iface t' u=>
   simp only [SV.same] at h
   split at h
   ·rename_i hk;simp at hk;rw [hk,SV.same_eq v u h]
   ·exact h.elim
  |_=>exact False.elim h
 | .fn f cs,v',h=>by
  cases v' with
  |fn f' cs'=>
   simp only [SV.same] at h
   split at h
   ·rename_i hk;simp at hk;rw [hk,sameL_eq cs cs' h]
   ·exact h.elim
  |_=>exact False.elim h
 | .bfn f cs,v',h=>by
  cases v' with
  |bfn f' cs'=>
   simp only [SV.same] at h
   split at h
   ·rename_i hk;simp at hk;rw [hk,sameL_eq cs cs' h]
   ·exact h.elim
  |_=>exact False.elim h
 | .aview k off n,v',h=>by
  cases v' with
  |aview k' off' n'=>
   simp only [SV.same] at h
   split at h
   ·rename_i hk;simp at hk;rw [hk.1.1,hk.1.2,hk.2]
   ·exact h.elim
  |_=>exact False.elim h
theorem sameL_eq: ∀(l l':List SV),sameL l l'->l=l'
 |[],l',h=>by
  cases l' with
  |nil=>rfl
  |cons=>exact False.elim h
 |v::vs,l',h=>by
  cases l' with
  |nil=>exact False.elim h
  |cons v' vs'=>
   simp only [sameL] at h
   rw [SV.same_eq v v' h.1,sameL_eq vs vs' h.2]
end
theorem Chunk.same_eq (c c':Chunk T O) (h:c.same c'):c=c':=by
 cases c<;>cases c'<;>try exact False.elim h
 ·simp only [Chunk.same] at h
  split at h
  ·rename_i ht;simp at ht;rw [ht,sameL_eq _ _ h]
  ·exact h.elim
 ·simp only [Chunk.same] at h
  split at h
  ·rename_i _ _ he _ ht;simp at ht;subst he;subst ht;rw [←h];rfl
  ·exact h.elim
 ·simp only [Chunk.same] at h
  split at h
  ·rename_i _ _ he _ ht;simp at ht;subst he;subst ht;rw [←h];rfl
  ·exact h.elim
 ·simp only [Chunk.same] at h
  split at h
  ·rename_i he _;subst he;rw [←h];rfl
  ·exact h.elim
 ·simp only [Chunk.same] at h
  split at h
  ·rename_i he _;subst he;rw [←h];rfl
  ·exact h.elim
 ·simp only [Chunk.same] at h
  split at h
  ·rename_i he _;subst he;rw [←h];rfl
  ·exact h.elim
 ·simp only [Chunk.same] at h
  split at h
  ·rename_i he _;subst he;rw [←h];rfl
  ·exact h.elim
 ·simp only [Chunk.same] at h
  split at h
  ·rename_i _ _ he _ ht
   simp only [Bool.and_eq_true,beq_iff_eq] at ht
   obtain ⟨rfl,rfl⟩:=ht
   subst he
   obtain ⟨h1,h2,h3⟩:=h
   rw [sameL_eq _ _ h1,←h2,sameL_eq _ _ h3];rfl
  ·exact h.elim
 ·simp only [Chunk.same] at h
  split at h
  ·rename_i _ _ he _ ht
   simp only [Bool.and_eq_true,beq_iff_eq] at ht
   obtain ⟨rfl,rfl⟩:=ht
   subst he
   obtain ⟨h1,h2,h3,h4⟩:=h
   rw [sameL_eq _ _ h1,←h2,sameL_eq _ _ h3]
   have e4: ∀a b:Option (Int×Nat),(match a,b with
     |none,none=>True
     |some (i,k),some (i',k')=>(match k==k' with
      |true=>i=i'
      |false=>False)
     |_,_=>False)->a=b:=by
    rintro (_|⟨i,k⟩) (_|⟨i',k'⟩) g
    ·rfl
    ·exact g.elim
    ·exact g.elim
    ·dsimp only at g
     split at g
     ·rename_i hk
      rw [beq_iff_eq.1 hk,g]
     ·exact g.elim
   rw [e4 _ _ h4];rfl
  ·exact h.elim
 ·simp only [Chunk.same] at h
  split at h
  ·rename_i _ _ he _ ht;simp at ht;subst he;subst ht;rw [←h];rfl
  ·exact h.elim
 ·simp only [Chunk.same] at h
  split at h
  ·rename_i he1 he _ _ ht;simp at ht;subst he1;subst he;subst ht;rw [←h];rfl
  ·exact h.elim
 ·simp only [Chunk.same] at h
  split at h
  ·rename_i he1 he _ _;subst he1;subst he;rw [←h];rfl
  ·exact h.elim
def Enc.vals (E:Enc) (a:E.α):List Value:=denL (fun _=> .nilFunc) (E.enc a)
def valsL (E:Enc) (L:List E.α):List Value:=L.flatMap E.vals
def Enc.val (E:Enc) (a:E.α):Value:=match E.agg with
 |true=> .agg (E.vals a).toArray
 |false=>(E.vals a).headD undef
def roHolds (E:Enc) (w:World) (v:Value) (L:List E.α) (F:Nat->Prop):Prop:=
 ((∃o,v= .slice o 0 0)/\ L=[]/\ ∀x,¬F x) \/ ∃a cap,v= .slice (some a) L.length cap/\ L.length<=cap/\ a.spot=none/\ a.block<w.heap.size/\ (∀j u,(valsL E L)[j]?=some u->w.cell? (a.add j)=some u)/\ ∀x,F x↔x=a.block
def rowAt (w:World) (v:Value) (us:List Value):Prop:=
 (v= .slice none 0 0/\ us=[]) \/ ∃a cap,v= .slice (some a) us.length cap/\ us.length<=cap/\ a.spot=none/\ (∀j u,us[j]?=some u->w.cell? (a.add j)=some u)
def queHolds (E:Enc) (w:World) (t:TypeId) (v:Value) (L:List E.α) (F:Nat->Prop):Prop:=
 ((∃o,v= .slice o 0 0)/\ L=[]/\ ∀x,¬F x) \/ ∃g off cap cur,v= .slice (some ⟨g,off,none⟩) L.length cap/\ L.length<=cap/\ cap<=maxLen/\ w.heap[g]?=some (.cells cur t (0,0))/\ off+cap*E.n<=cur.size∧
  (cur.toList.drop off).take (L.length*E.n)=valsL E L/\ ∀x,F x↔x=g
def deepVals (E:Enc) {β:Type}:List (E.α×β)->List Value->List Value
 |p::L,u::us=>E.vals p.1++u::deepVals E L us
 |_,_=>[]
def deepIn (E:Enc) {β:Type} (w:World) (L:List (β×List E.α)) (us:List Value) (Fi:Nat->Nat->Prop):Prop:=
 us.length=L.length/\ ∀j u p,us[j]?=some u->L[j]?=some p->roHolds E w u p.2 (Fi j)
structure Objs (O:Nat->Type) where
 rep:(o:Nat)->O o->Value->World->(Nat->Prop)->Prop
 stable: ∀o d v w w' F,rep o d v w F->(∀x,F x->w'.heap[x]?=w.heap[x]?)->rep o d v w' F
 lt: ∀o d v w F,rep o d v w F-> ∀x,F x->x<w.heap.size
 ptr: ∀o d v w F,rep o d v w F-> ∃b,v= .pointer (some ⟨b,0,none⟩)
variable (R:Objs O)
def holeAt (hole:Option (Int×Nat)) (j:Nat):Option Nat:=match hole with
 |some (i,k)=>if i.toNat=j then some k else none
 |none=>none
def seatOk {o:Nat} (ρ:Env) (w:World) (h:Option Nat) (d:Option (O o)) (p:Value) (F:Nat->Prop):Prop:=match h,d with
 |some k,_=>p=ρ k/\ (∃b,p= .pointer (some ⟨b,0,none⟩))/\ ∀x,¬F x
 |none,some d=>R.rep o d p w F
 |none,none=>p= .pointer none/\ ∀x,¬F x
theorem seatOk_stable {o:Nat} {ρ:Env} {w w':World} {h:Option Nat} {d:Option (O o)} {p:Value} {F:Nat->Prop} (hs:seatOk R ρ w h d p F) (hw: ∀x,F x->w'.heap[x]?=w.heap[x]?):seatOk R ρ w' h d p F:=by
 cases h with
 |some k=>exact hs
 |none=>
  cases d with
  |some d=>exact R.stable o d p w w' F hs hw
  |none=>exact hs
theorem seatOk_congr {o:Nat} {ρ ρ':Env} {w:World} {h:Option Nat} {d:Option (O o)} {p:Value} {F:Nat->Prop} (hs:seatOk R ρ w h d p F) (hk: ∀k,h=some k->ρ k=ρ' k):seatOk R ρ' w h d p F:=by
 cases h with
 |some k=>exact ⟨by rw [←hk k rfl];exact hs.1,hs.2⟩
 |none=>cases d<;>exact hs
theorem seatOk_lt {o:Nat} {ρ:Env} {w:World} {h:Option Nat} {d:Option (O o)} {p:Value} {F:Nat->Prop} (hs:seatOk R ρ w h d p F): ∀x,F x->x<w.heap.size:=by
 cases h with
 |some k=>intro x hx;exact absurd hx (hs.2.2 x)
 |none=>
  cases d with
  |some d=>exact R.lt o d p w F hs
  |none=>intro x hx;exact absurd hx (hs.2 x)
theorem holeAt_mem {hole:Option (Int×Nat)} {j k:Nat} (h:holeAt hole j=some k): ∃i,hole=some (i,k)/\ i.toNat=j:=by
 unfold holeAt at h
 split at h
 ·split at h
  ·rename_i i k' e
   simp only [Option.some.injEq] at h
   subst h
   exact ⟨i,rfl,e⟩
  ·cases h
 ·cases h
def Chunk.holds (ρ:Env) (w:World) (v:Value) (F:Nat->Prop):Chunk T O->Prop
 | .cells cs t=> ∃b,v= .pointer (some ⟨b,0,none⟩)/\ w.heap[b]?=some (.cells (denL ρ cs).toArray t (0,0))/\ cs.all SV.cell=true/\ ∀x,F x↔x=b
 | .arr e L t=> ∃b,v= .pointer (some ⟨b,0,none⟩)/\ w.heap[b]?=some (.cells (valsL (T e) L).toArray t (0,0))/\ ∀x,F x↔x=b
 | .vec e L t=>w.ownsRow 0 t (T e).n v L.length (valsL (T e) L)/\ ∀x,F x↔v.ownBlock=some x
 | .ro e L=>roHolds (T e) w v L F
 | .nest e LL=> ∃us,rowAt w v us/\ us.length=LL.length/\ (∀(j:Nat) (u:Value) (L:List (T e).α),us[j]?=some u->LL[j]?=some L-> ∃F':Nat->Prop,roHolds (T e) w u L F'/\ ∀x,F' x->F x)/\ (∀x,v.ownBlock=some x->F x)/\ ∀x,F x->x<w.heap.size
 | .map e L=> ∃b es clock,v= .map (some b)/\ w.heap[b]?=some (.map es clock)/\ es.toList.map (fun m=>(m.key,m.val))=L.map (fun p=>(kval (T e).skey p.1,(T e).val p.2))/\ ((L.map (·.1)).Nodup/\ (∀p∈L,kok (T e).skey p.1)/\ MapKept.Stamped es clock)/\ ∀x,F x↔x=b
 | .obj o d=>R.rep o d v w F
 | .que e L t=>queHolds (T e) w t v L F
 | .deep e1 e L t=> ∃us Fi,deepIn (T e) w L us Fi/\ w.ownsRow 0 t ((T e1).n+1) v L.length (deepVals (T e1) L us)/\ (∀j x,Fi j x->j<L.length/\ v.ownBlock≠some x)/\ ∀x,F x↔v.ownBlock=some x \/ ∃j,Fi j x
 | .dro e1 e L=> ∃us Fi,deepIn (T e) w L us Fi/\ (∀j x,Fi j x->F x)/\ (((∃o,v= .slice o 0 0)/\ L=[]) \/ ∃a cap,v= .slice (some a) L.length cap/\ a.spot=none/\ (∀j u,(deepVals (T e1) L us)[j]?=some u->w.cell? (a.add j)=some u)/\ F a.block)/\ ∀x,F x->x<w.heap.size
 | .tab cs o n L hole ds t=> ∃b ptrs,v= .pointer (some ⟨b,0,none⟩)/\ w.heap[b]?=some (.cells (denL ρ cs++ptrs++denL ρ ds).toArray t (0,0))/\ (cs.all SV.cell=true/\ ds.all SV.cell=true/\ L.length=n/\ ptrs.length=n)/\ ∃Fi:Nat->Nat->Prop,
  (∀j p,ptrs[j]?=some p->seatOk R ρ w (holeAt hole j) (L.getD j none) p (Fi j))/\ (∀i j x,i≠j->Fi i x-> ¬Fi j x)/\ (∀j x,Fi j x->x≠b/\ j<n)/\ ∀x,F x↔x=b \/ ∃j,Fi j x
 | .mix cs e n L ds t=> ∃b,v= .pointer (some ⟨b,0,none⟩)/\ w.heap[b]?=some (.cells (denL ρ cs++valsL (T e) L++denL ρ ds).toArray t (0,0))/\ (cs.all SV.cell=true/\ ds.all SV.cell=true/\ L.length=n)/\ ∀x,F x↔x=b
theorem block_add (a:Addr) (n:Nat):(a.add n).block=a.block:=by unfold Addr.add;split<;>rfl
theorem roHolds_stable {E:Enc} {w w':World} {v:Value} {L:List E.α} {F:Nat->Prop} (h:roHolds E w v L F) (hw: ∀x,F x->w'.heap[x]?=w.heap[x]?) (hs:w.heap.size<=w'.heap.size):roHolds E w' v L F:=by
 rcases h with h|⟨a,cap,h1,h2,h3,h4,h5,h6⟩
 ·exact .inl h
 ·refine .inr ⟨a,cap,h1,h2,h3,Nat.lt_of_lt_of_le h4 hs,fun j u hj=> ?_,h6⟩
  rw [World.cell?_of_block (w:=w) (w':=w') (a:=a.add j) (by rw [block_add];exact hw _ ((h6 _).2 rfl))]
  exact h5 j u hj
theorem rowAt_stable {w w':World} {v:Value} {us:List Value} (h:rowAt w v us) (hw: ∀x,v.ownBlock=some x->w'.heap[x]?=w.heap[x]?):rowAt w' v us:=by
 rcases h with h|⟨a,cap,h1,h2,h3,h5⟩
 ·exact .inl h
 ·refine .inr ⟨a,cap,h1,h2,h3,fun j u hj=> ?_⟩
  rw [World.cell?_of_block (w:=w) (w':=w') (a:=a.add j) (by rw [block_add];exact hw _ (by rw [h1];rfl))]
  exact h5 j u hj
theorem queHolds_stable {E:Enc} {w w':World} {t:TypeId} {v:Value} {L:List E.α} {F:Nat->Prop} (h:queHolds E w t v L F) (hw: ∀x,F x->w'.heap[x]?=w.heap[x]?):queHolds E w' t v L F:=by
 rcases h with h|⟨g,off,cap,cur,h1,h3,h4,h5,h6,h7,h8⟩
 ·exact .inl h
 ·exact .inr ⟨g,off,cap,cur,h1,h3,h4,by rw [hw g ((h8 g).2 rfl)];exact h5,h6,h7,h8⟩
theorem queHolds_lt {E:Enc} {w:World} {t:TypeId} {v:Value} {L:List E.α} {F:Nat->Prop} (h:queHolds E w t v L F): ∀x,F x->x<w.heap.size:=by
 rcases h with h|⟨g,off,cap,cur,h1,h3,h4,h5,h6,h7,h8⟩
 ·intro x hx;exact absurd hx (h.2.2 x)
 ·intro x hx;rw [(h8 x).1 hx];exact (Array.getElem?_eq_some_iff.1 h5).1
theorem roHolds_lt {E:Enc} {w:World} {v:Value} {L:List E.α} {F:Nat->Prop} (h:roHolds E w v L F): ∀x,F x->x<w.heap.size:=by
 rcases h with h|⟨a,cap,h1,h2,h3,h4,h5,h6⟩
 ·intro x hx;exact absurd hx (h.2.2 x)
 ·intro x hx;rw [(h6 x).1 hx];exact h4
theorem deepIn_stable {E:Enc} {β:Type} {w w':World} {L:List (β×List E.α)} {us:List Value} {Fi:Nat->Nat->Prop} (h:deepIn E w L us Fi) (hw: ∀j x,Fi j x->w'.heap[x]?=w.heap[x]?) (hs:w.heap.size<=w'.heap.size):deepIn E w' L us Fi:=
 ⟨h.1,fun j u p hj hp=>roHolds_stable (h.2 j u p hj hp) (hw j) hs⟩
theorem Chunk.holds_stable {ρ:Env} {w w':World} {v:Value} {F:Nat->Prop} {c:Chunk T O} (h:c.holds R ρ w v F) (hw: ∀x,F x->w'.heap[x]?=w.heap[x]?) (hs:w.heap.size<=w'.heap.size):c.holds R ρ w' v F:=by
 cases c with
 |cells cs t=>
  obtain ⟨b,h1,h2,h3,h4⟩:=h
  exact ⟨b,h1,by rw [hw b ((h4 b).2 rfl)];exact h2,h3,h4⟩
 |arr e L t=>
  obtain ⟨b,h1,h2,h4⟩:=h
  exact ⟨b,h1,by rw [hw b ((h4 b).2 rfl)];exact h2,h4⟩
 |vec e L t=>
  obtain ⟨⟨h0,h1⟩,h2⟩:=h
  refine ⟨⟨h0, ?_⟩,h2⟩
  rcases h1 with h1|⟨g,cap,cur,hv,hb,hg,rest⟩
  ·exact .inl h1
  ·exact .inr ⟨g,cap,cur,hv,hb,by rw [hw g ((h2 g).2 (by rw [hv];rfl))];exact hg,rest⟩
 |ro e L=>exact roHolds_stable h hw hs
 |nest e LL=>
  obtain ⟨us,h1,h2,h3,h4,h5⟩:=h
  refine ⟨us,rowAt_stable h1 (fun x hx=>hw x (h4 x hx)),h2,fun j u L hj hL=> ?_,h4,fun x hx=>Nat.lt_of_lt_of_le (h5 x hx) hs⟩
  obtain ⟨F',g1,g2⟩:=h3 j u L hj hL
  exact ⟨F',roHolds_stable g1 (fun x hx=>hw x (g2 x hx)) hs,g2⟩
 |map e L=>
  obtain ⟨b,es,clock,h1,h2,h3,h4,h5⟩:=h
  exact ⟨b,es,clock,h1,by rw [hw b ((h5 b).2 rfl)];exact h2,h3,h4,h5⟩
 |obj o d=>exact R.stable o d v w w' F h hw
 |que e L t=>exact queHolds_stable h hw
 |deep e1 e L t=>
  obtain ⟨us,Fi,h1,⟨h0,h2⟩,h3,h4⟩:=h
  refine ⟨us,Fi,deepIn_stable h1 (fun j x hx=>hw x ((h4 x).2 (.inr ⟨j,hx⟩))) hs,⟨h0, ?_⟩,h3,h4⟩
  rcases h2 with h2|⟨g,cap,cur,hv,hb,hg,rest⟩
  ·exact .inl h2
  ·exact .inr ⟨g,cap,cur,hv,hb,by rw [hw g ((h4 g).2 (.inl (by rw [hv];rfl)))];exact hg,rest⟩
 |dro e1 e L=>
  obtain ⟨us,Fi,h1,h2,h3,h4⟩:=h
  refine ⟨us,Fi,deepIn_stable h1 (fun j x hx=>hw x (h2 j x hx)) hs,h2, ?_,fun x hx=>Nat.lt_of_lt_of_le (h4 x hx) hs⟩
  rcases h3 with h3|⟨a,cap,g1,g2,g3,g4⟩
  ·exact .inl h3
  ·refine .inr ⟨a,cap,g1,g2,fun j u hj=> ?_,g4⟩
   rw [World.cell?_of_block (w:=w) (w':=w') (a:=a.add j) (by rw [block_add];exact hw _ g4)]
   exact g3 j u hj
 |tab cs o n L hole ds t=>
  obtain ⟨b,ptrs,h1,h2,h3,Fi,h4,h5,h6,h7⟩:=h
  exact ⟨b,ptrs,h1,by rw [hw b ((h7 b).2 (.inl rfl))];exact h2,h3,Fi,fun j p hp=>seatOk_stable R (h4 j p hp) (fun x hx=>hw x ((h7 x).2 (.inr ⟨j,hx⟩))),h5,h6,h7⟩
 |mix cs e n L ds t=>
  obtain ⟨b,h1,h2,h3,h4⟩:=h
  exact ⟨b,h1,by rw [hw b ((h4 b).2 rfl)];exact h2,h3,h4⟩
theorem Chunk.holds_lt {ρ:Env} {w:World} {v:Value} {F:Nat->Prop} {c:Chunk T O} (h:c.holds R ρ w v F): ∀x,F x->x<w.heap.size:=by
 have get: ∀ {b:Nat} {o:Obj},w.heap[b]?=some o->b<w.heap.size:=fun h=>(Array.getElem?_eq_some_iff.1 h).1
 cases c with
 |cells cs t=>
  obtain ⟨b,h1,h2,h3,h4⟩:=h
  intro x hx;rw [(h4 x).1 hx];exact get h2
 |arr e L t=>
  obtain ⟨b,h1,h2,h4⟩:=h
  intro x hx;rw [(h4 x).1 hx];exact get h2
 |vec e L t=>
  intro x hx
  exact (h.1.lt x ((h.2 x).1 hx)).2
 |ro e L=>
  rcases h with h|⟨a,cap,h1,h2,h3,h4,h5,h6⟩
  ·intro x hx;exact absurd hx (h.2.2 x)
  ·intro x hx;rw [(h6 x).1 hx];exact h4
 |nest e LL=>
  obtain ⟨us,h1,h2,h3,h4,h5⟩:=h
  exact h5
 |map e L=>
  obtain ⟨b,es,clock,h1,h2,h3,h4,h5⟩:=h
  intro x hx;rw [(h5 x).1 hx];exact get h2
 |obj o d=>exact R.lt o d v w F h
 |que e L t=>exact queHolds_lt h
 |deep e1 e L t=>
  obtain ⟨us,Fi,h1,h2,h3,h4⟩:=h
  intro x hx
  rcases (h4 x).1 hx with hx|⟨j,hx⟩
  ·exact (h2.lt x hx).2
  ·have hj:=(h3 j x hx).1
   exact roHolds_lt (h1.2 j _ _ (List.getElem?_eq_getElem (by rw [h1.1];exact hj)) (List.getElem?_eq_getElem hj)) x hx
 |dro e1 e L=>
  obtain ⟨us,Fi,h1,h2,h3,h4⟩:=h
  exact h4
 |tab cs o n L hole ds t=>
  obtain ⟨b,ptrs,h1,h2,h3,Fi,h4,h5,h6,h7⟩:=h
  intro x hx
  rcases (h7 x).1 hx with rfl|⟨j,hj⟩
  ·exact get h2
  ·have hl:j<ptrs.length:=by rw [h3.2.2.2];exact (h6 j x hj).2
   exact seatOk_lt R (h4 j ptrs[j] (List.getElem?_eq_getElem hl)) x hj
 |mix cs e n L ds t=>
  obtain ⟨b,h1,h2,h3,h4⟩:=h
  intro x hx;rw [(h4 x).1 hx];exact get h2
theorem Chunk.holds_congr {ρ ρ':Env} {w:World} {v:Value} {F:Nat->Prop} {c:Chunk T O} (h:c.holds R ρ w v F) (hi: ∀id∈c.ids,ρ id=ρ' id):c.holds R ρ' w v F:=by
 cases c with
 |cells cs t=>
  obtain ⟨b,h1,h2,h3,h4⟩:=h
  exact ⟨b,h1,by rw [h2,denL_congr cs hi],h3,h4⟩
 |tab cs o n L hole ds t=>
  obtain ⟨b,ptrs,h1,h2,h3,Fi,h4,h5,h6,h7⟩:=h
  refine ⟨b,ptrs,h1,by rw [h2,denL_congr cs (fun id hid=>hi id (by simp [Chunk.ids,hid])),denL_congr ds (fun id hid=>hi id (by simp [Chunk.ids,hid]))],h3,Fi,fun j p hp=>seatOk_congr R (h4 j p hp) fun k hk=> ?_,h5,h6,h7⟩
  obtain ⟨i,rfl,_⟩:=holeAt_mem hk
  exact hi k (by simp [Chunk.ids])
 |mix cs e n L ds t=>
  obtain ⟨b,h1,h2,h3,h4⟩:=h
  exact ⟨b,h1,by rw [h2,denL_congr cs (fun id hid=>hi id (List.mem_append_left _ hid)),denL_congr ds (fun id hid=>hi id (List.mem_append_right _ hid))],h3,h4⟩
 |_=>exact h
theorem rnL_cell {π:List (Nat×Nat)}: ∀(l l':List SV),rnL π l=some l'->l'.all SV.cell=l.all SV.cell
 |[],l',e=>by simp [rnL] at e;subst e;rfl
 |v::vs,l',e=>by
  unfold rnL at e
  split at e
  ·rename_i u us hu hus
   simp only [Option.some.injEq] at e
   subst e
   simp only [List.all_cons,rnL_cell vs us hus]
   congr 1
   cases v<;>simp only [SV.rn,Option.map_eq_some_iff,Option.some.injEq] at hu<;>first
    |(subst hu;rfl)
    |(obtain ⟨_,_,rfl⟩:=hu;rfl)
  ·cases e
theorem rn_tab {π:List (Nat×Nat)} {cs ds:List SV} {o:Nat} {n:Nat} {L:List (Option (O o))} {hole:Option (Int×Nat)} {t:TypeId} {c':Chunk T O} (hc:(Chunk.tab cs o n L hole ds t:Chunk T O).rn π=some c'):
  ∃cs' ds' hole',rnL π cs=some cs'/\ rnL π ds=some ds'/\ ((hole=none/\ hole'=none) \/ ∃i k k',hole=some (i,k)/\ hole'=some (i,k')/\ lookK k π=some k')/\ c'= .tab cs' o n L hole' ds' t:=by
 simp only [Chunk.rn] at hc
 split at hc
 ·rename_i cs' ds' h h'
  simp only [Option.some.injEq] at hc
  exact ⟨cs',ds',none,h,h', .inl ⟨rfl,rfl⟩,hc.symm⟩
 ·rename_i cs' ds' i k h h'
  simp only [Option.map_eq_some_iff] at hc
  obtain ⟨k',hk,rfl⟩:=hc
  exact ⟨cs',ds',some (i,k'),h,h', .inr ⟨i,k,k',rfl,rfl,hk⟩,rfl⟩
 ·cases hc
theorem Chunk.rn_holds {π:List (Nat×Nat)} {ρ ρ':Env} (hπ: ∀k k',lookK k π=some k'->ρ' k'=ρ k) {w:World} {v:Value} {F:Nat->Prop} {c c':Chunk T O} (hc:c.rn π=some c'):
  c'.holds R ρ' w v F↔c.holds R ρ w v F:=by
 cases c with
 |cells cs t=>
  simp only [Chunk.rn,Option.map_eq_some_iff] at hc
  obtain ⟨cs',h,rfl⟩:=hc
  simp only [Chunk.holds,rnL_den hπ cs cs' h,rnL_cell cs cs' h]
 |tab cs o n L hole ds t=>
  obtain ⟨cs',ds',hole',h,h',hh,rfl⟩:=rn_tab hc
  have key: ∀j (d:Option (O o)) p (G:Nat->Prop),seatOk R ρ' w (holeAt hole' j) d p G↔seatOk R ρ w (holeAt hole j) d p G:=by
   intro j d p G
   rcases hh with ⟨rfl,rfl⟩|⟨i,k,k',rfl,rfl,hk⟩
   ·cases d<;>exact Iff.rfl
   ·unfold holeAt
    by_cases e:i.toNat=j
    ·simp only [e,if_true]
     show (p=ρ' k'/\ _)↔(p=ρ k/\ _)
     rw [hπ k k' hk]
    ·simp only [e,if_false]
     cases d<;>exact Iff.rfl
  simp only [Chunk.holds,rnL_den hπ cs cs' h,rnL_cell cs cs' h,rnL_den hπ ds ds' h',rnL_cell ds ds' h',key]
 |mix cs e n L ds t=>
  simp only [Chunk.rn] at hc
  split at hc
  ·rename_i cs' ds' h h'
   simp only [Option.some.injEq] at hc
   subst hc
   simp only [Chunk.holds,rnL_den hπ cs cs' h,rnL_cell cs cs' h,rnL_den hπ ds ds' h',rnL_cell ds ds' h']
  ·cases hc
 |_=>
  simp only [Chunk.rn,Option.some.injEq] at hc
  subst hc
  rfl
theorem Chunk.rn_owned {π:List (Nat×Nat)} {c c':Chunk T O} (hc:c.rn π=some c'):c'.owned=c.owned:=by
 cases c with
 |cells cs t=>
  simp only [Chunk.rn,Option.map_eq_some_iff] at hc
  obtain ⟨cs',h,rfl⟩:=hc
  rfl
 |tab cs o n L hole ds t=>
  obtain ⟨cs',ds',hole',_,_,_,rfl⟩:=rn_tab hc
  rfl
 |mix cs e n L ds t=>
  simp only [Chunk.rn] at hc
  split at hc
  ·simp only [Option.some.injEq] at hc;subst hc;rfl
  ·cases hc
 |_=>
  simp only [Chunk.rn,Option.some.injEq] at hc
  subst hc
  rfl
structure HeapOk (ρ:Env) (H:Nat->Option (Chunk T O)) (Fs:Nat->Nat->Prop) (w:World):Prop where
 one: ∀k,(ρ k).oneCell'=true
 holds: ∀k c,H k=some c->c.holds R ρ w (ρ k) (Fs k)
 sep: ∀k k' c c',H k=some c->H k'=some c'->k≠k'->c.owned=true-> ∀x,Fs k x-> ¬Fs k' x
structure Kept (M:Nat->Prop) (w w':World):Prop where
 os:w'.os=w.os
 tape:w'.tape=w.tape
 output:w'.output=w.output
 size:w.heap.size<=w'.heap.size
 block: ∀b,b<w.heap.size-> ¬M b->w'.heap[b]?=w.heap[b]?
theorem Kept.refl (M:Nat->Prop) (w:World):Kept M w w:=⟨rfl,rfl,rfl,Nat.le_refl _,fun _ _ _=>rfl⟩
theorem Kept.mono {M N:Nat->Prop} {w w':World} (h:Kept M w w') (hm: ∀x,x<w.heap.size->M x->N x):Kept N w w':=
 ⟨h.os,h.tape,h.output,h.size,fun b hb hn=>h.block b hb (fun hM=>hn (hm b hb hM))⟩
theorem Kept.trans {M N:Nat->Prop} {a b c:World} (h:Kept M a b) (k:Kept N b c) (hn: ∀x,x<a.heap.size->N x->M x):Kept M a c:=
 ⟨k.os.trans h.os,k.tape.trans h.tape,k.output.trans h.output,Nat.le_trans h.size k.size,fun x hx hM=>
  (k.block x (Nat.lt_of_lt_of_le hx h.size) (fun hN=>hM (hn x hx hN))).trans (h.block x hx hM)⟩
theorem HeapOk.lt {ρ:Env} {H:Nat->Option (Chunk T O)} {Fs:Nat->Nat->Prop} {w:World} (h:HeapOk R ρ H Fs w) {k:Nat} {c:Chunk T O} (hk:H k=some c): ∀x,Fs k x->x<w.heap.size:=
 Chunk.holds_lt R (h.holds k c hk)
end
end Go.Sx