/-
  Part of a proof over the seat YtlfjbnflfdnoaaaGreat: printed by a small program or typed by hand.
-/
import Derived.Test.YtlfjbnflfdnoaaaGreatSxOps4
import Derived.Laws.MakeOwn
/-
 Sx:rows that grow,rows that are built;an array's element.
-/
namespace Go.Sx
section
variable {T:Nat->Enc} {O:Nat->Type} (R:Objs O)
section
variable {ρ:Env} {H:Nat->Option (Chunk T O)} {Fs:Nat->Nat->Prop} {w w':World} {fresh:Nat} {K:Eff T O->Prop} (X:Ctx T O)
theorem zeroOk_elim {e:Nat} {i:TypeInfo} (h:zeroOk (T:=T) e i=true): ∃z,i.zero=some z/\ z.cells.size=(T e).n/\ i.size=(T e).n/\ 0<(T e).n/\ 0<i.bytes:=by
 unfold zeroOk at h
 split at h
 ·rename_i z hz
  simp only [Bool.and_eq_true,decide_eq_true_eq] at h
  exact ⟨z,hz,h.1.1.1,h.1.1.2,h.1.2,h.2⟩
 ·cases h
theorem maxLen_of_roomy {n b:Nat} (hb:0<b) (h:n*b<=140737488355328):n<=maxLen:=by
 have:n*1<=n*b:=Nat.mul_le_mul_left _ hb
 simp only [maxLen]
 omega
theorem anyL_src {e:Nat} {x:SV} {L:List (T e).α} (h:anyL e x (headC H x)=some L) (hp:HeapOk R ρ H Fs w):
  ((∃o,x.den ρ= .slice o 0 0)/\ L=[]) \/ ∃a cap,x.den ρ= .slice (some a) L.length cap/\ ∀j u,(valsL (T e) L)[j]?=some u->w.cell? (a.add j)=some u:=by
 unfold anyL at h
 split at h
 ·simp only [Option.some.injEq] at h
  subst h
  exact .inl ⟨⟨_,rfl⟩,rfl⟩
 ·rename_i k e' L' el' hk
  simp only [headC,SV.head] at hk
  obtain ⟨hown,hF⟩:=hp.holds k _ hk
  split at h
  ·rename_i he _
   subst he
   simp only [castE,Option.some.injEq] at h
   subst h
   rcases vec_ro hown hF with ⟨hv,hn,_⟩|⟨a,cap,hv,_,_,_,hcell,_⟩
   ·exact .inl ⟨hv,hn⟩
   ·exact .inr ⟨a,cap,hv,hcell⟩
  ·cases h
 ·rename_i k e' L' hk
  simp only [headC,SV.head] at hk
  have hro:=hp.holds k _ hk
  split at h
  ·rename_i he _
   subst he
   simp only [castE,Option.some.injEq] at h
   subst h
   rcases hro with ⟨hv,hn,_⟩|⟨a,cap,hv,_,_,_,hcell,_⟩
   ·exact .inl ⟨hv,hn⟩
   ·exact .inr ⟨a,cap,hv,hcell⟩
  ·cases h
 ·rename_i k e' L' el' hk
  simp only [headC,SV.head] at hk
  have hq:=hp.holds k _ hk
  split at h
  ·rename_i he _
   subst he
   simp only [castE,Option.some.injEq] at h
   subst h
   rcases hq with ⟨hv,hn,_⟩|⟨g,off,cap,cur,hv,_,_,hg,_,htake,_⟩
   ·exact .inl ⟨hv,hn⟩
   ·exact .inr ⟨⟨g,off,none⟩,cap,hv,fun j u hj=>by rw [Addr.add_lit];exact que_cell hg htake hj⟩
  ·cases h
 ·cases h
theorem updH_append (u v:List (Nat×Option (Chunk T O))): ∀(H:Nat->Option (Chunk T O)),updH (u++v) H=updH v (updH u H):=by
 induction u with
 |nil=>intro H;rfl
 |cons p u ih=>intro H;exact ih _
theorem EffOk.made (hp:HeapOk R ρ H Fs w) (hf:Free H fresh) {ids:List Nat} (hids: ∀id∈ids,∃c,H id=some c/\ c.owned=true) (hk:Kept (fun x=> ∃id∈ids,Fs id x) w w') (c':Chunk T O) (u v:Value) (F:Nat->Prop) (sv:Option SV)
  (hu:u.oneCell'=true) (hc':c'.holds R (setF ρ fresh u) w' u F) (hF: ∀x,F x->w.heap.size<=x \/ ∃id∈ids,Fs id x) (hv: ∀s,sv=some s->v=s.den (setF ρ fresh u)):
  EffOk R ρ H Fs w fresh ⟨sv,goneU ids++[(fresh,some c')]⟩ v (setF ρ fresh u) (setF Fs fresh F) w':=by
 have f0:H fresh=none/\ ∀k c,H k=some c->k≠fresh/\ ∀id∈c.ids,id≠fresh:=by simpa using hf.at (i:=0) (by unfold stride;omega)
 have hU: ∀j,updH (goneU ids++[(fresh,some c')]) H j=if j=fresh then some c' else if j∈ids then none else H j:=by
  intro j
  rw [updH_append]
  show (if j=fresh then some c' else updH (goneU ids) H j)=_
  rw [updH_gone]
 have keys:(goneU ids++[(fresh,some c')]:List (Nat×Option (Chunk T O))).map (·.1)=ids++[fresh]:=by rw [List.map_append,keys_gone];rfl
 have nf: ∀id∈ids,id≠fresh:=fun id hid=>by
  obtain ⟨c,hc,_⟩:=hids id hid
  exact (f0.2 id c hc).1
 refine ⟨hv,fun j hj=>setF_other ρ u (fun e=>hj ?_),fun j hj=> ?_,⟨fun j=> ?_,fun j d hd=> ?_,fun j j' d d' hd hd' hne hod x hx=> ?_⟩, ?_, ?_, ?_⟩
 ·subst e;unfold stride;omega
 ·have hj:j∉ids++[fresh]:=keys▸hj
  simp only [List.mem_append,List.mem_singleton,not_or] at hj
  exact setF_other Fs F hj.2
 ·by_cases e:j=fresh
  ·subst e;rw [setF_same];exact hu
  ·rw [setF_other ρ u e];exact hp.one j
 ·rw [hU] at hd
  by_cases e:j=fresh
  ·subst e
   rw [if_pos rfl] at hd
   simp only [Option.some.injEq] at hd
   subst hd
   rw [setF_same,setF_same]
   exact hc'
  ·rw [if_neg e] at hd
   split at hd
   ·cases hd
   ·rename_i hji
    rw [setF_other ρ u e,setF_other Fs F e]
    refine Chunk.holds_congr R (Chunk.holds_stable R (hp.holds j d hd) (fun x hx=>hk.block x (hp.lt R hd x hx) ?_) hk.size) (fun id hid=>(setF_other ρ u ((f0.2 j d hd).2 id hid)).symm)
    rintro ⟨id,hid,hxi⟩
    obtain ⟨c,hc,ho⟩:=hids id hid
    exact hp.sep id j c d hc hd (fun e=>hji (e▸hid)) ho x hxi hx
 ·rw [hU] at hd hd'
  have old: ∀ {j d},¬j=fresh->(if j=fresh then some c' else if j∈ids then none else H j)=some d->j∉ids/\ H j=some d:=by
   intro j d e h
   rw [if_neg e] at h
   split at h
   ·cases h
   ·rename_i hji;exact ⟨hji,h⟩
  have cross: ∀ {j d},¬j=fresh->(if j=fresh then some c' else if j∈ids then none else H j)=some d-> ∀x,F x-> ¬Fs j x:=by
   intro j d e h x hx hx'
   obtain ⟨hji,h⟩:=old e h
   rcases hF x hx with h1|⟨id,hid,hxi⟩
   ·have:=hp.lt R h x hx';omega
   ·obtain ⟨c,hc,ho⟩:=hids id hid
    exact hp.sep id j c d hc h (fun e=>hji (e▸hid)) ho x hxi hx'
  by_cases e:j=fresh
  ·by_cases e':j'=fresh
   ·exact absurd (e.trans e'.symm) hne
   ·subst e
    rw [setF_same] at hx
    rw [setF_other Fs F e']
    exact cross e' hd' x hx
  ·rw [setF_other Fs F e] at hx
   by_cases e':j'=fresh
   ·subst e'
    rw [setF_same]
    exact fun hx'=>cross e hd x hx' hx
   ·rw [setF_other Fs F e']
    exact hp.sep j j' d d' (old e hd).2 (old e' hd').2 hne hod x hx
 ·refine hk.mono fun x _ hx=> ?_
  obtain ⟨id,hid,hxi⟩:=hx
  exact ⟨id,by rw [keys];exact List.mem_append_left _ hid,hids id hid,hxi⟩
 ·intro j hj d hd x hx
  rw [keys] at hj ⊢
  rw [hU] at hd
  by_cases e:j=fresh
  ·subst e
   rw [setF_same] at hx
   rcases hF x hx with h|⟨id,hid,hxi⟩
   ·exact .inl h
   ·exact .inr (.inl ⟨id,List.mem_append_left _ hid,hids id hid,hxi⟩)
  ·rw [if_neg e] at hd
   rw [List.mem_append,List.mem_singleton] at hj
   rw [if_pos (hj.resolve_right e)] at hd
   cases hd
 ·intro j hj
  rw [keys,List.mem_append,List.mem_singleton] at hj
  rcases hj with hj|rfl
  ·exact .inl (hids j hj)
  ·exact .inr ⟨by omega,by unfold stride;omega⟩
theorem run_append_room_at {P:Program} (t ty e:TypeId) (i:TypeInfo) (ht:P.underlying t=some (.slice e)) (hi:P.info? e=some i)
  (g off sLen sCap:Nat) (cur:Array Value) (hg:w.heap[g]?=some (.cells cur e (0,0)))
  (a:Addr) (m c:Nat) (news:List Value) (hl:news.length=m*i.size) (hnews: ∀j u,news[j]?=some u->w.cell? (a.add j)=some u) (h1: ∀u∈news,u.oneCell'=true)
  (hroom:sLen+m<=sCap) (hfit:off+sLen*i.size+news.length<=cur.size):
  (Builtin.append_ #[t,t] ty #[.slice (some ⟨g,off,none⟩) sLen sCap, .slice (some a) m c]).run P w=
   .ok (.slice (some ⟨g,off,none⟩) (sLen+m) sCap) (w.setRow g (cur.toList.take (off+sLen*i.size)++news++cur.toList.drop (off+sLen*i.size+news.length)).toArray):=by
 have hf:=run_firstCells_some (P:=P) w i.size m a m c news hl hnews
 have hst:=run_storeCells_at P g (off+sLen*i.size) e news 0 cur w hg (by simpa using hfit) h1
 simp only [Nat.add_zero] at hst
 simp [Builtin.append_,run_underlying ht,sizeOf,typeInfo,hi,Builtin.lenOf,hroom,hf,Addr.add_lit,hst]
theorem run_append_zero {P:Program} (t ty e:TypeId) (i:TypeInfo) (ht:P.underlying t=some (.slice e)) (hi:P.info? e=some i) (b:Option Addr) (n cap:Nat) (hn:n<=cap) (o:Option Addr) (c:Nat):
  (Builtin.append_ #[t,t] ty #[.slice b n cap, .slice o 0 c]).run P w= .ok (.slice b n cap) w:=by
 have hf:(Builtin.firstCells i.size 0 (.slice o 0 c)).run P w= .ok #[] w:=by
  cases o with
  |none=>simp [run_firstCells_none]
  |some a=>exact run_firstCells_some (P:=P) w i.size 0 a 0 c [] (by simp) (fun j u h=>by simp at h)
 have hs: ∀a:Addr,(storeCells a []).run P w= .ok () w:=fun a=>by simp [storeCells]
 cases b with
 |none=>simp [Builtin.append_,run_underlying ht,sizeOf,typeInfo,hi,Builtin.lenOf,hn,hf]
 |some b=>simp [Builtin.append_,run_underlying ht,sizeOf,typeInfo,hi,Builtin.lenOf,hn,hf,hs]
theorem que_append {P:Program} {E:Enc} (t ty e:TypeId) (i:TypeInfo) (z:Value) (ht:P.underlying t=some (.slice e)) (hi:P.info? e=some i) (hz:i.zero=some z) (hsz:i.size=E.n) (hzs:z.cells.size=E.n) (hn:0<E.n) (hby:0<i.bytes)
  {v x:Value} {L L':List E.α} {F:Nat->Prop} (hq:queHolds E w e v L F) (hx:((∃o,x= .slice o 0 0)/\ L'=[]) \/ ∃a cap,x= .slice (some a) L'.length cap/\ ∀j u,(valsL E L')[j]?=some u->w.cell? (a.add j)=some u)
  (hroom:(L.length+L'.length)*i.bytes<=140737488355328):
  ∃v' w' F',(Builtin.append_ #[t,t] ty #[v,x]).run P w= .ok v' w'/\ queHolds E w' e v' (L++L') F'/\ v'.oneCell'=true/\ Kept F w w'/\ ∀b,F' b->w.heap.size<=b \/F b:=by
 have h63:L.length+L'.length<=maxLen:=maxLen_of_roomy hby hroom
 have hsmall:L.length+L'.length<=9223372036854775807:=by simp only [maxLen] at h63;omega
 by_cases h0:L'=[]
 ·subst h0
  have hx': ∃o c,x= .slice o 0 c:=by
   rcases hx with ⟨⟨o,h⟩,_⟩|⟨a,cap,h,_⟩
   ·exact ⟨o,0,h⟩
   ·exact ⟨some a,cap,h⟩
  obtain ⟨o,c,rfl⟩:=hx'
  have hv: ∃b n cap,v= .slice b n cap/\ n<=cap:=by
   rcases hq with ⟨⟨o,h⟩,_⟩|⟨g,off,cap,cur,h,h3,_⟩
   ·exact ⟨o,0,0,h,Nat.le_refl _⟩
   ·exact ⟨_,_,_,h,h3⟩
  obtain ⟨b,n,cap,rfl,hnc⟩:=hv
  exact ⟨_,w,F,run_append_zero t ty e i ht hi b n cap hnc o c,by rw [List.append_nil];exact hq,rfl,Kept.refl _ _,fun b hb=> .inr hb⟩
 ·have hpos:0<L'.length:=List.length_pos_iff.2 h0
  obtain ⟨a,c,rfl,hcell⟩: ∃a cap,x= .slice (some a) L'.length cap/\ ∀j u,(valsL E L')[j]?=some u->w.cell? (a.add j)=some u:=by
   rcases hx with ⟨_,h⟩|h
   ·exact absurd h h0
   ·exact h
  have hvl:valsL E (L++L')=valsL E L++valsL E L':=by unfold valsL;rw [List.flatMap_append]
  have hl':(valsL E L').length=L'.length*i.size:=by rw [valsL_len,hsz]
  --what the growing arm leaves
  have grown: ∀(old:Nat),old<L.length+L'.length->queHolds E (w.drew.alloc (.cells ((valsL E L).toArray++(valsL E L').toArray++Builtin.zeroCells z.cells (grownCap w (L.length+L'.length) old e-(L.length+L'.length))) e)) e
    (.slice (some ⟨w.heap.size,0,none⟩) (L.length+L'.length) (grownCap w (L.length+L'.length) old e)) (L++L') (fun b=>b=w.heap.size)∧
    Kept F w (w.drew.alloc (.cells ((valsL E L).toArray++(valsL E L').toArray++Builtin.zeroCells z.cells (grownCap w (L.length+L'.length) old e-(L.length+L'.length))) e)):=by
   intro old ho
   have hge:=grownCap_ge w (L.length+L'.length) old e
   have hcm:grownCap w (L.length+L'.length) old e<=maxLen:=grownCap_le_maxLen w (L.length+L'.length) old e h63
   have hnl:(valsL E L++valsL E L').length=(L.length+L'.length)*E.n:=by rw [List.length_append,valsL_len,valsL_len,Nat.add_mul]
   refine ⟨.inr ⟨w.heap.size,0,_,_,by rw [List.length_append],by rw [List.length_append];exact hge,hcm,heap_alloc_new w.drew _, ?_, ?_,fun _=>Iff.rfl⟩,⟨rfl,rfl,rfl,by simp,fun k hk _=>heap_alloc_old w.drew _ k hk⟩⟩
   ·simp only [Array.size_append,List.size_toArray,size_zeroCells,hzs,valsL_len,←Nat.add_mul,Nat.zero_add]
    exact Nat.mul_le_mul_right _ (by omega)
   ·simp only [Array.toList_append,List.drop_zero]
    rw [hvl,List.length_append,←hnl]
    exact List.take_left
  rcases hq with ⟨⟨o,rfl⟩,rfl,hF⟩|⟨g,off,cap,cur,rfl,hlc,hcm,hg,hfit,htake,hF⟩
  ·cases o with
   |none=>
    have hr:=run_append_nil (P:=P) w t ty e i z ht hi hz a L'.length c (valsL E L') hl' hcell hpos (by simp at hsmall;omega) (by simp only [List.length_nil,Nat.zero_add] at hroom;omega)
    obtain ⟨g1,g2⟩:=grown 0 (by omega)
    simp only [valsL,List.flatMap_nil,List.length_nil,Nat.zero_add,Array.empty_append] at g1 g2 hr
    exact ⟨_,_,_,hr,g1,rfl,g2,fun b hb=> .inl (by omega)⟩
   |some b=>
    have hr:=run_append_grow (P:=P) w t ty e i z ht hi hz b 0 0 [] (by simp) (fun j u h=>by simp at h) a L'.length c (valsL E L') hl' hcell (by omega) (by simp at hsmall;omega) (growslice_fits (by omega) (by simpa using hroom))
    obtain ⟨g1,g2⟩:=grown 0 (by omega)
    simp only [valsL,List.flatMap_nil,List.length_nil,Nat.zero_add,Array.empty_append] at g1 g2 hr
    exact ⟨_,_,_,hr,g1,rfl,g2,fun b hb=> .inl (by omega)⟩
  ·by_cases hro:L.length+L'.length<=cap
   ·have hm:(L.length+L'.length)*E.n<=cap*E.n:=Nat.mul_le_mul_right _ hro
    have hm2:(L.length+L'.length)*E.n=L.length*E.n+L'.length*E.n:=Nat.add_mul _ _ _
    have hfit':off+L.length*i.size+(valsL E L').length<=cur.size:=by rw [valsL_len,hsz];omega
    have hr:=run_append_room_at (P:=P) (w:=w) t ty e i ht hi g off L.length cap cur hg a L'.length c (valsL E L') hl' hcell (valsL_cell E L') hro hfit'
    refine ⟨_,_,F,hr, .inr ⟨g,off,cap,_,by rw [List.length_append],by rw [List.length_append];exact hro,hcm,setRow_heap w g cur _ e _ hg, ?_, ?_,hF⟩,rfl,⟨rfl,rfl,rfl,by simp,fun k _ hk=>setRow_other w g k _ (fun e=>hk ((hF k).2 e))⟩,fun b hb=> .inr hb⟩
    ·simp only [List.size_toArray,List.length_append,List.length_take,List.length_drop,Array.length_toList]
     omega
    ·have hcl:cur.toList.length=cur.size:=Array.length_toList
     rw [hvl,List.length_append,hm2,hsz,List.append_assoc]
     rw [List.drop_append_of_le_length (by rw [List.length_take,hcl,valsL_len,hsz] at*;omega),List.drop_take,show off+L.length*E.n-off=L.length*E.n by omega,htake,←List.append_assoc]
     rw [show L.length*E.n+L'.length*E.n=(valsL E L++valsL E L').length by rw [List.length_append,valsL_len,valsL_len]]
     exact List.take_left
   ·have hr:=run_append_grow (P:=P) w t ty e i z ht hi hz ⟨g,off,none⟩ L.length cap (valsL E L) (by rw [valsL_len,hsz]) (fun j u hj=>by rw [Addr.add_lit];exact que_cell hg htake hj) a L'.length c (valsL E L') hl' hcell (by omega) (by omega) (growslice_fits (by omega) hroom)
    obtain ⟨g1,g2⟩:=grown cap (by omega)
    exact ⟨_,_,_,hr,g1,rfl,g2,fun b hb=> .inl (by omega)⟩
theorem zeroN_elim {n:Nat} {i:TypeInfo} (h:zeroN n i=true): ∃z,i.zero=some z/\ z.cells.size=n/\ i.size=n/\ 0<n/\ 0<i.bytes:=by
 unfold zeroN at h
 split at h
 ·rename_i z hz
  simp only [Bool.and_eq_true,decide_eq_true_eq] at h
  exact ⟨z,hz,h.1.1.1,h.1.1.2,h.1.2,h.2⟩
 ·cases h
theorem deepVals_len (E:Enc) {β:Type}: ∀ {L:List (E.α×β)} {us:List Value},us.length=L.length->(deepVals E L us).length=L.length*(E.n+1)
 |[],us,_=>by simp [deepVals]
 |p::L,[],h=>by simp at h
 |p::L,u::us,h=>by
  have ih:=deepVals_len E (L:=L) (us:=us) (by simpa using h)
  simp only [deepVals,List.length_append,List.length_cons,ih,vals_len,Nat.add_mul]
  omega
theorem deepVals_app (E:Enc) {β:Type}: ∀ {L:List (E.α×β)} {us:List Value} (L':List (E.α×β)) (us':List Value),us.length=L.length->deepVals E (L++L') (us++us')=deepVals E L us++deepVals E L' us'
 |[],us,L',us',h=>by
  have:us=[]:=List.eq_nil_of_length_eq_zero (by simpa using h)
  subst this
  cases L'<;>cases us'<;>rfl
 |p::L,[],_,_,h=>by simp at h
 |p::L,u::us,L',us',h=>by
  have ih:=deepVals_app E (L:=L) (us:=us) L' us' (by simpa using h)
  simp only [deepVals,List.cons_append,ih,List.append_assoc]
theorem deepVals_cell (E:Enc) {β:Type}: ∀ {L:List (E.α×β)} {us:List Value},(∀u∈us,u.oneCell'=true)-> ∀u∈deepVals E L us,u.oneCell'=true
 |[],us,_,u,h=>by simp [deepVals] at h
 |p::L,[],_,u,h=>by simp [deepVals] at h
 |p::L,v::us,hu,u,h=>by
  simp only [deepVals,List.mem_append,List.mem_cons] at h
  rcases h with h|rfl|h
  ·exact vals_cell E p.1 u h
  ·exact hu u (by simp)
  ·exact deepVals_cell E (L:=L) (us:=us) (fun u h=>hu u (by simp [h])) u h
theorem roHolds_one {E:Enc} {v:Value} {L:List E.α} {F:Nat->Prop} (h:roHolds E w v L F):v.oneCell'=true:=by
 rcases h with ⟨⟨_,h1⟩,_⟩|⟨a,cap,h1,_⟩<;>rw [h1]<;>rfl
theorem deepIn_one {E:Enc} {β:Type} {L:List (β×List E.α)} {us:List Value} {Fi:Nat->Nat->Prop} (h:deepIn E w L us Fi): ∀u∈us,u.oneCell'=true:=by
 intro u hu
 obtain ⟨j,hj,rfl⟩:=List.getElem_of_mem hu
 exact roHolds_one (h.2 j _ _ (List.getElem?_eq_getElem hj) (List.getElem?_eq_getElem (by rw [←h.1];exact hj)))
theorem deep_append {t ty el:TypeId} {i:TypeInfo} {e1 e k k':Nat} {L L':List ((T e1).α×List (T e).α)} (hu:X.P.underlying t=some (.slice el)) (hi:X.P.info? el=some i) (hz:zeroN ((T e1).n+1) i=true)
  (hp:HeapOk R ρ H Fs w) (hf:Free H fresh) (hk:H k=some (.deep e1 e L el)) (hk':H k'=some (.deep e1 e L' el)) (hne:k≠k') (hroom:(L.length+L'.length)*i.bytes<=140737488355328)
  (h:K ⟨some (.own fresh),[(k,none),(k',none),(fresh,some (.deep e1 e (L++L') el))]⟩):
  ∃v w',(Builtin.append_ #[t,t] ty #[ρ k,ρ k']).run X.P w= .ok v w'/\ OpOk R ρ H Fs w fresh K v w':=by
 obtain ⟨z,hz1,hz2,hz3,hz4,hz5⟩:=zeroN_elim hz
 obtain ⟨us,Fi,⟨i1,i2⟩,hown,h3,h4⟩:=hp.holds k _ hk
 obtain ⟨us',Fi',⟨i1',i2'⟩,hown',h3',h4'⟩:=hp.holds k' _ hk'
 have h63:=maxLen_of_roomy hz5 hroom
 have hone':=deepIn_one ⟨i1',i2'⟩
 have key: ∃v' w',(Builtin.append_ #[t,t] ty #[ρ k,ρ k']).run X.P w= .ok v' w'/\ w'.ownsRow 0 el ((T e1).n+1) v' (L++L').length (deepVals (T e1) (L++L') (us++us'))/\ w.grownBy w' (ρ k).ownBlock/\ (v'.ownBlock=(ρ k).ownBlock \/v'.ownBlock=some w.heap.size):=by
  rw [deepVals_app (T e1) L' us' i1,List.length_append]
  rcases hown'.2 with ⟨hv,hn⟩|⟨g,cap,cur,hv,hb,hg,hrest⟩
  ·have hL':L'=[]:=List.eq_nil_of_length_eq_zero hn
   subst hL'
   rw [hv]
   have:=run_append_owned_none (P:=X.P) w 0 t ty el i ((T e1).n+1) hu hi (ρ k) L.length _ hown
   refine ⟨_,_,this, ?_,⟨rfl,rfl,rfl,Nat.le_refl _,fun _ _ _=>rfl⟩, .inl rfl⟩
   have:deepVals (T e1) ([]:List ((T e1).α×List (T e).α)) us'=[]:=rfl
   rw [this,List.append_nil]
   exact hown
  ·rw [hv]
   obtain ⟨v',w',g1,g2,g3,_,g5⟩:=run_append_own_at (P:=X.P) w 0 t ty el i z ((T e1).n+1) i.bytes hu hi hz1 hz3 rfl hz2 hz4 (ρ k) L.length _ hown ⟨g,0,none⟩ L'.length cap (deepVals (T e1) L' us') (deepVals_len _ i1') (fun j u hj=>hown'.cells (g:=g) (by rw [hv];rfl) j u hj) (deepVals_cell (T e1) hone') h63 hroom (Nat.zero_le _)
   exact ⟨v',w',g1,g2,g3,g5⟩
 obtain ⟨v',w',hrun,hown2,hgr,hat⟩:=key
 have hone:v'.oneCell'=true:=by
  rcases hown2.2 with ⟨hv,_⟩|⟨g,cap,cur,hv,_⟩<;>rw [hv]<;>rfl
 let Fi2:Nat->Nat->Prop:=fun j=>if j<L.length then Fi j else Fi' (j-L.length)
 have fl: ∀j,j<L.length->Fi2 j=Fi j:=fun j h=>if_pos h
 have fr: ∀j,¬j<L.length->Fi2 j=Fi' (j-L.length):=fun j h=>if_neg h
 have inK: ∀j x,Fi j x->Fs k x:=fun j x hx=>(h4 x).2 (.inr ⟨j,hx⟩)
 have inK': ∀j x,Fi' j x->Fs k' x:=fun j x hx=>(h4' x).2 (.inr ⟨j,hx⟩)
 have inF: ∀j x,Fi2 j x->(Fs k x \/Fs k' x)/\ (ρ k).ownBlock≠some x/\ j<(L++L').length:=by
  intro j x hx
  rw [List.length_append]
  by_cases hj:j<L.length
  ·rw [fl j hj] at hx
   exact ⟨.inl (inK j x hx),(h3 j x hx).2,by omega⟩
  ·rw [fr j hj] at hx
   refine ⟨.inr (inK' _ x hx),fun e=> ?_,by have:=(h3' _ x hx).1;omega⟩
   exact hp.sep k k' _ _ hk hk' hne rfl x ((h4 x).2 (.inl e)) (inK' _ x hx)
 have ltF: ∀j x,Fi2 j x->x<w.heap.size:=by
  intro j x hx
  rcases (inF j x hx).1 with h|h
  ·exact hp.lt R hk x h
  ·exact hp.lt R hk' x h
 refine ⟨v',w',hrun,_,_,_,h,EffOk.made R hp hf (ids:=[k,k']) (fun id hid=>by
  simp only [List.mem_cons,List.not_mem_nil,or_false] at hid
  rcases hid with rfl|rfl
  ·exact ⟨_,hk,rfl⟩
  ·exact ⟨_,hk',rfl⟩) ⟨hgr.os,hgr.tape,hgr.output,hgr.size,fun b hb hn=>hgr.block b hb (fun e=>hn ⟨k,by simp,(h4 b).2 (.inl e.symm)⟩)⟩ (.deep e1 e (L++L') el) v' v' (fun x=>v'.ownBlock=some x \/ ∃j,Fi2 j x) _ hone ⟨us++us',Fi2,⟨by simp [i1,i1'],fun j u p hj hpj=> ?_⟩,hown2,fun j x hx=>⟨(inF j x hx).2.2, ?_⟩,fun _=>Iff.rfl⟩ (fun x hx=> ?_) ?_⟩
 ·have hst: ∀ {u:Value} {p:(T e1).α×List (T e).α},(∀x,Fi2 j x->w'.heap[x]?=w.heap[x]?)->roHolds (T e) w u p.2 (Fi2 j)->roHolds (T e) w' u p.2 (Fi2 j):=fun hx h=>roHolds_stable h hx hgr.size
  refine hst (fun x hx=>hgr.block x (ltF j x hx) (fun e=>(inF j x hx).2.1 e.symm)) ?_
  by_cases hjl:j<L.length
  ·rw [fl j hjl]
   rw [List.getElem?_append_left (by omega)] at hj hpj
   exact i2 j u p hj hpj
  ·rw [fr j hjl]
   rw [List.getElem?_append_right (by omega)] at hj hpj
   rw [i1] at hj
   exact i2' _ u p hj hpj
 ·rcases hat with h1|h1
  ·rw [h1];exact (inF j x hx).2.1
  ·rw [h1]
   intro e
   simp only [Option.some.injEq] at e
   have:=ltF j x hx
   omega
 ·rcases hx with hx|⟨j,hx⟩
  ·rcases hat with h1|h1
   ·rw [h1] at hx;exact .inr ⟨k,by simp,(h4 x).2 (.inl hx)⟩
   ·rw [h1] at hx;simp at hx;exact .inl (by omega)
  ·rcases (inF j x hx).1 with h|h
   ·exact .inr ⟨k,by simp,h⟩
   ·exact .inr ⟨k',by simp,h⟩
 ·intro s hs
  simp only [Option.some.injEq] at hs
  subst hs
  simp [SV.den,setF_same]
theorem append_ok {t ty:TypeId} {s x:SV} (h:(appendT X fresh t s x (headC H s) (headC H x):Tree (Eff T O)).holds K) (hp:HeapOk R ρ H Fs w) (hf:Free H fresh):
  ∃v w',(Builtin.append_ #[t,t] ty #[s.den ρ,x.den ρ]).run X.P w= .ok v w'/\ OpOk R ρ H Fs w fresh K v w':=by
 have f0:H fresh=none/\ ∀k c,H k=some c->k≠fresh/\ ∀id∈c.ids,id≠fresh:=by simpa using hf.at (i:=0) (by unfold stride;omega)
 unfold appendT at h
 split at h
 ·rename_i el hu
  split at h
  ·rename_i e i he hi
   split at h
   ·rename_i hz
    simp only [Bool.and_eq_true] at hz
    obtain ⟨z,hz1,hz2,hz3,hz4,hz5⟩:=zeroOk_elim hz.1
    split at h
    ·rename_i L up L' hL hL'
     rw [Tree.holds_chk] at h
     obtain ⟨hroom,h⟩:=h
     simp only [roomy,decide_eq_true_eq] at hroom
     have hsrc:(x.den ρ= .slice none 0 0/\ L'=[]) \/ ∃a cap,x.den ρ= .slice (some a) L'.length cap/\ ∀j u,(valsL (T e) L')[j]?=some u->w.cell? (a.add j)=some u:=by
      rcases anyL_src R hL' hp with ⟨⟨o,hv⟩,hn⟩|h
      ·cases o with
       |none=>exact .inl ⟨hv,hn⟩
       |some a=>exact .inr ⟨a,0,by rw [hv,hn];rfl,fun j u hj=>by rw [hn] at hj;simp [valsL] at hj⟩
      ·exact .inr h
     --the row itself
     have hbase: ∃F:Nat->Prop,w.ownsRow 0 el (T e).n (s.den ρ) L.length (valsL (T e) L)/\ (∀x,F x↔(s.den ρ).ownBlock=some x)∧
       ((up=[]/\ ∀x,¬F x) \/ ∃k c,up=[(k,none)]/\ H k=some c/\ c.owned=true/\ ∀x,F x↔Fs k x):=by
      unfold ownL at hL
      split at hL
      ·simp only [Option.some.injEq,Prod.mk.injEq] at hL
       obtain ⟨rfl,rfl⟩:=hL
       exact ⟨fun _=>False,World.ownsRow_nil w 0 el (T e).n,fun x=>by simp [SV.den,Value.ownBlock], .inl ⟨rfl,fun _ h=>h⟩⟩
      ·rename_i k e' L1 el' hk
       simp only [headC,SV.head] at hk
       obtain ⟨hown,hF⟩:=hp.holds k _ hk
       split at hL
       ·rename_i heq _ hel
        subst heq
        simp only [beq_iff_eq] at hel
        subst hel
        simp only [castE,Option.some.injEq,Prod.mk.injEq] at hL
        obtain ⟨rfl,rfl⟩:=hL
        exact ⟨Fs k,hown,hF, .inr ⟨k,_,rfl,hk,rfl,fun _=>Iff.rfl⟩⟩
       ·cases hL
      ·cases hL
     obtain ⟨F,hown,hF,hup⟩:=hbase
     have hlen:(valsL (T e) L').length=L'.length*(T e).n:=valsL_len _ _
     have h63:=maxLen_of_roomy hz5 hroom
     have key: ∃v' w',(Builtin.append_ #[t,t] ty #[s.den ρ,x.den ρ]).run X.P w= .ok v' w'/\ w'.ownsRow 0 el (T e).n v' (L++L').length (valsL (T e) (L++L'))/\ w.grownBy w' (s.den ρ).ownBlock/\ (v'.ownBlock=(s.den ρ).ownBlock \/v'.ownBlock=some w.heap.size):=by
      have hvl:valsL (T e) (L++L')=valsL (T e) L++valsL (T e) L':=by unfold valsL;rw [List.flatMap_append]
      rcases hsrc with ⟨hv,rfl⟩|⟨a,cap,hv,hcell⟩
      ·rw [hv]
       have:=run_append_owned_none (P:=X.P) w 0 t ty el i (T e).n hu hi (s.den ρ) L.length (valsL (T e) L) hown
       exact ⟨_,_,this,by simpa using hown,⟨rfl,rfl,rfl,Nat.le_refl _,fun _ _ _=>rfl⟩, .inl rfl⟩
      ·rw [hv]
       obtain ⟨v',w',h1,h2,h3,_,h5⟩:=run_append_own_at (P:=X.P) w 0 t ty el i z (T e).n i.bytes hu hi hz1 hz3 rfl hz2 hz4 (s.den ρ) L.length (valsL (T e) L) hown a L'.length cap (valsL (T e) L') hlen hcell (valsL_cell (T e) L') h63 hroom (Nat.zero_le _)
       exact ⟨v',w',h1,by rw [hvl,List.length_append];exact h2,h3,h5⟩
     obtain ⟨v',w',hrun,hown',hgr,hat⟩:=key
     have hone:v'.oneCell'=true:=by
      rcases hown'.2 with ⟨hv,_⟩|⟨g,cap,cur,hv,_⟩<;>rw [hv]<;>rfl
     have hval: ∀sv,some (SV.own fresh)=some sv->v'=sv.den (setF ρ fresh v'):=by
      intro sv hs
      simp only [Option.some.injEq] at hs
      subst hs
      simp [SV.den,setF_same]
     refine ⟨v',w',hrun, ?_⟩
     rcases hup with ⟨rfl,hno⟩|⟨k,c,rfl,hk,ho,hFk⟩
     ·refine ⟨_,_,_,h,EffOk.alloc R hp f0.1 f0.2 ⟨hgr.os,hgr.tape,hgr.output,hgr.size,fun b hb _=>hgr.block b hb (fun e=>hno b ((hF b).2 e.symm))⟩ (.vec e (L++L') el) v' v' (fun x=>v'.ownBlock=some x) _ hone ⟨hown',fun _=>Iff.rfl⟩ ?_ hval⟩
      intro x hx
      rcases hat with h1|h1
      ·rw [h1] at hx;exact absurd ((hF x).2 hx) (hno x)
      ·rw [h1] at hx;simp at hx;omega
     ·refine ⟨_,_,_,h,EffOk.moved R hp hf hk ho ⟨hgr.os,hgr.tape,hgr.output,hgr.size,fun b hb hn=>hgr.block b hb (fun e=>hn ((hFk b).1 ((hF b).2 e.symm)))⟩ (.vec e (L++L') el) v' v' (fun x=>v'.ownBlock=some x) _ hone ⟨hown',fun _=>Iff.rfl⟩ ?_ hval⟩
      intro x hx
      rcases hat with h1|h1
      ·rw [h1] at hx;exact .inr ((hFk x).1 ((hF x).2 hx))
      ·rw [h1] at hx;simp at hx;exact .inl (by omega)
    ·split at h
     ·rename_i L k L' hL hL'
      rw [Tree.holds_chk] at h
      obtain ⟨hroom,h⟩:=h
      simp only [roomy,decide_eq_true_eq] at hroom
      unfold ownQ at hL
      split at hL
      ·rename_i k1 e' L1 el' _ hk
       simp only [headC,SV.head] at hk
       split at hL
       ·rename_i heq _ hel
        subst heq
        simp only [beq_iff_eq] at hel
        subst hel
        simp only [castE,Option.some.injEq,Prod.mk.injEq] at hL
        obtain ⟨rfl,rfl⟩:=hL
        obtain ⟨v',w',F',hrun,hq,hone,hkept,hsub⟩:=que_append (P:=X.P) t ty el' i z hu hi hz1 hz3 hz2 hz4 hz5 (hp.holds k1 _ hk) (anyL_src R hL' hp) hroom
        refine ⟨v',w',hrun,_,_,_,h,EffOk.moved R hp hf hk rfl hkept (.que e' (L1++L') el') v' v' F' _ hone hq hsub ?_⟩
        intro sv hs
        simp only [Option.some.injEq] at hs
        subst hs
        simp [SV.den,setF_same]
       ·cases hL
      ·cases hL
     ·exact h.elim
   ·exact h.elim
  ·rename_i i he hi
   split at h
   ·rename_i e1 e hd
    split at h
    ·rename_i hz
     simp only [Bool.and_eq_true] at hz
     split at h
     ·rename_i L k L' k' hL hL'
      rw [Tree.holds_chk] at h
      obtain ⟨hroom,h⟩:=h
      simp only [roomy,decide_eq_true_eq] at hroom
      have isD: ∀ {s:SV} {L:List ((T e1).α×List (T e).α)} {k:Nat},ownD e1 e el s (headC H s)=some (L,k)->s= .own k/\ H k=some (.deep e1 e L el):=by
       intro s L k hq
       unfold ownD at hq
       split at hq
       ·rename_i k1 a b L1 el' hk
        simp only [headC,SV.head] at hk
        split at hq
        ·rename_i h1 h2 _ _ hel
         subst h1
         subst h2
         simp only [beq_iff_eq] at hel
         subst hel
         cases hq
         exact ⟨rfl,hk⟩
        ·cases hq
       ·cases hq
      obtain ⟨rfl,hk⟩:=isD hL
      obtain ⟨rfl,hk'⟩:=isD hL'
      refine deep_append R X hu hi hz.1 hp hf hk hk' ?_ hroom h
      rintro rfl
      exact absurd hz.2 (by simp [SV.head])
     ·exact h.elim
    ·exact h.elim
   ·exact h.elim
  ·exact h.elim
 ·exact h.elim
theorem fill_row (hone: ∀k,(ρ k).oneCell'=true) {e:Nat}: ∀(parts:List (Nat×Option SV)) (vals:List (Nat×Value)) (i:Nat) (L:List (T e).α) (pre suf:List Value),
  PartsOk ρ parts vals->decParts e i parts=some L->pre.length=i*(T e).n->suf.length=parts.length*(T e).n→
  Instr.fill (fun i=>some (i*(T e).n,(T e).n)) (pre++suf).toArray vals=some (pre++valsL (T e) L).toArray/\ L.length=parts.length
 |[],vals,i,L,pre,suf,hv,h,hp,hs=>by
  cases vals with
  |nil=>
   simp only [decParts,Option.some.injEq] at h
   subst h
   have:suf=[]:=List.eq_nil_of_length_eq_zero (by simpa using hs)
   subst this
   exact ⟨rfl,rfl⟩
  |cons p l=>exact hv.elim
 |(j,none)::parts,vals,i,L,pre,suf,hv,h,hp,hs=>by simp [decParts] at h
 |(j,some v)::parts,vals,i,L,pre,suf,hv,h,hp,hs=>by
  cases vals with
  |nil=>exact hv.elim
  |cons p l=>
   obtain ⟨j',v'⟩:=p
   obtain ⟨rfl,h1,hv⟩:=hv
   obtain rfl:=h1 v rfl
   unfold decParts at h
   split at h
   ·rename_i hb
    simp only [Bool.and_eq_true,decide_eq_true_eq] at hb
    obtain ⟨rfl,hc⟩:=hb
    split at h
    ·rename_i a L1 ha hL
     simp only [Option.some.injEq] at h
     subst h
     have hcells:=cells_den hone hc
     have hav:denL ρ v.cells=(T e).vals a:=by rw [←(T e).back _ _ ha,enc_den]
     have hvn:(denL ρ v.cells).length=(T e).n:=by rw [hav,vals_len]
     simp only [List.length_cons,Nat.add_mul,Nat.one_mul] at hs
     have hsz:(SV.den ρ v).cells.size=(T e).n:=by rw [hcells];simpa using hvn
     have hfold:((SV.den ρ v).cells.zipIdx.foldl (fun cs (p:Value×Nat)=>cs.setIfInBounds (j*(T e).n+p.2) p.1) (pre++suf).toArray)=((pre++(T e).vals a)++suf.drop (T e).n).toArray:=by
      rw [hcells,←Array.foldl_toList,Array.toList_zipIdx]
      have:=foldl_set (denL ρ v.cells) (pre++suf).toArray (j*(T e).n) 0 (by simp [hvn,hp];omega)
      simp only [Nat.add_zero] at this
      rw [this,hav]
      have e1:(pre++suf).take (j*(T e).n)=pre:=by rw [List.take_append_of_le_length (by omega),List.take_of_length_le (by omega)]
      have e2:(pre++suf).drop (j*(T e).n+(T e).n)=suf.drop (T e).n:=by
       rw [List.drop_append,List.drop_of_length_le (by omega),List.nil_append,hp]
       congr 1;omega
      simp only [vals_len,e1,e2]
     obtain ⟨i1,i2⟩:=fill_row hone parts l (j+1) L1 (pre++(T e).vals a) (suf.drop (T e).n) hv hL (by simp [vals_len,hp,Nat.add_mul]) (by simp;omega)
     refine ⟨?_,by simp [i2]⟩
     unfold Instr.fill
     simp only
     rw [if_neg (by rw [hsz];simp [hp];omega)]
     have h3:=hfold▸i1
     refine h3.trans ?_
     rw [valsL_cons,List.append_assoc]
    ·cases h
   ·cases h
theorem buildSlice_ok {t:TypeId} {n:Nat} {parts:List (Nat×Option SV)} {vals:Array (Nat×Value)} (hv':PartsOk ρ parts vals.toList)
  (h:(buildSliceT X fresh t n parts:Tree (Eff T O)).holds K) (hp:HeapOk R ρ H Fs w) (hf:Free H fresh):
  ∃v w',(Instr.buildSlice t n vals).run X.P w= .ok v w'/\ OpOk R ρ H Fs w fresh K v w':=by
 have f0:H fresh=none/\ ∀k c,H k=some c->k≠fresh/\ ∀id∈c.ids,id≠fresh:=by simpa using hf.at (i:=0) (by unfold stride;omega)
 unfold buildSliceT at h
 split at h
 ·rename_i el hu
  split at h
  ·rename_i e i he hi
   split at h
   ·rename_i hz
    simp only [Bool.and_eq_true,decide_eq_true_eq] at hz
    obtain ⟨⟨hz,hlen⟩,hbig⟩:=hz
    obtain ⟨z,hz1,hz2,hz3,hz4,hz5⟩:=zeroOk_elim hz
    split at h
    ·rename_i L hL
     let zs:Array Value:=if n*(T e).n=0 then #[] else z.cells
     obtain ⟨hfill,hLn⟩:=fill_row hp.one parts vals.toList 0 L [] ((Array.range (n*(T e).n)).map (zs[· %zs.size]!)).toList hv' hL (by simp) (by simp [hlen])
     have hrun:(Instr.buildSlice t n vals).run X.P w= .ok (.slice (some ⟨w.heap.size,0,none⟩) n n) (w.alloc (.cells (valsL (T e) L).toArray el)):=by
      have hsz:(sizeOf el).run X.P w= .ok (T e).n w:=by simp [sizeOf,typeInfo,hi,hz3]
      have hnb: ¬(n*(T e).n>2^24):=by omega
      simp only [List.nil_append,Array.toArray_toList] at hfill
      have hfill':Instr.fill (fun i=>some (i*(T e).n,(T e).n)) (Array.map (fun x=>zs[x%zs.size]!) (Array.range (n*(T e).n))) vals.toList=some (valsL (T e) L).toArray:=hfill
      simp only [Instr.buildSlice,Sem.run_bind,run_underlying hu,Result.andThen_ok,hsz,if_neg hnb]
      by_cases h0:n*(T e).n=0
      ·have hzs:zs= #[]:=if_pos h0
       have hf0:Instr.fill (fun i=>some (i*(T e).n,(T e).n)) #[] vals.toList=some (valsL (T e) L).toArray:=by
        rw [hzs,h0,Array.range_zero'] at hfill'
        simpa using hfill'
       simp [h0,Array.range_zero',hf0,newRow]
      ·have hzs:zs=z.cells:=if_neg h0
       rw [hzs] at hfill'
       have hzv:(zeroValue el).run X.P w= .ok z w:=by simp [zeroValue,typeInfo,hi,hz1]
       simp only [if_neg h0,Sem.run_bind,hzv,Sem.run_pure,Result.andThen_ok,hfill']
       simp [newRow]
     refine ⟨_,_,hrun,_,_,_,h,EffOk.alloc R hp f0.1 f0.2 (kept_alloc w _) (.vec e L el) (.slice (some ⟨w.heap.size,0,none⟩) n n) _ (fun x=>x=w.heap.size) _ rfl ⟨⟨by rw [valsL_len], .inr ⟨w.heap.size,n,(valsL (T e) L).toArray, ?_,Nat.zero_le _,heap_alloc_new w _, ?_, ?_, ?_, ?_⟩⟩, ?_⟩ (fun x hx=>by omega) ?_⟩
     ·rw [hLn,hlen]
     ·omega
     ·have:n*1<=n*(T e).n:=Nat.mul_le_mul_left _ hz4
      simp only [maxLen];omega
     ·rw [List.size_toArray,valsL_len,hLn,hlen]
     ·rw [List.take_of_length_le (by simp [valsL_len])]
     ·intro x;simp [Value.ownBlock,eq_comm]
     ·intro s hs
      simp only [Option.some.injEq] at hs
      subst hs
      simp [SV.den,setF_same]
    ·exact h.elim
   ·exact h.elim
  ·exact h.elim
 ·exact h.elim
theorem run_build1 {P:Program} {t el:TypeId} {i:TypeInfo} {z:Value} {n:Nat} (hu:P.underlying t=some (.slice el)) (hi:P.info? el=some i) (hz:i.zero=some z) (hsz:i.size=n) (hzs:z.cells.size=n) (hn:0<n) (hb:n<=2^24) (l:List Value) (hl:l.length=n):
  (Instr.buildSlice t 1 #[(0, .agg l.toArray)]).run P w= .ok (.slice (some ⟨w.heap.size,0,none⟩) 1 1) (w.alloc (.cells l.toArray el)):=by
 have hs:(sizeOf el).run P w= .ok n w:=by simp [sizeOf,typeInfo,hi,hsz]
 have hnb: ¬(1*n>2^24):=by omega
 have h0: ¬(1*n=0):=by omega
 have hzv:(zeroValue el).run P w= .ok z w:=by simp [zeroValue,typeInfo,hi,hz]
 have hfill: ∀cells:Array Value,cells.size=n->Instr.fill (fun i=>some (i*n,n)) cells [(0,Value.agg l.toArray)]=some l.toArray:=by
  intro cells hc
  unfold Instr.fill
  simp only
  have hsz2:(Value.agg l.toArray).cells.size=n:=by simpa [Value.cells] using hl
  rw [if_neg (by rw [hsz2];simp [hc])]
  have hf:=foldl_set l cells (0*n) 0 (by omega)
  simp only [Nat.zero_mul,Nat.zero_add,List.take_zero,List.nil_append,Nat.add_zero] at hf
  have hd:cells.toList.drop l.length=[]:=List.drop_of_length_le (by simp;omega)
  rw [hd,List.append_nil] at hf
  show Instr.fill _ _ []=_
  unfold Instr.fill
  congr 1
  refine Eq.trans ?_ hf
  rw [show (Value.agg l.toArray).cells=l.toArray from rfl,←Array.foldl_toList,Array.toList_zipIdx]
  simp
 simp only [Instr.buildSlice,Sem.run_bind,run_underlying hu,Result.andThen_ok,hs,if_neg hnb,if_neg h0,hzv,Sem.run_pure]
 rw [hfill _ (by simp)]
 simp [newRow]
theorem buildDeep_ok {t:TypeId} {n:Nat} {parts:List (Nat×Option SV)} {vals:Array (Nat×Value)} (hv':PartsOk ρ parts vals.toList)
  (h:(buildDeepT X fresh t n parts H:Tree (Eff T O)).holds K) (hp:HeapOk R ρ H Fs w) (hf:Free H fresh):
  ∃v w',(Instr.buildSlice t n vals).run X.P w= .ok v w'/\ OpOk R ρ H Fs w fresh K v w':=by
 unfold buildDeepT at h
 split at h
 ·rename_i el hu
  split at h
  ·rename_i e1 e hte hd
   split at h
   ·rename_i i cs hi
    have hvals:vals= #[(0,Value.agg (denL ρ cs).toArray)]:=by
     apply Array.ext'
     cases hl:vals.toList with
     |nil=>rw [hl] at hv';exact hv'.elim
     |cons q l=>
      rw [hl] at hv'
      obtain ⟨j,u⟩:=q
      obtain ⟨rfl,h1,h2⟩:=hv'
      cases l with
      |nil=>rw [h1 _ rfl];rfl
      |cons=>exact h2.elim
    split at h
    ·rename_i hc
     simp only [Bool.and_eq_true,decide_eq_true_eq] at hc
     obtain ⟨⟨hz,hbig⟩,hcell⟩:=hc
     obtain ⟨z,hz1,hz2,hz3,hz4,hz5⟩:=zeroN_elim hz
     have part: ∀ {a:(T e1).α} {s:SV},(T e1).dec (cs.take (T e1).n)=some a->cs.drop (T e1).n=[s]->cs=(T e1).enc a++[s]:=by
      intro a s h1 h2
      rw [(T e1).back _ _ h1,←h2,List.take_append_drop]
     have run: ∀ {a:(T e1).α} {s:SV},cs=(T e1).enc a++[s]->(Instr.buildSlice t 1 vals).run X.P w= .ok (.slice (some ⟨w.heap.size,0,none⟩) 1 1) (w.alloc (.cells ((T e1).vals a++[s.den ρ]).toArray el)):=by
      intro a s hcs
      have hden:denL ρ cs=(T e1).vals a++[s.den ρ]:=by rw [hcs,denL_append,enc_den];rfl
      rw [hvals,hden]
      exact run_build1 hu hi hz1 hz3 hz2 hz4 hbig _ (by simp [vals_len])
     have fin: ∀ {a:(T e1).α} {u:Value} {L:List (T e).α} {ids:List Nat} {F:Nat->Prop},(∀id∈ids,∃c,H id=some c/\ c.owned=true)->roHolds (T e) w u L F->(∀x,F x-> ∃id∈ids,Fs id x)→
       (Instr.buildSlice t 1 vals).run X.P w= .ok (.slice (some ⟨w.heap.size,0,none⟩) 1 1) (w.alloc (.cells ((T e1).vals a++[u]).toArray el))->K ⟨some (.own fresh),goneU ids++[(fresh,some (.deep e1 e [(a,L)] el))]⟩→
       ∃v w',(Instr.buildSlice t 1 vals).run X.P w= .ok v w'/\ OpOk R ρ H Fs w fresh K v w':=by
      intro a u L ids F hids hro hsub hrun h
      have hold: ∀x,F x->x<w.heap.size:=roHolds_lt hro
      refine ⟨_,_,hrun,_,_,_,h,EffOk.made R hp hf hids ((kept_alloc w _).mono fun _ _ h=>h.elim) (.deep e1 e [(a,L)] el) (.slice (some ⟨w.heap.size,0,none⟩) 1 1) _ (fun x=>x=w.heap.size \/F x) _ rfl
       ⟨[u],fun j x=>j=0/\ F x,⟨rfl,fun j u' p hj hp=> ?_⟩,⟨by simp [deepVals,vals_len], .inr ⟨w.heap.size,1,_,rfl,Nat.zero_le _,heap_alloc_new w _,Nat.le_refl _,by simp [maxLen], ?_, ?_⟩⟩,fun j x hx=> ?_,fun x=> ?_⟩ (fun x hx=> ?_) ?_⟩
      ·cases j with
       |zero=>
        simp only [List.getElem?_cons_zero,Option.some.injEq] at hj hp
        subst hj;subst hp
        have:(fun x=>(0:Nat)=0/\ F x)=F:=by
         funext x
         exact propext ⟨fun h=>h.2,fun h=>⟨rfl,h⟩⟩
        show roHolds (T e) _ u L (fun x=>(0:Nat)=0/\ F x)
        rw [this]
        exact roHolds_stable hro (fun x hx=>heap_alloc_old w _ x (hold x hx)) (by simp)
       |succ j=>simp at hj
      ·simp [vals_len]
      ·simp [deepVals]
       rw [List.take_of_length_le (by simp [vals_len])]
      ·have:=hold x hx.2
       exact ⟨by simp [hx.1],by simp [Value.ownBlock];omega⟩
      ·constructor
       ·rintro (rfl|hx)
        ·exact .inl rfl
        ·exact .inr ⟨0,rfl,hx⟩
       ·rintro (hx|⟨j,hx⟩)
        ·simp [Value.ownBlock] at hx;exact .inl hx.symm
        ·exact .inr hx.2
      ·rcases hx with rfl|hx
       ·exact .inl (Nat.le_refl _)
       ·exact .inr (hsub x hx)
      ·intro s hs
       simp only [Option.some.injEq] at hs
       subst hs
       simp [SV.den,setF_same]
     split at h
     ·rename_i a k ha hdr
      have hcs:=part ha hdr
      split at h
      ·rename_i e' L ty hk
       split at h
       ·rename_i heq _
        subst heq
        obtain ⟨hown,hF⟩:=hp.holds k _ hk
        exact fin (a:=a) (ids:=[k]) (fun id hid=>by simp only [List.mem_singleton] at hid;subst hid;exact ⟨_,hk,rfl⟩) (vec_ro hown hF) (fun x hx=>⟨k,by simp,hx⟩) (run hcs) h
       ·exact h.elim
      ·exact h.elim
     ·rename_i a ha hdr
      have hcs:=part ha hdr
      exact fin (a:=a) (u:= .slice none 0 0) (L:=[]) (ids:=[]) (F:=fun _=>False) (by simp) (.inl ⟨⟨none,rfl⟩,rfl,fun _ h=>h⟩) (fun x hx=>hx.elim) (run hcs) h
     ·exact h.elim
    ·exact h.elim
   ·exact h.elim
  ·exact buildSlice_ok R X hv' h hp hf
 ·exact h.elim
theorem index_ok {t:TypeId} {x i:SV} (h:(indexT X t x i:Tree (Eff T O)).holds K) (hp:HeapOk R ρ H Fs w): ∃v,(Instr.index t (x.den ρ) (i.den ρ)).run X.P w= .ok v w/\ OpOk R ρ H Fs w fresh K v w:=by
 unfold indexT at h
 split at h
 ·rename_i n el cs ik i hu
  split at h
  ·rename_i E hE
   rw [Tree.holds_chk] at h
   obtain ⟨hin,h⟩:=h
   have hin':0<=i/\ i<(n:Int):=by simpa [inb] using hin
   split at h
   ·rename_i v hv
    refine ⟨v.den ρ, ?_,OpOk.pure R hp h rfl⟩
    simp only [Instr.index,SV.den,asIntOf,Sem.run_bind,Sem.run_pure,Result.andThen_ok,run_underlying hu,hin',and_self,if_true,size_of X hE w]
    exact run_part_of X hv
   ·exact h.elim
  ·exact h.elim
 ·rename_i s ik i hu
  rw [Tree.holds_chk] at h
  obtain ⟨hin,h⟩:=h
  have hin':0<=i/\ i<(s.data.size:Int):=by simpa [inb] using hin
  have hlt:i.toNat<s.data.size:=by omega
  refine ⟨.int .u8 (strAt s i), ?_,OpOk.pure R hp h rfl⟩
  have hq:s.data[i.toNat]?=some s.data[i.toNat]:=Array.getElem?_eq_getElem hlt
  have hq2:s[i.toNat]?=some s.data[i.toNat]:=(getElem?_pos s i.toNat hlt).trans rfl
  simp [Instr.index,SV.den,asIntOf,run_underlying hu,hin'.1,hq,hq2,strAt]
 ·exact h.elim
end
end
end Go.Sx