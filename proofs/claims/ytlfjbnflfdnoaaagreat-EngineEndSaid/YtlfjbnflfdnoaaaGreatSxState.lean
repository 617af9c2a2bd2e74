/-
  Part of a proof over the seat YtlfjbnflfdnoaaaGreat: printed by a small program or typed by hand.
-/
import Derived.Test.YtlfjbnflfdnoaaaGreatSxBase
/-
 Sx:states and effects:what one effect makes of the chunks,of the slots,of the world.
-/
namespace Go.Sx
section
variable {T:Nat->Enc} {O:Nat->Type} (R:Objs O)
def updH:List (Nat×Option (Chunk T O))->(Nat->Option (Chunk T O))->Nat->Option (Chunk T O)
 |[],H=>H
 |(k,c)::l,H=>updH l (fun j=>if j=k then c else H j)
theorem lookK_setK {α:Type} (k:Nat) (a:α): ∀(l:List (Nat×α)) (j:Nat),lookK j (setK k a l)=if j=k then some a else lookK j l
 |[],j=>by
  simp only [setK,lookK]
  by_cases h:j=k
  ·subst h;simp
  ·rw [if_neg (fun e=>h e.symm),if_neg h]
 |(i,b)::l,j=>by
  simp only [setK]
  split
  ·rename_i hi
   subst hi
   simp only [lookK]
   by_cases h:i=j
   ·subst h;simp
   ·rw [if_neg h,if_neg h,if_neg (fun e=>h e.symm)]
  ·rename_i hi
   simp only [lookK,lookK_setK k a l j]
   by_cases h:i=j
   ·subst h;rw [if_pos rfl,if_neg hi,if_pos rfl]
   ·rw [if_neg h,if_neg h]
theorem lookK_delK {α:Type} (k:Nat): ∀(l:List (Nat×α)) (j:Nat),lookK j (delK k l)=if j=k then none else lookK j l
 |[],j=>by simp [delK,lookK]
 |(i,b)::l,j=>by
  simp only [delK]
  split
  ·rename_i hi
   subst hi
   rw [lookK_delK i l j]
   by_cases h:j=i
   ·rw [if_pos h,if_pos h]
   ·rw [if_neg h,if_neg h,lookK,if_neg (fun e=>h e.symm)]
  ·rename_i hi
   simp only [lookK,lookK_delK k l j]
   by_cases h:i=j
   ·subst h;rw [if_pos rfl,if_neg hi,if_pos rfl]
   ·rw [if_neg h,if_neg h]
theorem lookK_applyUpd: ∀(u:List (Nat×Option (Chunk T O))) (h:List (Nat×Chunk T O)) (j:Nat),lookK j (applyUpd u h)=updH u (fun j=>lookK j h) j
 |[],h,j=>rfl
 |(k,some c)::u,h,j=>by
  simp only [applyUpd,updH,lookK_applyUpd u,lookK_setK]
 |(k,none)::u,h,j=>by
  simp only [applyUpd,updH,lookK_applyUpd u,lookK_delK]
theorem updH_notin {u:List (Nat×Option (Chunk T O))}: ∀ {H:Nat->Option (Chunk T O)} {j:Nat},j∉u.map (·.1)->updH u H j=H j:=by
 induction u with
 |nil=>intro H j _;rfl
 |cons p u ih=>
  obtain ⟨k,c⟩:=p
  intro H j hj
  simp only [List.map_cons,List.mem_cons,not_or] at hj
  simp only [updH]
  rw [ih hj.2,if_neg hj.1]
theorem getT_setT (v:Option SV): ∀(l:List (Option SV)) (n i:Nat),getT (setT v l n) i=if i=n/\ n<l.length then v else getT l i
 |[],n,i=>by simp [setT,getT]
 |x::l,0,i=>by
  cases i with
  |zero=>simp [setT,getT]
  |succ i=>simp [setT,getT]
 |x::l,n+1,i=>by
  cases i with
  |zero=>simp [setT,getT]
  |succ i=>simp [setT,getT,getT_setT v l n i]
theorem length_setT (v:Option SV): ∀(l:List (Option SV)) (n:Nat),(setT v l n).length=l.length
 |[],_=>rfl
 |_::_,0=>by simp [setT]
 |_::l,n+1=>by simp [setT,length_setT v l n]
theorem length_putT (dst:Option Tmp) (v:Option SV) (l:List (Option SV)):(putT dst v l).length=l.length:=by
 cases dst with
 |none=>rfl
 |some d=>exact length_setT v l d
theorem getT_some_lt: ∀ {l:List (Option SV)} {i:Nat} {v:SV},getT l i=some v->i<l.length
 |[],i,v,h=>by simp [getT] at h
 |x::l,0,v,h=>by simp
 |x::l,i+1,v,h=>by
  simp only [getT] at h
  have:=getT_some_lt h
  simp;omega
structure EffOk (ρ:Env) (H:Nat->Option (Chunk T O)) (Fs:Nat->Nat->Prop) (w:World) (fresh:Nat) (e:Eff T O) (v:Value) (ρ':Env) (Fs':Nat->Nat->Prop) (w':World):Prop where
 val: ∀sv,e.val=some sv->v=sv.den ρ'
 env: ∀j,¬(fresh<=j/\ j<fresh+stride)->ρ' j=ρ j
 fp: ∀k,k∉e.upd.map (·.1)->Fs' k=Fs k
 hp:HeapOk R ρ' (updH e.upd H) Fs' w'
 kept:Kept (fun x=> ∃k∈e.upd.map (·.1),(∃c,H k=some c/\ c.owned=true)/\ Fs k x) w w'
 new: ∀k∈e.upd.map (·.1),∀c,updH e.upd H k=some c-> ∀x,Fs' k x->w.heap.size<=x \/(∃k'∈e.upd.map (·.1),(∃c',H k'=some c'/\ c'.owned=true)/\ Fs k' x)∨
  (c.owned=false/\ ∃k' c',H k'=some c'/\ c'.owned=false/\ Fs k' x)
 mod: ∀k∈e.upd.map (·.1),(∃c,H k=some c/\ c.owned=true) \/(fresh<=k/\ k<fresh+stride)
theorem EffOk.pure {ρ:Env} {H:Nat->Option (Chunk T O)} {Fs:Nat->Nat->Prop} {w:World} (hp:HeapOk R ρ H Fs w) (fresh:Nat) (sv:SV) {v:Value} (hv:v=sv.den ρ):EffOk R ρ H Fs w fresh ⟨some sv,[]⟩ v ρ Fs w:=
 ⟨fun s h=>by simp only [Option.some.injEq] at h;subst h;exact hv,fun _ _=>rfl,fun _ _=>rfl,hp,Kept.refl _ _,fun k hk=>by simp at hk,fun k hk=>by simp at hk⟩
structure Fx where
 df:List Deferred
 n:Nat
 ρ:Env
 /--the first chunks that are only read,where they lie-/
 ro:Nat->Prop
 F:Nat->Nat->Prop
 N:Nat->Prop
structure Inv (fx:Fx) (w0:World) (M:Nat->Prop) (D:Nat->Prop) (ρ:Env) (Fs:Nat->Nat->Prop) (tm:List (Option SV)) (H:Nat->Option (Chunk T O)) (a:Act) (w:World):Prop where
 df:a.defers=fx.df
 fix: ∀k,k<fx.n->D k/\ ρ k=fx.ρ k
 sz:a.tmps.size=tm.length
 slots: ∀i v,getT tm i=some v->a.tmps[i]?=some (v.den ρ)
 hp:HeapOk R ρ H Fs w
 ust: ∀i v,getT tm i=some v-> ∀id∈v.ids,D id
 ush: ∀k c,H k=some c->D k/\ ∀id∈c.ids,D id
 kept:Kept M w0 w
 own: ∀k c,H k=some c->c.owned=true-> ∀x,Fs k x->x<w0.heap.size->M x
 share: ∀k c,H k=some c->c.owned=false-> ∀x,Fs k x->x<w0.heap.size->M x \/fx.N x
 fixF: ∀k,k<fx.n->fx.ro k->Fs k=fx.F k/\ ∀c,H k=some c->c.owned=false
theorem svOf_den (ρ:Env) (v:Value):(svOf v).den ρ=v:=by
 cases v with
 |agg cs=>
  simp only [svOf,SV.den,denL_eq_map,List.map_map]
  congr 1
  have:(SV.den ρ∘SV.raw)=id:=rfl
  rw [this,List.map_id]
 |_=>rfl
theorem svOf_ids (v:Value):(svOf v).ids=[]:=by
 cases v with
 |agg cs=>
  simp only [svOf,SV.ids,idsL_eq]
  rw [List.flatMap_eq_nil_iff]
  intro x hx
  simp only [List.mem_map] at hx
  obtain ⟨u,_,rfl⟩:=hx
  rfl
 |_=>rfl
section
variable {df:Fx} {w0:World} {M D:Nat->Prop} {ρ:Env} {Fs:Nat->Nat->Prop} {tm:List (Option SV)} {H:Nat->Option (Chunk T O)} {a:Act} {w:World}
theorem Inv.opd (h:Inv R df w0 M D ρ Fs tm H a w) {x:Operand} {v:SV} (hx:opdT tm x=some v):a.eval x=v.den ρ:=by
 cases x with
 |tmp t=>
  have:=h.slots t v hx
  simp only [Act.eval,Array.getD_eq_getD_getElem?,this,Option.getD_some]
 |const u=>simp only [opdT,Option.some.injEq] at hx;subst hx;exact (svOf_den ρ u).symm
 |global g=>simp only [opdT,Option.some.injEq] at hx;subst hx;rfl
 |func f=>simp only [opdT,Option.some.injEq] at hx;subst hx;simp [Act.eval,SV.den,denL]
theorem Inv.opd_ids (h:Inv R df w0 M D ρ Fs tm H a w) {x:Operand} {v:SV} (hx:opdT tm x=some v): ∀id∈v.ids,D id:=by
 cases x with
 |tmp t=>exact h.ust t v hx
 |const u=>simp only [opdT,Option.some.injEq] at hx;subst hx;rw [svOf_ids];simp
 |global g=>simp only [opdT,Option.some.injEq] at hx;subst hx;simp [SV.ids]
 |func f=>simp only [opdT,Option.some.injEq] at hx;subst hx;simp [SV.ids,idsL]
theorem updH_ids {D':Nat->Prop}: ∀(u:List (Nat×Option (Chunk T O))) (H:Nat->Option (Chunk T O)),(∀k c,H k=some c->D' k/\ ∀id∈c.ids,D' id)->(∀p∈u,∀c,p.2=some c->D' p.1/\ ∀id∈c.ids,D' id)→
  ∀k c,updH u H k=some c->D' k/\ ∀id∈c.ids,D' id
 |[],H,h,_,k,c,hk=>h k c hk
 |(j,d)::u,H,h,hu,k,c,hk=>by
  refine updH_ids u _ ?_ (fun p hp=>hu p (by simp [hp])) k c hk
  intro i c' hi
  split at hi
  ·rename_i hij
   subst hij
   exact hu (i,d) (by simp) c' hi
  ·exact h i c' hi
theorem Inv.put (h:Inv R df w0 M D ρ Fs tm H a w) {D':Nat->Prop} (hD: ∀id,D id->D' id) {fresh:Nat} (hfresh: ∀j,fresh<=j->j<fresh+stride-> ¬D j)
  {e:Eff T O} {v:Value} {ρ':Env} {Fs':Nat->Nat->Prop} {w':World} (he:EffOk R ρ H Fs w fresh e v ρ' Fs' w') (dst:Option Tmp)
  (hval: ∀sv,e.val=some sv-> ∀id∈sv.ids,D' id) (hupd: ∀p∈e.upd,∀c,p.2=some c->D' p.1/\ ∀id∈c.ids,D' id):
  Inv R df w0 M D' ρ' Fs' (putT dst e.val tm) (updH e.upd H) (a.put dst v) w':=by
 have hold: ∀ {u:SV},(∀id∈u.ids,D id)->u.den ρ'=u.den ρ:=fun {u} hu=>
  (SV.den_congr u fun id hid=>(he.env id (fun hr=>hfresh id hr.1 hr.2 (hu id hid))).symm).symm
 have htm: ∀i u,getT (putT dst e.val tm) i=some u->(dst=some i/\ e.val=some u/\ i<tm.length) \/(dst≠some i/\ getT tm i=some u):=by
  intro i u hi
  cases dst with
  |none=>exact .inr ⟨by simp,hi⟩
  |some d=>
   simp only [putT,getT_setT] at hi
   split at hi
   ·rename_i hid;exact .inl ⟨by rw [hid.1],hi,by rw [hid.1];exact hid.2⟩
   ·rename_i hid
    refine .inr ⟨fun hd=>hid ?_,hi⟩
    simp only [Option.some.injEq] at hd
    exact ⟨hd.symm,by rw [hd];exact getT_some_lt hi⟩
 refine ⟨by rw [←h.df];cases dst<;>rfl,fun k hk=>⟨hD k (h.fix k hk).1,(he.env k (fun hr=>hfresh k hr.1 hr.2 (h.fix k hk).1)).trans (h.fix k hk).2⟩, ?_, ?_,he.hp, ?_,updH_ids e.upd H (fun k c hk=>⟨hD _ (h.ush k c hk).1,fun id hid=>hD _ ((h.ush k c hk).2 id hid)⟩) hupd, ?_, ?_, ?_, ?_⟩
 ·rw [length_putT,←h.sz]
  cases dst<;>simp [Act.put]
 ·intro i u hi
  rcases htm i u hi with ⟨rfl,hv,hlt⟩|⟨hne,hi'⟩
  ·simp only [Act.put,Array.getElem?_setIfInBounds,h.sz,if_pos hlt]
   simp [he.val u hv]
  ·rw [hold (h.ust i u hi')]
   have:=h.slots i u hi'
   cases dst with
   |none=>exact this
   |some d=>
    simp only [Act.put,Array.getElem?_setIfInBounds]
    rw [if_neg (fun e=>hne (by rw [e]))]
    exact this
 ·intro i u hi id hid
  rcases htm i u hi with ⟨_,hv,_⟩|⟨_,hi'⟩
  ·exact hval u hv id hid
  ·exact hD _ (h.ust i u hi' id hid)
 ·refine Kept.trans h.kept he.kept ?_
  rintro x hx ⟨k,_,⟨c,hc,ho⟩,hF⟩
  exact h.own k c hc ho x hF hx
 ·intro k c hk ho x hF hx
  by_cases hin:k∈e.upd.map (·.1)
  ·rcases he.new k hin c hk x hF with hge|⟨k',_,⟨c',hc',ho'⟩,hF'⟩|⟨hno,_⟩
   ·have:=h.kept.size;omega
   ·exact h.own k' c' hc' ho' x hF' hx
   ·rw [hno] at ho;cases ho
  ·rw [updH_notin hin] at hk
   rw [he.fp k hin] at hF
   exact h.own k c hk ho x hF hx
 ·intro k c hk ho x hF hx
  by_cases hin:k∈e.upd.map (·.1)
  ·rcases he.new k hin c hk x hF with hge|⟨k',_,⟨c',hc',ho'⟩,hF'⟩|⟨hno,k',c',hc',ho',hF'⟩
   ·have:=h.kept.size;omega
   ·exact .inl (h.own k' c' hc' ho' x hF' hx)
   ·exact h.share k' c' hc' ho' x hF' hx
  ·rw [updH_notin hin] at hk
   rw [he.fp k hin] at hF
   exact h.share k c hk ho x hF hx
 ·intro k hk hro
  obtain ⟨h1,h2⟩:=h.fixF k hk hro
  have hn:k∉e.upd.map (·.1):=by
   intro hin
   rcases he.mod k hin with ⟨c,hc,ho⟩|⟨h3,h4⟩
   ·rw [h2 c hc] at ho;cases ho
   ·exact hfresh k h3 h4 (h.fix k hk).1
  exact ⟨(he.fp k hn).trans h1,fun c hc=>h2 c (by rwa [updH_notin hn] at hc)⟩
end
def setF {α:Type} (f:Nat->α) (k:Nat) (a:α):Nat->α:=fun j=>if j=k then a else f j
theorem setF_same {α:Type} (f:Nat->α) (k:Nat) (a:α):setF f k a k=a:=if_pos rfl
theorem setF_other {α:Type} (f:Nat->α) {k j:Nat} (a:α) (h:j≠k):setF f k a j=f j:=if_neg h
theorem EffOk.alloc {ρ:Env} {H:Nat->Option (Chunk T O)} {Fs:Nat->Nat->Prop} {w w':World} (hp:HeapOk R ρ H Fs w) {fresh:Nat} (hnone:H fresh=none)
  (hids: ∀k c,H k=some c->k≠fresh/\ ∀id∈c.ids,id≠fresh) (hk:Kept (fun _=>False) w w') (c:Chunk T O) (u v:Value) (F:Nat->Prop) (sv:Option SV)
  (hu:u.oneCell'=true) (hc:c.holds R (setF ρ fresh u) w' u F) (hF: ∀x,F x->w.heap.size<=x) (hv: ∀s,sv=some s->v=s.den (setF ρ fresh u)):
  EffOk R ρ H Fs w fresh ⟨sv,[(fresh,some c)]⟩ v (setF ρ fresh u) (setF Fs fresh F) w':=by
 have hst: ∀k c,H k=some c->Chunk.holds R (setF ρ fresh u) w' (ρ k) (Fs k) c:=fun k c hkc=>
  Chunk.holds_congr R (Chunk.holds_stable R (hp.holds k c hkc) (fun x hx=>hk.block x (hp.lt R hkc x hx) id) hk.size) (fun id hid=>(setF_other ρ u ((hids k c hkc).2 id hid)).symm)
 refine ⟨hv, ?_, ?_, ?_, ?_, ?_, ?_⟩
 ·intro j hj
  refine setF_other ρ u (fun e=>hj ?_)
  subst e;unfold stride;omega
 ·intro k hk'
  simp only [List.map_cons,List.map_nil,List.mem_singleton] at hk'
  exact setF_other Fs F hk'
 ·refine ⟨fun k=> ?_,fun k d hd=> ?_,fun k k' d d' hd hd' hne ho x hx=> ?_⟩
  ·by_cases e:k=fresh
   ·subst e;rw [setF_same];exact hu
   ·rw [setF_other ρ u e];exact hp.one k
  ·simp only [updH] at hd
   by_cases e:k=fresh
   ·subst e
    rw [if_pos rfl] at hd
    simp only [Option.some.injEq] at hd
    subst hd
    rw [setF_same,setF_same]
    exact hc
   ·rw [if_neg e] at hd
    rw [setF_other ρ u e,setF_other Fs F e]
    exact hst k d hd
  ·simp only [updH] at hd hd'
   by_cases e:k=fresh
   ·by_cases e':k'=fresh
    ·exact absurd (e.trans e'.symm) hne
    ·rw [if_neg e'] at hd'
     rw [setF_other Fs F e']
     subst e
     rw [setF_same] at hx
     intro hx'
     have:=hF x hx
     have:=hp.lt R hd' x hx'
     omega
   ·rw [if_neg e] at hd
    rw [setF_other Fs F e] at hx
    by_cases e':k'=fresh
    ·subst e'
     rw [setF_same]
     intro hx'
     have:=hF x hx'
     have:=hp.lt R hd x hx
     omega
    ·rw [if_neg e'] at hd'
     rw [setF_other Fs F e']
     exact hp.sep k k' d d' hd hd' hne ho x hx
 ·exact hk.mono (fun _ _ h=>h.elim)
 ·intro k hk' d hd x hx
  simp only [List.map_cons,List.map_nil,List.mem_singleton] at hk'
  subst hk'
  rw [setF_same] at hx
  exact .inl (hF x hx)
 ·intro k hk'
  simp only [List.map_cons,List.map_nil,List.mem_singleton] at hk'
  exact .inr ⟨by omega,by unfold stride;omega⟩
theorem EffOk.change {ρ:Env} {H:Nat->Option (Chunk T O)} {Fs:Nat->Nat->Prop} {w w':World} (hp:HeapOk R ρ H Fs w) (fresh:Nat) {k:Nat} {c c':Chunk T O} (hc:H k=some c) (ho:c.owned=true)
  (hk:Kept (Fs k) w w') (hc':c'.holds R ρ w' (ρ k) (Fs k)) (sv:Option SV) (v:Value) (hv: ∀s,sv=some s->v=s.den ρ):
  EffOk R ρ H Fs w fresh ⟨sv,[(k,some c')]⟩ v ρ Fs w':=by
 refine ⟨hv,fun _ _=>rfl,fun _ _=>rfl,⟨hp.one,fun j d hd=> ?_,fun j j' d d' hd hd' hne hod x hx=> ?_⟩, ?_, ?_, ?_⟩
 ·simp only [updH] at hd
  by_cases e:j=k
  ·subst e
   rw [if_pos rfl] at hd
   simp only [Option.some.injEq] at hd
   subst hd
   exact hc'
  ·rw [if_neg e] at hd
   refine Chunk.holds_stable R (hp.holds j d hd) (fun x hx=>hk.block x (hp.lt R hd x hx) (fun hxk=> ?_)) hk.size
   exact hp.sep k j c d hc hd (fun h=>e h.symm) ho x hxk hx
 ·simp only [updH] at hd hd'
  have l1: ∃d1,H j=some d1/\ d1.owned=true:=by
   by_cases e:j=k
   ·subst e;exact ⟨c,hc,ho⟩
   ·rw [if_neg e] at hd;exact ⟨d,hd,hod⟩
  have l2: ∃d2,H j'=some d2:=by
   by_cases e:j'=k
   ·subst e;exact ⟨c,hc⟩
   ·rw [if_neg e] at hd';exact ⟨d',hd'⟩
  obtain ⟨d1,h1,o1⟩:=l1
  obtain ⟨d2,h2⟩:=l2
  exact hp.sep j j' d1 d2 h1 h2 hne o1 x hx
 ·refine hk.mono (fun x _ hx=>⟨k,by simp,⟨c,hc,ho⟩,hx⟩)
 ·intro j hj d hd x hx
  simp only [List.map_cons,List.map_nil,List.mem_singleton] at hj
  subst hj
  exact .inr (.inl ⟨j,by simp,⟨c,hc,ho⟩,hx⟩)
 ·intro j hj
  simp only [List.map_cons,List.map_nil,List.mem_singleton] at hj
  subst hj
  exact .inl ⟨c,hc,ho⟩
end
end Go.Sx