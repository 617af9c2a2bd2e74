/-
  Part of a proof over the seat YtlfjbnflfdnoaaaGreat: printed by a small program or typed by hand.
-/
import Derived.Test.YtlfjbnflfdnoaaaGreatSxRegion
/-
 Sx:a region,carried out by the model.
-/
namespace Go.Sx
section
variable {T:Nat->Enc} {O:Nat->Type} (R:Objs O)
def Dn (base:Nat) (done:Nat->Prop) (id:Nat):Prop:=id<base \/ ∃j,done j/\ base+stride*j<=id/\ id<base+stride*(j+1)
theorem Dn.mono {base:Nat} {d d':Nat->Prop} (h: ∀j,d j->d' j) {id:Nat} (hd:Dn base d id):Dn base d' id:=by
 rcases hd with hd|⟨j,hj,h1,h2⟩
 ·exact .inl hd
 ·exact .inr ⟨j,h j hj,h1,h2⟩
theorem Inv.weaken {df:Fx} {w0:World} {M D D':Nat->Prop} {ρ:Env} {Fs:Nat->Nat->Prop} {tm:List (Option SV)} {H:Nat->Option (Chunk T O)} {a:Act} {w:World} (h:Inv R df w0 M D ρ Fs tm H a w) (hD: ∀id,D id->D' id):Inv R df w0 M D' ρ Fs tm H a w:=
 ⟨h.df,fun k hk=>⟨hD k (h.fix k hk).1,(h.fix k hk).2⟩,h.sz,h.slots,h.hp,fun i v hv id hid=>hD id (h.ust i v hv id hid),fun k c hc=>⟨hD k (h.ush k c hc).1,fun id hid=>hD id ((h.ush k c hc).2 id hid)⟩,h.kept,h.own,h.share,h.fixF⟩
section
variable {df:Fx} {w0:World} {M D:Nat->Prop} {ρ:Env} {Fs:Nat->Nat->Prop} {tm:List (Option SV)} {H:Nat->Option (Chunk T O)} {a:Act} {w:World}
theorem head_ids {v:SV} {k:Nat} (h:k∈v.head):k∈v.ids:=by
 cases v<;>simp_all [SV.head,SV.ids]
theorem reach_D {g:Nat->Option (Chunk T O)} (hg: ∀k c,g k=some c-> ∀id∈c.ids,D id): ∀(n:Nat) (l:List Nat),(∀k∈l,D k)-> ∀k∈reachIds g n l,D k
 |0,_,h=>h
 |n+1,l,h=>by
  refine reach_D hg n _ fun k hk=> ?_
  rcases mem_union.1 hk with hk|hk
  ·exact h k hk
  ·rw [List.mem_flatMap] at hk
   obtain ⟨j,_,hj⟩:=hk
   unfold chIds at hj
   split at hj
   ·rename_i c hc;exact hg j c hc k hj
   ·simp at hj
theorem foot_D (inv:Inv R df w0 M D ρ Fs tm H a w) (o:Oper): ∀k∈opFoot H o.op (argsOf o tm),D k:=by
 have hd: ∀k∈head1 (argsOf o tm),D k:=by
  intro k hk
  unfold head1 at hk
  split at hk
  ·rename_i x rest hx
   have:some x∈argsOf o tm:=by rw [hx];simp
   unfold argsOf at this
   rw [List.mem_map] at this
   obtain ⟨y,_,hy⟩:=this
   exact inv.opd_ids R hy k (head_ids hk)
  ·simp at hk
 have hd2: ∀k∈head2 (argsOf o tm),D k:=by
  intro k hk
  have mem: ∀x,some x∈argsOf o tm-> ∀k∈x.head,D k:=by
   intro x this k hk
   unfold argsOf at this
   rw [List.mem_map] at this
   obtain ⟨y,_,hy⟩:=this
   exact inv.opd_ids R hy k (head_ids hk)
  unfold head2 at hk
  split at hk
  ·rename_i x y rest hx
   rw [List.mem_append] at hk
   rcases hk with hk|hk
   ·exact mem x (by rw [hx];simp) k hk
   ·exact mem y (by rw [hx];simp) k hk
  ·simp at hk
 have hdS: ∀k∈footS H (argsOf o tm),D k:=by
  intro k hk
  unfold footS at hk
  split at hk
  ·rename_i k1 i E j k' off hargs
   have mem: ∀x,some x∈argsOf o tm-> ∀k∈x.ids,D k:=by
    intro x this k hk
    unfold argsOf at this
    rw [List.mem_map] at this
    obtain ⟨y,_,hy⟩:=this
    exact inv.opd_ids R hy k hk
   have hk1:D k1:=mem (.elt k1 i E j) (by rw [hargs];simp) k1 (by simp [SV.ids])
   split at hk
   ·rcases List.mem_cons.1 hk with rfl|hk
    ·exact hk1
    ·refine reach_D (fun j c hc=>(inv.ush j c hc).2) 4 _ (fun j hj=> ?_) k hk
     simp only [List.mem_singleton] at hj
     subst hj
     exact mem (.ptr j off) (by rw [hargs];simp) j (by simp [SV.ids])
   ·simp only [List.mem_singleton] at hk
    subst hk
    exact hk1
  ·exact hd k hk
 have hdB: ∀k∈footB (argsOf o tm),D k:=by
  intro k hk
  unfold footB at hk
  split at hk
  ·rename_i cs rest hargs
   split at hk
   ·rename_i s hs
    have:some (SV.agg cs)∈argsOf o tm:=by rw [hargs];simp
    unfold argsOf at this
    rw [List.mem_map] at this
    obtain ⟨y,_,hy⟩:=this
    refine inv.opd_ids R hy k ?_
    simp only [SV.ids]
    exact mem_idsL.2 ⟨s,List.mem_of_getLast? hs,head_ids hk⟩
   ·simp at hk
  ·simp at hk
 intro k hk
 unfold opFoot at hk
 split at hk
 ·exact hd k hk
 ·exact hdS k hk
 ·exact hdB k hk
 ·exact hd k hk
 ·exact hd k hk
 ·exact hd k hk
 ·exact hd k hk
 ·refine hd k ?_
  unfold mapFoot at hk
  split at hk
  ·rename_i j hj
   rw [hj]
   simpa [head1,SV.head] using hk
  ·simp at hk
 ·rename_i c
  split at hk
  ·split at hk
   ·exact hd2 k hk
   ·exact hd2 k hk
   ·exact hd k hk
  ·unfold footV at hk
   split at hk
   ·rename_i f cap rest hargs
    split at hk
    ·rename_i vs hvs
     refine reach_D (fun j c hc=>(inv.ush j c hc).2) 4 _ (fun j hj=> ?_) k hk
     rcases mem_union.1 hj with hj|hj
     ·simp at hj
     ·have happ:idsL (vs++cap)=idsL vs++idsL cap:=by simp [idsL_eq]
      rw [happ,List.mem_append] at hj
      have hall: ∀x∈argsOf o tm,∀v,x=some v-> ∀id∈v.ids,D id:=by
       intro x hx v hv
       unfold argsOf at hx
       rw [List.mem_map] at hx
       obtain ⟨y,_,hy⟩:=hx
       exact inv.opd_ids R (hy.trans hv)
      rcases hj with hj|hj
      ·obtain ⟨v,hv,hid⟩:=mem_idsL.1 hj
       exact hall (some v) (by rw [hargs,allSome_eq hvs];simp [hv]) v rfl j hid
      ·exact hall (some (.fn f cap)) (by rw [hargs];simp) _ rfl j (by simpa [SV.ids] using hj)
    ·simp at hk
   ·rename_i f first rest hargs
    split at hk
    ·rename_i vs hvs
     refine reach_D (fun j c hc=>(inv.ush j c hc).2) 4 _ (fun j hj=> ?_) k hk
     rcases mem_union.1 hj with hj|hj
     ·simp at hj
     ·have happ:idsL (first++vs)=idsL first++idsL vs:=by simp [idsL_eq]
      rw [happ,List.mem_append] at hj
      have hall: ∀x∈argsOf o tm,∀v,x=some v-> ∀id∈v.ids,D id:=by
       intro x hx v hv
       unfold argsOf at hx
       rw [List.mem_map] at hx
       obtain ⟨y,_,hy⟩:=hx
       exact inv.opd_ids R (hy.trans hv)
      rcases hj with hj|hj
      ·exact hall (some (.bfn f first)) (by rw [hargs];simp) _ rfl j (by simpa [SV.ids] using hj)
      ·obtain ⟨v,hv,hid⟩:=mem_idsL.1 hj
       exact hall (some v) (by rw [hargs,allSome_eq hvs];simp [hv]) v rfl j hid
    ·simp at hk
   ·simp at hk
  ·simp at hk
 ·simp at hk
end
section
variable (X:Ctx T O) (draw:Bool) (before:List Nat) (ops:Array Oper) (base:Nat) {ro:Option Nat} {n:Nat} {Q:Exit->Act->World->Prop}
variable {df:Fx} {w0:World} {M:Nat->Prop}
theorem stepR_real (hcon:Good R X) {done:Nat->Prop} {ρ:Env} {Fs:Nat->Nat->Prop} {tm tm':List (Option SV)} {H H':Nat->Option (Chunk T O)} {a:Act} {w:World}
  (inv:Inv R df w0 M (Dn base done) ρ Fs tm H a w) {τ:Nat->Touch} {i:Nat} (hstep:StepR X draw before ops base τ i tm H tm' H') (hi: ¬done i)
  (hb:draw=true-> ∀j,(before.getD i 0).testBit j=true->done j) (ho:draw=false-> ∀j,j<i->done j):
  wpOpIn (Wd ro) n X.P ops Q i (fun a' w'=> ∃ρ' Fs',Inv R df w0 M (Dn base fun j=>done j \/j=i) ρ' Fs' tm' H' a' w') a w:=by
 obtain ⟨o,hoi,hstep⟩:=hstep
 have wanted: ∀ {gd go},Gd ops o tm gd go->Region.wanted o (yielded ops a.tmps)=go:=by
  intro gd go h
  unfold Gd at h
  unfold Region.wanted
  split at h
  ·rename_i hg;rw [hg];exact h.2.symm
  ·rename_i j want hg
   obtain ⟨g,b,h1,_,h3,h4⟩:=h
   rw [hg]
   have:=inv.slots g _ h3
   unfold gdOf at h4
   split at h4
   ·rename_i c
    simp only [Option.some.injEq] at h4
    simp only [yielded,h1,Option.bind_some,this,SV.den,←h4]
    cases c<;>cases want<;>rfl
   ·simp only [Option.some.injEq] at h4
    simp only [yielded,h1,Option.bind_some,this,SV.den,denL,←h4]
    cases want<;>rfl
   ·cases h4
 have hfree: ∀j,base+stride*i<=j->j<base+stride*i+stride-> ¬Dn base done j:=by
  rintro j h1 h2 (h|⟨k,hk,h3,h4⟩)
  ·have:base<=base+stride*i:=Nat.le_add_right _ _;omega
  ·have hne:k≠i:=fun e=>hi (by rw [←e];exact hk)
   simp only [stride] at*
   omega
 unfold wpOpIn
 rw [hoi]
 simp only
 rcases hstep with ⟨gd,e,hgd,hrun,hok,_,rfl,rfl⟩|⟨gd,hgd,_,rfl,rfl⟩
 ·rw [if_pos (wanted hgd)]
  refine Oper.wpIn_mono ?_ (op_sound R X (K:=(· =e)) (ro:=ro) (n:=n) (Q:=Q) hcon inv hfree hrun)
  rintro a' w' ⟨e',v,ρ',Fs',rfl,he,rfl⟩
  unfold effOk at hok
  simp only [Bool.and_eq_true,List.all_eq_true] at hok
  obtain ⟨hids,hkeys⟩:=hok
  have allowed: ∀id∈e'.ids,Dn base (fun j=>done j \/j=i) id:=by
   intro id hid
   have:=hids id hid
   unfold idOk at this
   simp only [Bool.and_eq_true,Bool.or_eq_true,decide_eq_true_eq,Bool.not_eq_true'] at this
   obtain ⟨h1,((h2|h2)|h2)|h2⟩:=this
   ·exact .inl h2
   ·exact .inr ⟨i, .inr rfl,h2,h1⟩
   ·rcases Nat.lt_or_ge id base with h3|h3
    ·exact .inl h3
    ·rcases Nat.lt_or_ge id (base+stride*i) with h4|h4
     ·refine .inr ⟨(id-base)/stride, .inl (ho h2 _ ?_), ?_, ?_⟩
      ·simp only [stride] at*;omega
      ·simp only [stride] at*;omega
      ·simp only [stride] at*;omega
     ·exact .inr ⟨i, .inr rfl,h4,h1⟩
   ·cases hd:draw with
    |true=>
     rcases Nat.lt_or_ge id base with h3|h3
     ·exact .inl h3
     ·refine .inr ⟨(id-base)/stride, .inl (hb hd _ h2), ?_, ?_⟩
      ·simp only [stride] at*;omega
      ·simp only [stride] at*;omega
    |false=>
     rcases Nat.lt_or_ge id base with h3|h3
     ·exact .inl h3
     ·rcases Nat.lt_or_ge id (base+stride*i) with h4|h4
      ·refine .inr ⟨(id-base)/stride, .inl (ho hd _ ?_), ?_, ?_⟩
       ·simp only [stride] at*;omega
       ·simp only [stride] at*;omega
       ·simp only [stride] at*;omega
      ·exact .inr ⟨i, .inr rfl,h4,h1⟩
  refine ⟨ρ',Fs',Inv.put R inv (fun id hd=>Dn.mono (fun j hj=> .inl hj) hd) hfree he o.dst ?_ ?_⟩
  ·intro sv hsv id hid
   exact allowed id (by unfold Eff.ids;rw [hsv];exact List.mem_append_left _ hid)
  ·intro p hp c hc
   refine ⟨?_,fun id hid=>allowed id ?_⟩
   ·have:=hkeys p hp
    simp only [Bool.or_eq_true,Bool.and_eq_true,decide_eq_true_eq,List.contains_iff_mem] at this
    rcases this with h|⟨h1,h2⟩
    ·exact Dn.mono (fun j hj=> .inl hj) (foot_D R inv o p.1 h)
    ·exact .inr ⟨i, .inr rfl,h1,h2⟩
   ·unfold Eff.ids
    refine List.mem_append_right _ ?_
    rw [List.mem_flatMap]
    exact ⟨p,hp,by rw [hc];exact hid⟩
 ·rw [if_neg (by rw [wanted hgd];simp)]
  refine ⟨fun _ _=>trivial,ρ,Fs, ?_⟩
  have:=Inv.put R inv (D':=Dn base fun j=>done j \/j=i) (fun id hd=>Dn.mono (fun j hj=> .inl hj) hd) hfree (EffOk.pure R inv.hp (base+stride*i) (.tup []) (v:=undef) rfl) o.dst (fun sv h=>by simp only [Option.some.injEq] at h;subst h;simp [SV.ids,idsL]) (fun p hp=>by simp at hp)
  exact this
theorem runL_ordered (hcon:Good R X) {τ:Nat->Touch}: ∀(m i:Nat) {ρ:Env} {Fs:Nat->Nat->Prop} {tm tm':List (Option SV)} {H H':Nat->Option (Chunk T O)} {a:Act} {w:World},
  RunL X false before ops base τ (List.range' i m) tm H tm' H'->Inv R df w0 M (Dn base (· <i)) ρ Fs tm H a w→
  (∀a' w',(∃ρ' Fs',Inv R df w0 M (Dn base (· <i+m)) ρ' Fs' tm' H' a' w')->Q .normal a' w')->wpOpsIn (Wd ro) n X.P ops Q (List.range' i m) a w
 |0,i,ρ,Fs,_,_,_,_,a,w,⟨e1,e2⟩,inv,hQ=>by
  subst e1;subst e2
  exact hQ a w ⟨ρ,Fs,inv⟩
 |m+1,i,ρ,Fs,tm,tm',H,H',a,w,⟨tm1,H1,hs,hr⟩,inv,hQ=>by
  rw [List.range'_succ,wpOpsIn_cons]
  refine wpOpIn_mono ?_ (stepR_real R X false before ops base (ro:=ro) (n:=n) (Q:=Q) hcon inv hs (by omega) (fun h=>by cases h) (fun _ j hj=>hj))
  rintro a' w' ⟨ρ',Fs',inv'⟩
  refine runL_ordered hcon m (i+1) hr (Inv.weaken R inv' fun id hd=>Dn.mono (fun j hj=>by omega) hd) ?_
  rintro a'' w'' ⟨ρ'',Fs'',inv''⟩
  exact hQ a'' w'' ⟨ρ'',Fs'',Inv.weaken R inv'' fun id hd=>Dn.mono (fun j hj=>by omega) hd⟩
theorem befGo_old: ∀(l:List Oper) (acc:List Nat) (i:Nat),i<acc.length->(befGo l acc).getD i 0=acc.getD i 0
 |[],acc,i,_=>rfl
 |o::l,acc,i,h=>by
  simp only [befGo]
  rw [befGo_old l _ i (by simp;omega)]
  simp [List.getD,List.getElem?_append_left h]
theorem behind_bit (o:Oper) (acc:List Nat) (j:Nat) (h:(behind o acc).testBit j=true): ∃e∈o.after,Region.binds .any e=true/\ (e.on=j \/(acc.getD e.on 0).testBit j=true):=by
 have gen: ∀(l:List Edge) (s:Nat),(l.foldl (fun s e=>if Region.binds .any e then s|||(2^e.on|||acc.getD e.on 0) else s) s).testBit j=true→
   s.testBit j=true \/ ∃e∈l,Region.binds .any e=true/\ (e.on=j \/(acc.getD e.on 0).testBit j=true):=by
  intro l
  induction l with
  |nil=>intro s h;exact .inl h
  |cons e l ih=>
   intro s h
   simp only [List.foldl_cons] at h
   rcases ih _ h with h|⟨e',he',h'⟩
   ·split at h
    ·rename_i hb
     simp only [Nat.testBit_or,Bool.or_eq_true] at h
     rcases h with h|h|h
     ·exact .inl h
     ·refine .inr ⟨e,by simp,hb, .inl ?_⟩
      rw [Nat.testBit_two_pow] at h
      simpa using h
     ·exact .inr ⟨e,by simp,hb, .inr h⟩
    ·exact .inl h
   ·exact .inr ⟨e',by simp [he'],h'⟩
 rcases gen o.after.toList 0 h with h|⟨e,he,h⟩
 ·simp at h
 ·exact ⟨e,by simpa using he,h⟩
theorem befGo_bit: ∀(l:List Oper) (acc:List Nat) (t:Nat) (o:Oper),l[t]?=some o-> ∀j,((befGo l acc).getD (acc.length+t) 0).testBit j=true→
  ∃e∈o.after,Region.binds .any e=true/\ (e.on=j \/((befGo l acc).getD e.on 0).testBit j=true)
 |[],acc,t,o,h,_,_=>by simp at h
 |x::l,acc,0,o,h,j,hj=>by
  simp at h
  subst h
  simp only [befGo] at hj ⊢
  rw [befGo_old l _ _ (by simp)] at hj
  simp only [Nat.add_zero,List.getD,List.getElem?_append_right (Nat.le_refl acc.length),Nat.sub_self,List.getElem?_cons_zero,Option.getD_some] at hj
  obtain ⟨e,he,hb,h⟩:=behind_bit x acc j hj
  refine ⟨e,he,hb,h.imp id fun h=> ?_⟩
  rcases Nat.lt_or_ge e.on acc.length with hl|hl
  ·rw [befGo_old l _ e.on (by simp;omega)]
   simp only [List.getD] at h ⊢
   rwa [List.getElem?_append_left hl]
  ·simp [List.getD,List.getElem?_eq_none hl] at h
 |x::l,acc,t+1,o,h,j,hj=>by
  simp only [befGo] at hj ⊢
  have:=befGo_bit l (acc++[behind x acc]) t o (by simpa using h) j
  simp only [List.length_append,List.length_singleton,Nat.add_assoc] at this
  exact this (by rwa [show 1+t=t+1 by omega])
theorem edgesOk_at: ∀(l:List Oper) (i t:Nat) (o:Oper),edgesOk l i=true->l[t]?=some o-> ∀e∈o.after,Region.binds .any e=true->e.on<i+t
 |[],_,_,_,_,h,_,_,_=>by simp at h
 |x::l,i,0,o,hok,h,e,he,hb=>by
  simp at h
  subst h
  simp only [edgesOk,Bool.and_eq_true,List.all_eq_true,Bool.or_eq_true,Bool.not_eq_true',decide_eq_true_eq] at hok
  rcases hok.1 e (by simpa using he) with h|h
  ·rw [hb] at h;cases h
  ·omega
 |x::l,i,t+1,o,hok,h,e,he,hb=>by
  simp only [edgesOk,Bool.and_eq_true] at hok
  have:=edgesOk_at l (i+1) t o hok.2 (by simpa using h) e he hb
  omega
theorem orderly_at: ∀(ts:List Touch) (p q:Nat) (a b:Touch),orderly before ts=true->ts[p]?=some b->ts[q]?=some a->p<q->(before.getD b.idx 0).testBit a.idx=true \/a.apart b=true
 |[],_,_,_,_,_,h,_,_=>by simp at h
 |x::ts,0,q+1,a,b,hok,hp,hq,_=>by
  simp at hp
  subst hp
  simp only [orderly,Bool.and_eq_true,List.all_eq_true,Bool.or_eq_true] at hok
  exact hok.1 a (List.mem_of_getElem? (by simpa using hq))
 |x::ts,p+1,q+1,a,b,hok,hp,hq,h=>by
  simp only [orderly,Bool.and_eq_true] at hok
  exact orderly_at ts p q a b hok.2 (by simpa using hp) (by simpa using hq) (by omega)
theorem runL_any (hcon:Good R X) {τ:Nat->Touch} (hedges:edgesOk ops.toList 0=true)
  (hord: ∀i j,i<j->j<ops.size->((befs ops.toList).getD j 0).testBit i=true \/(τ i).apart (τ j)=true) {tm':List (Option SV)} {H':Nat->Option (Chunk T O)}
  (hQ: ∀a' w',(∃ρ' Fs',Inv R df w0 M (Dn base (· <ops.size)) ρ' Fs' tm' H' a' w')->Q .normal a' w'):
  ∀(fuel:Nat) (rem:List Nat) (listed:Array Bool) {ρ:Env} {Fs:Nat->Nat->Prop} {tm:List (Option SV)} {H:Nat->Option (Chunk T O)} {a:Act} {w:World},
   rem.length=fuel->rem.Pairwise (· < ·)->(∀j∈rem,j<ops.size)->listed.size=ops.size->(∀j,j<ops.size->(listed.getD j false=true↔j∉rem))→
   (∀d,d<ops.size->d∉rem-> ∀j,((befs ops.toList).getD d 0).testBit j=true->j<ops.size/\ j∉rem)→
   RunL X true (befs ops.toList) ops base τ rem tm H tm' H'->Inv R df w0 M (Dn base fun j=>j<ops.size/\ j∉rem) ρ Fs tm H a w→
   wpAnyIn (Wd ro) n X.P .any ops Q fuel listed a w:=by
 --an operation that is not done and whose edges are done,of those that are not done
 have closed: ∀(rem:List Nat),(∀d,d<ops.size->d∉rem-> ∀j,((befs ops.toList).getD d 0).testBit j=true->j<ops.size/\ j∉rem)-> ∀i o,ops[i]?=some o->(∀e∈o.after,Region.binds .any e=true->e.on<ops.size/\ e.on∉rem)→
   ∀j,((befs ops.toList).getD i 0).testBit j=true->j<ops.size/\ j∉rem:=by
  intro rem hc i o ho he j hj
  have:=befGo_bit ops.toList [] i o (by simpa using ho) j (by simpa [befs] using hj)
  obtain ⟨e,hem,hb,h⟩:=this
  obtain ⟨h1,h2⟩:=he e hem hb
  rcases h with h|h
  ·rw [←h];exact ⟨h1,h2⟩
  ·exact hc e.on h1 h2 j h
 intro fuel
 induction fuel with
 |zero=>
  intro rem listed ρ Fs tm H a w hlen _ _ hsz hl _ hrun inv
  have hrem:rem=[]:=List.eq_nil_of_length_eq_zero hlen
  subst hrem
  obtain ⟨e1,e2⟩:=hrun
  subst e1;subst e2
  refine ⟨?_,hQ a w ⟨ρ,Fs,Inv.weaken R inv fun id hd=>Dn.mono (fun j hj=>hj.1) hd⟩⟩
  rw [List.eq_nil_iff_forall_not_mem]
  intro j hj
  rw [mem_ready] at hj
  obtain ⟨h0,o,ho,_⟩:=hj
  have hlt:j<ops.size:=(Array.getElem?_eq_some_iff.1 ho).1
  have:=(hl j hlt).2 (by simp)
  have hlt':j<listed.size:=by omega
  simp only [Array.getD,hlt',dif_pos] at h0 this
  rw [h0] at this;cases this
 |succ fuel ih=>
  intro rem listed ρ Fs tm H a w hlen hsort hin hsz hl hc hrun inv
  have getF: ∀j,j<ops.size->listed.getD j true=listed.getD j false:=fun j hj=>by
   have hlt':j<listed.size:=by omega
   simp [Array.getD,hlt']
  refine ⟨fun hready=> ?_,fun i hi=> ?_⟩
  ·--the first one of those that are left may go
   exfalso
   cases rem with
   |nil=>simp at hlen
   |cons i rest=>
    have hil:=hin i (by simp)
    have:i∈Region.ready .any ops listed:=by
     rw [mem_ready]
     refine ⟨?_,ops[i],Array.getElem?_eq_getElem hil,fun e he hb=> ?_⟩
     ·rw [getF i hil]
      cases hv:listed.getD i false with
      |false=>rfl
      |true=>exact absurd ((hl i hil).1 hv) (by simp)
     ·have hlt:=edgesOk_at ops.toList 0 i ops[i] hedges (by simp [hil]) e he hb
      refine (hl e.on (by omega)).2 fun hm=> ?_
      simp only [List.mem_cons] at hm
      rcases hm with hm|hm
      ·omega
      ·have:=(List.pairwise_cons.1 hsort).1 e.on hm
       omega
    rw [hready] at this
    simp at this
  ·rw [mem_ready] at hi
   obtain ⟨h0,o,ho,hedge⟩:=hi
   have hil:i<ops.size:=(Array.getElem?_eq_some_iff.1 ho).1
   have him:i∈rem:=by
    by_cases h:i∈rem
    ·exact h
    ·rw [getF i hil,(hl i hil).2 h] at h0;cases h0
   have hedge': ∀e∈o.after,Region.binds .any e=true->e.on<ops.size/\ e.on∉rem:=by
    intro e he hb
    have hlt:=edgesOk_at ops.toList 0 i o hedges (by simpa using ho) e he hb
    exact ⟨by omega,(hl e.on (by omega)).1 (hedge e he hb)⟩
   have hbefore:=closed rem hc i o ho hedge'
   obtain ⟨r1,r2,rfl⟩:=List.append_of_mem him
   rw [List.pairwise_append,List.pairwise_cons] at hsort
   obtain ⟨s1,⟨s2,s3⟩,s4⟩:=hsort
   have hapart: ∀j∈r1,(τ j).apart (τ i)=true:=by
    intro j hj
    have hji:=s4 j hj i (by simp)
    rcases hord j i hji hil with h|h
    ·exact absurd (by simp [hj]) (hbefore j h).2
    ·exact h
   obtain ⟨tm1,H1,hstep,hrest⟩:=RunL.first X true _ ops base hrun hapart
   have hni:i∉r1++r2:=by
    rw [List.mem_append,not_or]
    exact ⟨fun h=>by have:=s4 i h i (by simp);omega,fun h=>by have:=s2 i h;omega⟩
   refine wpOpIn_mono ?_ (stepR_real R X true _ ops base (ro:=ro) (n:=n) (Q:=Q) hcon inv hstep (fun h=>h.2 (by simp)) (fun _ j hj=>hbefore j hj) (fun h=>by cases h))
   rintro a' w' ⟨ρ',Fs',inv'⟩
   refine ih (r1++r2) (listed.setIfInBounds i true) ?_ ?_ ?_ ?_ ?_ ?_ hrest (Inv.weaken R inv' fun id hd=>Dn.mono (fun j hj=> ?_) hd)
   ·simp at hlen ⊢;omega
   ·rw [List.pairwise_append]
    exact ⟨s1,s3,fun x hx y hy=>s4 x hx y (by simp [hy])⟩
   ·intro j hj
    refine hin j ?_
    simp only [List.mem_append,List.mem_cons] at hj ⊢
    rcases hj with h|h
    ·exact .inl h
    ·exact .inr (.inr h)
   ·simpa using hsz
   ·intro j hj
    by_cases e:j=i
    ·subst e
     have hlt':j<listed.size:=by omega
     constructor
     ·intro _;exact hni
     ·intro _;simp [Array.getD,hlt']
    ·rw [getD_set_ne _ (fun h=>e h.symm),hl j hj]
     simp only [List.mem_append,List.mem_cons,not_or]
     constructor
     ·rintro ⟨h1,_,h3⟩;exact ⟨h1,h3⟩
     ·rintro ⟨h1,h3⟩;exact ⟨h1,e,h3⟩
   ·intro d hd hdn j hj
    have sub: ∀x,x∉r1++i::r2->x∉r1++r2:=by
     intro x hx h
     refine hx ?_
     simp only [List.mem_append,List.mem_cons] at h ⊢
     rcases h with h|h
     ·exact .inl h
     ·exact .inr (.inr h)
    by_cases e:d=i
    ·subst e
     have:=hbefore j hj
     exact ⟨this.1,sub j this.2⟩
    ·have:=hc d hd (fun h=>by
      simp only [List.mem_append,List.mem_cons] at h hdn
      rcases h with h|h|h
      ·exact hdn (.inl h)
      ·exact e h
      ·exact hdn (.inr h)) j hj
     exact ⟨this.1,sub j this.2⟩
   ·rcases hj with ⟨h1,h2⟩|rfl
    ·refine ⟨h1,fun h=>h2 ?_⟩
     simp only [List.mem_append,List.mem_cons] at h ⊢
     rcases h with h|h
     ·exact .inl h
     ·exact .inr (.inr h)
    ·exact ⟨hil,hni⟩
theorem region_sound (hcon:Good R X) (hm:X.P.follows .mixedOrders=true) {id:Nat} {S:SS T O} {K:SS T O->Prop} (h:regX X ops draw S K) {ρ:Env} {Fs:Nat->Nat->Prop} {a:Act} {w:World}
  (inv:Inv R df w0 M (· <S.next) ρ Fs S.tmps S.get a w):(Code.region id ops draw).wpIn (Wd ro) n X.P (fun e a' w'=>e= .normal/\ ∃S' ρ' Fs',K S'/\ Inv R df w0 M (· <S'.next) ρ' Fs' S'.tmps S'.get a' w') a w:=by
 have hstart: ∀ {w'},Kept (fun _=>False) w w'->w'.heap=w.heap->Inv R df w0 M (Dn S.next fun j=>j<0) ρ Fs S.tmps S.get a w':=by
  intro w' hk hh
  have inv2:=Inv.weaken R inv (D':=Dn S.next fun j=>j<0) fun id hd=> .inl hd
  exact ⟨inv2.df,inv2.fix,inv2.sz,inv2.slots,⟨inv.hp.one,fun k c hc=>Chunk.holds_stable R (inv.hp.holds k c hc) (fun x _=>by rw [hh]) hk.size,inv.hp.sep⟩,inv2.ust,inv2.ush,inv2.kept.trans hk (fun _ _ h=>h.elim),inv2.own,inv2.share,inv2.fixF⟩
 have fin: ∀ {S':SS T O} {a':Act} {w':World},(∃ρ' Fs',Inv R df w0 M (Dn S.next (· <ops.size)) ρ' Fs' S'.tmps S'.get a' w')->K { S' with next:=S.next+stride*ops.size }→
   (∃S'' ρ' Fs',K S''/\ Inv R df w0 M (· <S''.next) ρ' Fs' S''.tmps S''.get a' w'):=by
  rintro S' a' w' ⟨ρ',Fs',inv'⟩ hK
  refine ⟨{ S' with next:=S.next+stride*ops.size },ρ',Fs',hK,Inv.weaken R inv' fun id hd=> ?_⟩
  show id<S.next+stride*ops.size
  rcases hd with hd|⟨j,hj,_,h2⟩
  ·omega
  ·simp only [stride] at*;omega
 unfold regX at h
 cases draw with
 |false=>
  obtain ⟨τ,tm',S',hrun,rfl,hK⟩:=opsX_run X false [] ops S.next ops.toList 0 [] S _ (by simp) h
  refine wpIn_region ?_
  rw [List.range_eq_range']
  rw [Array.length_toList] at hrun
  refine runL_ordered R X [] ops S.next hcon ops.size 0 hrun (hstart (Kept.refl _ _) rfl) ?_
  intro a' w' hinv
  refine ⟨rfl,fin ?_ hK⟩
  simpa using hinv
 |true=>
  obtain ⟨τ,tm',S',hrun,rfl,hK⟩:=opsX_run X true (befs ops.toList) ops S.next ops.toList 0 [] S _ (by simp) h
  simp only at hK
  split at hK
  ·rename_i hok
   simp only [Bool.and_eq_true] at hok
   obtain ⟨hord,hedge⟩:=hok
   refine wpIn_region_any hm ?_
   rw [Array.length_toList] at hrun hord
   have hidx: ∀i,i<ops.size->(τ i).idx=i:=by
    have: ∀(m i:Nat) {tm tm':List (Option SV)} {H H':Nat->Option (Chunk T O)},RunL X true (befs ops.toList) ops S.next τ (List.range' i m) tm H tm' H'-> ∀j,i<=j->j<i+m->(τ j).idx=j:=by
     intro m
     induction m with
     |zero=>intro i _ _ _ _ _ j h1 h2;omega
     |succ m ih=>
      intro i _ _ _ _ h j h1 h2
      rw [List.range'_succ] at h
      obtain ⟨tm1,H1,hs,hr⟩:=h
      by_cases e:j=i
      ·subst e
       obtain ⟨o,_,h|h⟩:=hs
       ·obtain ⟨gd,e,_,_,_,ht,_⟩:=h;rw [ht]
       ·obtain ⟨gd,_,ht,_⟩:=h;rw [ht]
      ·exact ih (i+1) hr j (by omega) (by omega)
    intro i hi
    exact this ops.size 0 hrun i (Nat.zero_le _) (by omega)
   have hget: ∀i,i<ops.size->(((List.range' 0 ops.size).map τ).reverse.append [])[ops.size-1-i]?=some (τ i):=by
    intro i hi
    simp only [List.append_eq,List.append_nil]
    rw [List.getElem?_reverse (by simp;omega)]
    simp only [List.length_map,List.length_range']
    rw [show ops.size-1-(ops.size-1-i)=i by omega]
    simp [List.getElem?_range' hi]
   refine runL_any R X ops S.next hcon (τ:=τ) (ρ:=ρ) (Fs:=Fs) hedge (fun i j hij hj=> ?_) (fun a' w' hinv=>⟨rfl,fin hinv hK⟩) ops.size (List.range' 0 ops.size) _ (by simp) (by exact List.pairwise_lt_range') (fun j hj=>by simpa using hj) (by simp) (fun j hj=> ?_) (fun d hd hdn=>absurd (by simpa using hd) hdn) hrun ?_
   ·have:=orderly_at (befs ops.toList) _ (ops.size-1-j) (ops.size-1-i) (τ i) (τ j) hord (hget j hj) (hget i (by omega)) (by omega)
    rw [hidx i (by omega),hidx j hj] at this
    exact this
   ·simp [Array.getD,hj]
   ·refine Inv.weaken R (hstart (w':= { w with drawn:=w.drawn+1 }) ⟨rfl,rfl,rfl,Nat.le_refl _,fun _ _ _=>rfl⟩ rfl) fun id hd=>Dn.mono (fun j hj=>by omega) hd
  ·exact hK.elim
end
end
end Go.Sx