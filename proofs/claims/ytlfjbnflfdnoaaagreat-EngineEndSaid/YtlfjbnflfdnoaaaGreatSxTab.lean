/-
  Part of a proof over the seat YtlfjbnflfdnoaaaGreat: printed by a small program or typed by hand.
-/
import Derived.Test.YtlfjbnflfdnoaaaGreatSxOps2
/-
 Sx:rows of objects:an object is taken out of its place,and put back.
-/
namespace Go.Sx
section
variable {T:Nat->Enc} {O:Nat->Type} (R:Objs O)
structure LayOk (X:Ctx T O):Prop where
 n: ∀o ℓ,X.lay o=some ℓ->0<ℓ.n/\ ℓ.n<=stride
 len: ∀o ℓ,X.lay o=some ℓ-> ∀d,(ℓ.lay d).length=ℓ.n
 own: ∀o ℓ,X.lay o=some ℓ-> ∀d,∀c∈ℓ.lay d,c.owned=true
 ids: ∀o ℓ,X.lay o=some ℓ-> ∀d,∀c∈ℓ.lay d,∀id∈c.ids,id<ℓ.n
 back: ∀o ℓ,X.lay o=some ℓ-> ∀l d,ℓ.unlay l=some d->ℓ.lay d=l
 rep: ∀o ℓ,X.lay o=some ℓ-> ∀d v w F,R.rep o d v w F↔ ∃ρ Fs,ρ 0=v/\ HeapOk R ρ (fun j=>(ℓ.lay d)[j]?) Fs w/\ ∀x,F x↔ ∃j,j<ℓ.n/\ Fs j x
section
variable {ρ:Env} {H:Nat->Option (Chunk T O)} {Fs:Nat->Nat->Prop} {w:World} {fresh:Nat} {K:Eff T O->Prop} (X:Ctx T O)
theorem lookK_number {k j:Nat}: ∀ {i:Nat} {ids:List Nat},lookK k (number i ids)=some j-> ∃t,ids[t]?=some k/\ j=i+t
 |i,[],h=>by simp [number,lookK] at h
 |i,x::ids,h=>by
  simp only [number,lookK] at h
  split at h
  ·rename_i hx
   simp only [Option.some.injEq] at h
   exact ⟨0,by simp [hx],by omega⟩
  ·obtain ⟨t,h1,h2⟩:=lookK_number h
   exact ⟨t+1,by simpa using h1,by omega⟩
theorem union_nodup: ∀(m l:List Nat),l.Nodup->(union l m).Nodup
 |[],_,h=>h
 |x::m,l,h=>by
  simp only [union]
  split
  ·exact union_nodup m l h
  ·rename_i hx
   refine union_nodup m _ ?_
   rw [List.nodup_append]
   refine ⟨h,by simp,fun a ha b hb=> ?_⟩
   simp only [List.mem_singleton] at hb
   subst hb
   rintro rfl
   exact hx (by simpa using ha)
theorem reach_nodup {g:Nat->Option (Chunk T O)}: ∀(n:Nat) (l:List Nat),l.Nodup->(reachIds g n l).Nodup
 |0,_,h=>h
 |n+1,_,h=>reach_nodup n _ (union_nodup _ _ h)
theorem chunksAt_get {g:Nat->Option (Chunk T O)} {π:List (Nat×Nat)}: ∀ {l:List Nat} {cs:List (Chunk T O)},chunksAt g π l=some cs->cs.length=l.length/\ ∀(i k:Nat),l[i]?=some k-> ∃c d,g k=some c/\ cs[i]?=some d/\ c.rn π=some d
 |[],cs,h=>by simp [chunksAt] at h;subst h;exact ⟨rfl,fun i k h=>by simp at h⟩
 |k::l,cs,h=>by
  unfold chunksAt at h
  split at h
  ·rename_i c cs' hc hcs
   simp only [Option.some.injEq] at h
   subst h
   obtain ⟨h1,h2⟩:=chunksAt_get hcs
   refine ⟨by simp [h1],fun i j hi=> ?_⟩
   cases i with
   |zero=>
    simp at hi;subst hi
    simp only [Option.bind_eq_some_iff] at hc
    obtain ⟨d,hd1,hd2⟩:=hc
    exact ⟨d,c,hd1,by simp,hd2⟩
   |succ i=>simpa using h2 i j (by simpa using hi)
  ·cases h
theorem lookK_shift (fresh:Nat): ∀(n j:Nat),lookK j (shiftP fresh n)=if j<n then some (fresh+j) else none
 |0,j=>by simp [shiftP,lookK]
 |n+1,j=>by
  simp only [shiftP,lookK,lookK_shift fresh n j]
  by_cases h:n=j
  ·subst h;simp
  ·rw [if_neg h]
   by_cases g:j<n
   ·rw [if_pos g,if_pos (by omega)]
   ·rw [if_neg g,if_neg (by omega)]
theorem pullG_ok {π:List (Nat×Nat)}: ∀(l:List (Chunk T O)) (i:Nat) (u:List (Nat×Option (Chunk T O))),pullG π i l=some u→
  u.map (·.1)=List.range' i l.length/\ ∀(H:Nat->Option (Chunk T O)) (j:Nat),(j<i \/i+l.length<=j->updH u H j=H j)/\ ∀m,j=i+m-> ∀c,l[m]?=some c-> ∃c',c.rn π=some c'/\ updH u H j=some c'
 |[],i,u,h=>by
  simp only [pullG,Option.some.injEq] at h
  subst h
  exact ⟨rfl,fun H j=>⟨fun _=>rfl,fun m _ c hc=>by simp at hc⟩⟩
 |c::l,i,u,h=>by
  simp only [pullG] at h
  split at h
  ·rename_i c' u' hc hu
   simp only [Option.some.injEq] at h
   subst h
   obtain ⟨h1,h2⟩:=pullG_ok l (i+1) u' hu
   refine ⟨by simp only [List.map_cons,h1,List.length_cons,List.range'_succ],fun H j=>⟨fun hj=> ?_,fun m hm d hd=> ?_⟩⟩
   ·simp only [List.length_cons] at hj
    simp only [updH]
    rw [(h2 _ j).1 (by omega),if_neg (by omega)]
   ·simp only [updH]
    cases m with
    |zero=>
     simp only [List.getElem?_cons_zero,Option.some.injEq] at hd
     subst hd
     refine ⟨c',hc, ?_⟩
     rw [(h2 _ j).1 (by omega),if_pos (by omega)]
    |succ m=>
     simp only [List.getElem?_cons_succ] at hd
     exact (h2 _ j).2 m (by omega) d hd
  ·cases h
theorem EffOk.pull (hL:LayOk R X) (hp:HeapOk R ρ H Fs w) (hf:Free H fresh) {k:Nat} {cs ds:List SV} {o n:Nat} {L:List (Option (O o))} {t:TypeId} (hc:H k=some (.tab cs o n L none ds t))
  {ℓ:LayF T O o} (hl:X.lay o=some ℓ) {i:Int} (hi:0<=i/\ i<(n:Int)) {d:O o} (hd:atO L i=some d) {u:List (Nat×Option (Chunk T O))} (hu:pullU fresh (ℓ.lay d)=some u):
  ∃b p ρ' Fs',ρ k= .pointer (some ⟨b,0,none⟩)/\ w.cell? ⟨b,cs.length+i.toNat,none⟩=some p/\ p=(SV.ptr fresh 0).den ρ'∧
   EffOk R ρ H Fs w fresh ⟨some (.ptr fresh 0),(k,some (.tab cs o n L (some (i,fresh)) ds t))::u⟩ p ρ' Fs' w:=by
 obtain ⟨b,ptrs,hb,hg,⟨hcs,hds,hLn,hpn⟩,Fi,h4,h5,h6,h7⟩:=hp.holds k _ hc
 obtain ⟨i,rfl⟩:=Int.eq_ofNat_of_zero_le hi.1
 have hin:i<n:=by have:=hi.2;omega
 have hip:i<ptrs.length:=by omega
 have hpi:ptrs[i]?=some ptrs[i]:=List.getElem?_eq_getElem hip
 have hs:=h4 i ptrs[i] hpi
 have hd':L.getD i none=some d:=by simpa [atO] using hd
 rw [hd'] at hs
 have hs:R.rep o d ptrs[i] w (Fi i):=hs
 obtain ⟨ρ0,F0,hr0,hp0,hF0⟩:=(hL.rep o ℓ hl d _ w _).1 hs
 obtain ⟨n0,n1⟩:=hL.n o ℓ hl
 have hlen:=hL.len o ℓ hl d
 unfold pullU at hu
 obtain ⟨hkeys,hupd⟩:=pullG_ok (ℓ.lay d) fresh u hu
 rw [hlen] at hkeys hupd
 let ρ':Env:=fun j=>if fresh<=j/\ j<fresh+ℓ.n then ρ0 (j-fresh) else ρ j
 let Fs':Nat->Nat->Prop:=fun j=>if fresh<=j/\ j<fresh+ℓ.n then F0 (j-fresh) else if j=k then (fun x=>Fs k x/\ ¬Fi i x) else Fs j
 have frange: ∀j,fresh<=j/\ j<fresh+ℓ.n->H j=none/\ ∀k c,H k=some c->j≠k/\ ∀id∈c.ids,id≠j:=by
  intro j hj
  have:=hf j hj.1 (by omega)
  refine ⟨this.1,fun k2 c hk=>⟨fun e=> ?_,fun id hid e=>this.2 k2 c hk (e▸hid)⟩⟩
  rw [←e,this.1] at hk
  cases hk
 have hkf: ¬(fresh<=k/\ k<fresh+ℓ.n):=fun h=>by rw [(frange k h).1] at hc;cases hc
 have e1: ∀j,¬(fresh<=j/\ j<fresh+ℓ.n)->ρ' j=ρ j:=fun j h=>if_neg h
 have e2: ∀m,m<ℓ.n->ρ' (fresh+m)=ρ0 m:=fun m h=>by
  show (if _ then _ else _)=_
  rw [if_pos ⟨by omega,by omega⟩,show fresh+m-fresh=m by omega]
 have e3:ρ' fresh=ρ0 0:=e2 0 n0
 have f2: ∀m,m<ℓ.n->Fs' (fresh+m)=F0 m:=fun m h=>by
  show (if _ then _ else _)=_
  rw [if_pos ⟨by omega,by omega⟩,show fresh+m-fresh=m by omega]
 have fk:Fs' k=fun x=>Fs k x/\ ¬Fi i x:=by
  show (if _ then _ else _)=_
  rw [if_neg hkf,if_pos rfl]
 have fo: ∀j,¬(fresh<=j/\ j<fresh+ℓ.n)->j≠k->Fs' j=Fs j:=fun j h g=>by
  show (if _ then _ else _)=_
  rw [if_neg h,if_neg g]
 have den: ∀c' kk,H kk=some c'-> ∀id∈c'.ids,ρ id=ρ' id:=fun c' kk hk id hid=>(e1 id fun h=>(frange id h).2 kk c' hk|>.2 id hid rfl).symm
 have hU: ∀j,updH ((k,some (Chunk.tab cs o n L (some ((i:Int),fresh)) ds t))::u) H j=if fresh<=j/\ j<fresh+ℓ.n then updH u (fun j=>if j=k then some (Chunk.tab cs o n L (some ((i:Int),fresh)) ds t) else H j) j else if j=k then some (.tab cs o n L (some ((i:Int),fresh)) ds t) else H j:=by
  intro j
  simp only [updH]
  by_cases h:fresh<=j/\ j<fresh+ℓ.n
  ·rw [if_pos h]
  ·rw [if_neg h,(hupd _ j).1 (by omega)]
 have hnew: ∀m,m<ℓ.n-> ∃c c',(ℓ.lay d)[m]?=some c/\ c.rn (shiftP fresh ℓ.n)=some c'/\ updH ((k,some (Chunk.tab cs o n L (some ((i:Int),fresh)) ds t))::u) H (fresh+m)=some c':=by
  intro m hm
  have hmm:(ℓ.lay d)[m]?=some (ℓ.lay d)[m]:=List.getElem?_eq_getElem (by omega)
  obtain ⟨c',h1,h2⟩:=(hupd (fun j=>if j=k then some (Chunk.tab cs o n L (some ((i:Int),fresh)) ds t) else H j) (fresh+m)).2 m rfl _ hmm
  refine ⟨_,c',hmm,h1, ?_⟩
  rw [hU,if_pos ⟨by omega,by omega⟩,h2]
 have hπ: ∀a a',lookK a (shiftP fresh ℓ.n)=some a'->ρ' a'=ρ0 a:=by
  intro a a' h
  rw [lookK_shift] at h
  split at h
  ·rename_i ha
   simp only [Option.some.injEq] at h
   subst h
   exact e2 a ha
  ·cases h
 have sub0: ∀m,m<ℓ.n-> ∀x,F0 m x->Fi i x:=fun m hm x hx=>(hF0 x).2 ⟨m,hm,hx⟩
 have subk: ∀x,Fi i x->Fs k x:=fun x hx=>(h7 x).2 (.inr ⟨i,hx⟩)
 refine ⟨b,ptrs[i],ρ',Fs',hb, ?_, ?_, ?_, ?_, ?_, ?_, ?_, ?_, ?_⟩
 ·rw [Int.toNat_natCast,cell_of_row w b _ _ t (0,0) hg,List.getElem?_toArray,List.append_assoc,List.getElem?_append_right (by rw [length_denL];omega),List.getElem?_append_left (by rw [length_denL];omega),length_denL,show cs.length+i-cs.length=i by omega]
  exact hpi
 ·obtain ⟨b',hb'⟩:=R.ptr o d _ w _ hs
  show ptrs[i]= .pointer (some ((addrOf (ρ' fresh)).add 0))
  rw [e3,hr0,hb']
  rfl
 ·intro sv hsv
  simp only [Option.some.injEq] at hsv
  subst hsv
  obtain ⟨b',hb'⟩:=R.ptr o d _ w _ hs
  show ptrs[i]= .pointer (some ((addrOf (ρ' fresh)).add 0))
  rw [e3,hr0,hb']
  rfl
 ·intro j hj
  exact e1 j fun h=>hj ⟨h.1,by omega⟩
 ·intro j hj
  simp only [List.map_cons,List.mem_cons,not_or,hkeys,List.mem_range'_1] at hj
  exact fo j (fun h=>hj.2 ⟨h.1,h.2⟩) hj.1
 ·refine ⟨fun j=> ?_,fun j c hcj=> ?_,fun j j' c c' hj hj' hne ho x hx hx'=> ?_⟩
  ·by_cases h:fresh<=j/\ j<fresh+ℓ.n
   ·show (if _ then _ else _:Value).oneCell'=true
    rw [if_pos h];exact hp0.one _
   ·rw [e1 j h];exact hp.one j
  ·by_cases h:fresh<=j/\ j<fresh+ℓ.n
   ·obtain ⟨m,rfl⟩: ∃m,j=fresh+m:=⟨j-fresh,by omega⟩
    have hm:m<ℓ.n:=by omega
    obtain ⟨c0,c1,g1,g2,g3⟩:=hnew m hm
    rw [g3] at hcj
    simp only [Option.some.injEq] at hcj
    subst hcj
    rw [e2 m hm,f2 m hm]
    exact (Chunk.rn_holds R hπ g2).2 (hp0.holds m c0 g1)
   ·rw [hU,if_neg h] at hcj
    rw [e1 j h]
    by_cases e:j=k
    ·subst e
     rw [if_pos rfl] at hcj
     simp only [Option.some.injEq] at hcj
     subst hcj
     rw [fk]
     refine ⟨b,ptrs,hb, ?_,⟨hcs,hds,hLn,hpn⟩,fun m x=>m≠i/\ Fi m x, ?_, ?_, ?_, ?_⟩
     ·rw [hg,denL_congr cs (fun id hid=>den _ j hc id (by simp [Chunk.ids,hid])),denL_congr ds (fun id hid=>den _ j hc id (by simp [Chunk.ids,hid]))]
     ·intro m p hpm
      by_cases em:i=m
      ·subst em
       have:holeAt (some ((i:Int),fresh)) i=some fresh:=by simp [holeAt]
       rw [this]
       rw [hpi] at hpm
       simp only [Option.some.injEq] at hpm
       refine ⟨?_, ?_,fun x hx=>hx.1 rfl⟩
       ·rw [←hpm]
        exact (e3.trans hr0).symm
       ·rw [←hpm]
        exact R.ptr o d _ w _ hs
      ·have:holeAt (some ((i:Int),fresh)) m=none:=by simp [holeAt,em]
       rw [this]
       have hm4:=h4 m p hpm
       have hset:(fun x=>m≠i/\ Fi m x)=Fi m:=by
        funext x
        exact propext ⟨fun h=>h.2,fun h=>⟨fun e=>em e.symm,h⟩⟩
       show seatOk R ρ' w none (L.getD m none) p (fun x=>m≠i/\ Fi m x)
       rw [hset]
       exact seatOk_congr R hm4 (fun k' hk'=>by simp at hk')
     ·intro m m' x hmm h1 h2
      exact h5 m m' x hmm h1.2 h2.2
     ·intro m x hx
      exact h6 m x hx.2
     ·intro x
      constructor
      ·rintro ⟨hx,hni⟩
       rcases (h7 x).1 hx with rfl|⟨m,hm⟩
       ·exact .inl rfl
       ·exact .inr ⟨m,fun e=>hni (e▸hm),hm⟩
      ·rintro (rfl|⟨m,hm1,hm2⟩)
       ·exact ⟨(h7 x).2 (.inl rfl),fun h=>(h6 i x h).1 rfl⟩
       ·exact ⟨(h7 x).2 (.inr ⟨m,hm2⟩),fun h=>h5 m i x hm1 hm2 h⟩
    ·rw [if_neg e] at hcj
     rw [fo j h e]
     exact Chunk.holds_congr R (hp.holds j c hcj) (den c j hcj)
  ·have ownd: ∀j c,updH ((k,some (Chunk.tab cs o n L (some ((i:Int),fresh)) ds t))::u) H j=some c->(∃m,m<ℓ.n/\ j=fresh+m) \/(j=k/\ c.owned=true/\ ¬(fresh<=j/\ j<fresh+ℓ.n)) \/(j≠k/\ H j=some c/\ ¬(fresh<=j/\ j<fresh+ℓ.n)):=by
    intro j c hcj
    by_cases h:fresh<=j/\ j<fresh+ℓ.n
    ·exact .inl ⟨j-fresh,by omega,by omega⟩
    ·rw [hU,if_neg h] at hcj
     by_cases e:j=k
     ·rw [if_pos e] at hcj
      simp only [Option.some.injEq] at hcj
      subst hcj
      exact .inr (.inl ⟨e,rfl,h⟩)
     ·rw [if_neg e] at hcj
      exact .inr (.inr ⟨e,hcj,h⟩)
   have tabk:(Chunk.tab cs o n L none ds t:Chunk T O).owned=true:=rfl
   rcases ownd j c hj with ⟨m,hm,rfl⟩|⟨rfl,_,hjn⟩|⟨hjk,hjH,hjn⟩
   ·rw [f2 m hm] at hx
    rcases ownd j' c' hj' with ⟨m',hm',rfl⟩|⟨rfl,_,hjn'⟩|⟨hjk',hjH',hjn'⟩
    ·rw [f2 m' hm'] at hx'
     obtain ⟨c0,c1,g1,g2,g3⟩:=hnew m hm
     obtain ⟨c0',c1',g1',g2',g3'⟩:=hnew m' hm'
     exact hp0.sep m m' c0 c0' g1 g1' (fun e=>hne (by rw [e])) (hL.own o ℓ hl d c0 (List.mem_of_getElem? g1)) x hx hx'
    ·rw [fk] at hx'
     exact hx'.2 (sub0 m hm x hx)
    ·rw [fo j' hjn' hjk'] at hx'
     exact hp.sep k j' _ c' hc hjH' (fun e=>hjk' e.symm) tabk x (subk x (sub0 m hm x hx)) hx'
   ·rw [fk] at hx
    rcases ownd j' c' hj' with ⟨m',hm',rfl⟩|⟨e',_,hjn'⟩|⟨hjk',hjH',hjn'⟩
    ·rw [f2 m' hm'] at hx'
     exact hx.2 (sub0 m' hm' x hx')
    ·exact hne e'.symm
    ·rw [fo j' hjn' hjk'] at hx'
     exact hp.sep j j' _ c' hc hjH' (fun e=>hjk' e.symm) tabk x hx.1 hx'
   ·rw [fo j hjn hjk] at hx
    rcases ownd j' c' hj' with ⟨m',hm',rfl⟩|⟨rfl,_,hjn'⟩|⟨hjk',hjH',hjn'⟩
    ·rw [f2 m' hm'] at hx'
     exact hp.sep j k c _ hjH hc hjk ho x hx (subk x (sub0 m' hm' x hx'))
    ·rw [fk] at hx'
     exact hp.sep j j' c _ hjH hc hne ho x hx hx'.1
    ·rw [fo j' hjn' hjk'] at hx'
     exact hp.sep j j' c c' hjH hjH' hne ho x hx hx'
 ·exact Kept.refl _ _
 ·intro j hj c hcj x hx
  refine .inr (.inl ⟨k,by simp,⟨_,hc,rfl⟩, ?_⟩)
  simp only [List.map_cons,List.mem_cons,hkeys,List.mem_range'_1] at hj
  rcases hj with rfl|hj
  ·rw [fk] at hx;exact hx.1
  ·obtain ⟨m,rfl⟩: ∃m,j=fresh+m:=⟨j-fresh,by omega⟩
   rw [f2 m (by omega)] at hx
   exact subk x (sub0 m (by omega) x hx)
 ·intro j hj
  simp only [List.map_cons,List.mem_cons,hkeys,List.mem_range'_1] at hj
  rcases hj with rfl|hj
  ·exact .inl ⟨_,hc,rfl⟩
  ·exact .inr ⟨hj.1,by omega⟩
theorem nodup_inj: ∀ {l:List Nat},l.Nodup-> ∀ {i j:Nat} (hi:i<l.length) (hj:j<l.length),l[i]=l[j]->i=j
 |[],_,i,j,hi,_,_=>by simp at hi
 |x::l,hn,0,0,_,_,_=>rfl
 |x::l,hn,0,j+1,_,hj,e=>by
  rw [List.nodup_cons] at hn
  simp only [List.getElem_cons_zero,List.getElem_cons_succ] at e
  exact absurd (e▸List.getElem_mem _) hn.1
 |x::l,hn,i+1,0,hi,_,e=>by
  rw [List.nodup_cons] at hn
  simp only [List.getElem_cons_zero,List.getElem_cons_succ] at e
  exact absurd (e▸List.getElem_mem _) hn.1
 |x::l,hn,i+1,j+1,hi,hj,e=>by
  rw [List.nodup_cons] at hn
  simp only [List.getElem_cons_succ] at e
  rw [nodup_inj hn.2 _ _ e]
theorem updH_gone: ∀(l:List Nat) (H:Nat->Option (Chunk T O)) (j:Nat),updH (goneU l) H j=if j∈l then none else H j
 |[],H,j=>by simp [goneU,updH]
 |k::l,H,j=>by
  have ih:=updH_gone l (fun j=>if j=k then none else H j) j
  show updH (goneU l) (fun j=>if j=k then none else H j) j=_
  rw [ih]
  by_cases h:j∈l
  ·simp [h]
  ·by_cases e:j=k
   ·subst e;simp [h]
   ·simp [h,e]
theorem keys_gone (l:List Nat):(goneU l:List (Nat×Option (Chunk T O))).map (·.1)=l:=by
 unfold goneU
 rw [List.map_map]
 exact List.map_id' l
theorem takeO_rep (hL:LayOk R X) (hp:HeapOk R ρ H Fs w) {o k':Nat} {d:O o} {ids:List Nat} (h:takeO X o H k'=some (d,ids)):
  (∀id∈ids,∃c,H id=some c/\ c.owned=true)/\ R.rep o d (ρ k') w (fun x=> ∃id∈ids,Fs id x)/\ ids.Nodup:=by
 unfold takeO at h
 split at h
 ·rename_i ℓ hl
  replace h:(match chunksAt H (number 0 (reachIds H 4 [k'])) (reachIds H 4 [k']) with
   |some l=>(ℓ.unlay l).map fun d=>(d,(reachIds H 4 [k']))
   |none=>none)=some (d,ids):=h
  split at h
  ·rename_i l hch
   simp only [Option.map_eq_some_iff,Prod.mk.injEq] at h
   obtain ⟨d',hun,rfl,rfl⟩:=h
   have hnd:(reachIds H 4 [k']).Nodup:=reach_nodup 4 _ (by simp)
   generalize hids:reachIds H 4 [k']=ids at hch hnd ⊢
   obtain ⟨hlen,hget⟩:=chunksAt_get hch
   have hback:=hL.back o ℓ hl l d' hun
   have hln:=hL.len o ℓ hl d'
   rw [hback] at hln
   obtain ⟨n0,_⟩:=hL.n o ℓ hl
   have h0:ids[0]?=some k':=by
    have: ∀(n:Nat) (l:List Nat),l[0]?=some k'->(reachIds H n l)[0]?=some k':=by
     intro n
     induction n with
     |zero=>intro l h;exact h
     |succ n ih=>
      intro l h
      refine ih _ ?_
      have u0: ∀(m l:List Nat),l[0]?=some k'->(union l m)[0]?=some k':=by
       intro m
       induction m with
       |nil=>intro l h;exact h
       |cons x m ihm=>
        intro l h
        simp only [union]
        split
        ·exact ihm l h
        ·refine ihm _ ?_
         rw [List.getElem?_append_left (List.getElem?_eq_some_iff.1 h).1]
         exact h
      exact u0 _ _ h
    rw [←hids]
    exact this 4 [k'] rfl
   refine ⟨?_,(hL.rep o ℓ hl d' _ w _).2 ⟨fun j=>match ids[j]? with
    |some k=>ρ k
    |none=> .bool true,fun j=>match ids[j]? with
    |some k=>Fs k
    |none=>fun _=>False, ?_, ?_, ?_⟩,hnd⟩
   ·intro id hid
    obtain ⟨j,hj,rfl⟩:=List.getElem_of_mem hid
    obtain ⟨c,e,h1,h2,h3⟩:=hget j _ (List.getElem?_eq_getElem hj)
    refine ⟨c,h1, ?_⟩
    rw [←Chunk.rn_owned h3]
    exact hL.own o ℓ hl d' e (by rw [hback];exact List.mem_of_getElem? h2)
   ·simp only [h0]
   ·have back: ∀a a',lookK a (number 0 ids)=some a'->(match ids[a']? with
      |some k=>ρ k
      |none=> .bool true)=ρ a:=by
     intro a a' h
     obtain ⟨t,h1,h2⟩:=lookK_number h
     rw [Nat.zero_add] at h2
     subst h2
     rw [h1]
    refine ⟨fun j=> ?_,fun j c hc=> ?_,fun i j c c' hi hj hne ho x hx=> ?_⟩
    ·split
     ·exact hp.one _
     ·rfl
    ·rw [hback] at hc
     have hj:j<ids.length:=by rw [←hlen];exact (List.getElem?_eq_some_iff.1 hc).1
     obtain ⟨c0,e,h1,h2,h3⟩:=hget j _ (List.getElem?_eq_getElem hj)
     rw [hc] at h2
     simp only [Option.some.injEq] at h2
     subst h2
     simp only [List.getElem?_eq_getElem hj]
     exact (Chunk.rn_holds R back h3).2 (hp.holds _ c0 h1)
    ·rw [hback] at hi hj
     have hil:i<ids.length:=by rw [←hlen];exact (List.getElem?_eq_some_iff.1 hi).1
     have hjl:j<ids.length:=by rw [←hlen];exact (List.getElem?_eq_some_iff.1 hj).1
     obtain ⟨c0,e,h1,h2,h3⟩:=hget i _ (List.getElem?_eq_getElem hil)
     obtain ⟨c1,e',g1,g2,g3⟩:=hget j _ (List.getElem?_eq_getElem hjl)
     rw [hi] at h2
     simp only [Option.some.injEq] at h2
     subst h2
     simp only [List.getElem?_eq_getElem hil] at hx
     simp only [List.getElem?_eq_getElem hjl]
     refine hp.sep _ _ c0 c1 h1 g1 (fun e=>hne ?_) (by rw [←Chunk.rn_owned h3];exact ho) x hx
     exact nodup_inj hnd hil hjl e
   ·intro x
    constructor
    ·rintro ⟨id,hid,hx⟩
     obtain ⟨j,hj,rfl⟩:=List.getElem_of_mem hid
     exact ⟨j,by omega,by simp only [List.getElem?_eq_getElem hj];exact hx⟩
    ·rintro ⟨j,hj,hx⟩
     have hjl:j<ids.length:=by omega
     simp only [List.getElem?_eq_getElem hjl] at hx
     exact ⟨_,List.getElem_mem hjl,hx⟩
  ·cases h
 ·cases h
theorem EffOk.seat (hp:HeapOk R ρ H Fs w) (fresh:Nat) {k:Nat} {cs ds:List SV} {o n:Nat} {L:List (Option (O o))} {hole:Option (Int×Nat)} {t:TypeId} (hc:H k=some (.tab cs o n L hole ds t))
  {i:Nat} (hh: ∀m,m≠i->holeAt hole m=none) {d:Option (O o)} {p:Value} {ids:List Nat} (hids: ∀id∈ids,∃c,H id=some c/\ c.owned=true) (hk:k∉ids) {w':World} {b:Nat} {ptrs:List Value}
  (hb:ρ k= .pointer (some ⟨b,0,none⟩)) (hg:w.heap[b]?=some (.cells (denL ρ cs++ptrs++denL ρ ds).toArray t (0,0))) (hg':w'.heap[b]?=some (.cells (denL ρ cs++ptrs.set i p++denL ρ ds).toArray t (0,0))) (hkept:Kept (fun x=>x=b) w w')
  {G:Nat->Prop} (hs:i<n->seatOk R ρ w' none d p G) (hG: ∀x,G x->i<n/\ ∃id∈ids,Fs id x) (v:Value):
  ∃Fs',EffOk R ρ H Fs w fresh ⟨none,(k,some (.tab cs o n (L.set i d) none ds t))::goneU ids⟩ v ρ Fs' w':=by
 obtain ⟨b',ptrs',hb',hg2,⟨hcs,hds,hLn,hpn⟩,Fi,h4,h5,h6,h7⟩:=hp.holds k _ hc
 rw [hb] at hb'
 simp only [Value.pointer.injEq,Option.some.injEq,Addr.mk.injEq,and_true] at hb'
 subst hb'
 rw [hg] at hg2
 have hpp:ptrs'=ptrs:=by
  simp only [Option.some.injEq,Obj.cells.injEq,Array.mk.injEq,and_true] at hg2
  have h1:=congrArg (fun l=>l.drop (denL ρ cs).length) hg2
  simp only [List.append_assoc,List.drop_left] at h1
  have hl:ptrs.length=ptrs'.length:=by
   have:=congrArg List.length h1
   simp only [List.length_append] at this
   omega
  exact ((List.append_inj h1 hl).1).symm
 subst hpp
 have tabk:(Chunk.tab cs o n L hole ds t:Chunk T O).owned=true:=rfl
 have sepk: ∀id∈ids,∀x,Fs id x-> ¬Fs k x:=by
  intro id hid x hx
  obtain ⟨c,h1,h2⟩:=hids id hid
  exact hp.sep id k c _ h1 hc (fun e=>hk (e▸hid)) h2 x hx
 have bk:Fs k b:=(h7 b).2 (.inl rfl)
 let Fs':Nat->Nat->Prop:=fun j=>if j=k then (fun x=>x=b \/ ∃m,(m=i/\ G x) \/(m≠i/\ Fi m x)) else Fs j
 have fk:Fs' k=fun x=>x=b \/ ∃m,(m=i/\ G x) \/(m≠i/\ Fi m x):=if_pos rfl
 have fo: ∀j,j≠k->Fs' j=Fs j:=fun j h=>if_neg h
 have hU: ∀j,updH ((k,some (Chunk.tab cs o n (L.set i d) none ds t))::goneU ids) H j=if j∈ids then none else if j=k then some (.tab cs o n (L.set i d) none ds t) else H j:=fun j=>updH_gone ids _ j
 have stab: ∀j c,H j=some c->j≠k->c.holds R ρ w' (ρ j) (Fs j):=by
  intro j c hj hne
  refine Chunk.holds_stable R (hp.holds j c hj) (fun x hx=>hkept.block x (hp.lt R hj x hx) ?_) hkept.size
  rintro rfl
  exact hp.sep k j _ c hc hj (fun e=>hne e.symm) tabk _ bk hx
 have gk: ∀x,G x-> ¬Fs k x:=fun x hx=>by
  obtain ⟨_,id,hid,h⟩:=hG x hx
  exact sepk id hid x h
 refine ⟨Fs', ?_⟩
 refine ⟨fun s hs=>(by cases hs),fun _ _=>rfl,fun j hj=> ?_,⟨hp.one,fun j c hj=> ?_,fun j j' c c' hj hj' hne ho x hx hx'=> ?_⟩, ?_,fun j hj c hcj x hx=> ?_,fun j hj=> ?_⟩
 ·simp only [List.map_cons,List.mem_cons,not_or] at hj
  exact fo j hj.1
 ·rw [hU] at hj
  split at hj
  ·cases hj
  ·split at hj
   ·rename_i e
    subst e
    simp only [Option.some.injEq] at hj
    subst hj
    rw [fk]
    refine ⟨b,ptrs'.set i p,hb,hg',⟨hcs,hds,by rw [List.length_set];exact hLn,by rw [List.length_set];exact hpn⟩,fun m x=>(m=i/\ G x) \/(m≠i/\ Fi m x), ?_, ?_, ?_, ?_⟩
    ·intro m q hq
     show seatOk R ρ w' none ((L.set i d).getD m none) q _
     by_cases e:m=i
     ·subst e
      have hi:m<n:=by
       have:=(List.getElem?_eq_some_iff.1 hq).1
       rw [List.length_set] at this
       omega
      rw [List.getElem?_set_self (by omega)] at hq
      simp only [Option.some.injEq] at hq
      subst hq
      have:(L.set m d).getD m none=d:=by simp [List.getD_eq_getElem?_getD,List.getElem?_set_self (show m<L.length by omega)]
      rw [this]
      have hset:(fun x=>(m=m/\ G x) \/(m≠m/\ Fi m x))=G:=by
       funext x
       exact propext ⟨fun h=>h.elim (·.2) fun h=>absurd rfl h.1,fun h=> .inl ⟨rfl,h⟩⟩
      show seatOk R ρ w' none d p (fun x=>(m=m/\ G x) \/(m≠m/\ Fi m x))
      rw [hset]
      exact hs hi
     ·rw [List.getElem?_set_ne (fun g=>e g.symm)] at hq
      have hm4:=h4 m q hq
      rw [hh m e] at hm4
      have:(L.set i d).getD m none=L.getD m none:=by simp [List.getD_eq_getElem?_getD,List.getElem?_set_ne (fun g=>e g.symm)]
      rw [this]
      have hset:(fun x=>(m=i/\ G x) \/(m≠i/\ Fi m x))=Fi m:=by
       funext x
       exact propext ⟨fun h=>h.elim (fun h=>absurd h.1 e) (·.2),fun h=> .inr ⟨e,h⟩⟩
      show seatOk R ρ w' none _ q (fun x=>(m=i/\ G x) \/(m≠i/\ Fi m x))
      rw [hset]
      refine seatOk_stable R hm4 fun x hx=>hkept.block x ?_ (h6 m x hx).1
      exact hp.lt R hc x ((h7 x).2 (.inr ⟨m,hx⟩))
    ·rintro m m' x hmm (⟨e1,h1⟩|⟨e1,h1⟩) (⟨e2,h2⟩|⟨e2,h2⟩)
     ·exact hmm (e1.trans e2.symm)
     ·exact gk x h1 ((h7 x).2 (.inr ⟨m',h2⟩))
     ·exact gk x h2 ((h7 x).2 (.inr ⟨m,h1⟩))
     ·exact h5 m m' x hmm h1 h2
    ·rintro m x (⟨e1,h1⟩|⟨e1,h1⟩)
     ·exact ⟨fun e=>gk x h1 (e▸bk),e1▸(hG x h1).1⟩
     ·exact h6 m x h1
    ·intro x;exact Iff.rfl
   ·rename_i hne
    rw [fo j hne]
    exact stab j c hj hne
 ·rw [hU] at hj hj'
  split at hj
  ·cases hj
  ·rename_i hji
   split at hj'
   ·cases hj'
   ·rename_i hji'
    split at hj
    ·rename_i e
     subst e
     rw [if_neg (fun e=>hne e.symm)] at hj'
     rw [fk] at hx
     rw [fo j' (fun e=>hne e.symm)] at hx'
     rcases hx with rfl|⟨m,⟨_,h1⟩|⟨_,h1⟩⟩
     ·exact hp.sep j j' _ c' hc hj' hne tabk _ bk hx'
     ·obtain ⟨_,id,hid,h⟩:=hG x h1
      obtain ⟨c2,h2,h3⟩:=hids id hid
      exact hp.sep id j' c2 c' h2 hj' (fun e=>hji' (e▸hid)) h3 x h hx'
     ·exact hp.sep j j' _ c' hc hj' hne tabk x ((h7 x).2 (.inr ⟨m,h1⟩)) hx'
    ·rename_i hjk
     rw [fo j hjk] at hx
     split at hj'
     ·rename_i e
      subst e
      rw [fk] at hx'
      rcases hx' with rfl|⟨m,⟨_,h1⟩|⟨_,h1⟩⟩
      ·exact hp.sep j j' c _ hj hc hne ho _ hx bk
      ·obtain ⟨_,id,hid,h⟩:=hG x h1
       obtain ⟨c2,h2,h3⟩:=hids id hid
       exact hp.sep j id c c2 hj h2 (fun e=>hji (e▸hid)) ho x hx h
      ·exact hp.sep j j' c _ hj hc hne ho x hx ((h7 x).2 (.inr ⟨m,h1⟩))
     ·rename_i hjk'
      rw [fo j' hjk'] at hx'
      exact hp.sep j j' c c' hj hj' hne ho x hx hx'
 ·refine hkept.mono ?_
  rintro x _ rfl
  exact ⟨k,by simp,⟨_,hc,rfl⟩,bk⟩
 ·rw [hU] at hcj
  split at hcj
  ·cases hcj
  ·split at hcj
   ·rename_i e
    subst e
    rw [fk] at hx
    rcases hx with rfl|⟨m,⟨_,h1⟩|⟨_,h1⟩⟩
    ·exact .inr (.inl ⟨j,by simp,⟨_,hc,rfl⟩,bk⟩)
    ·obtain ⟨_,id,hid,h⟩:=hG x h1
     exact .inr (.inl ⟨id,by simp [keys_gone,hid],hids id hid,h⟩)
    ·exact .inr (.inl ⟨j,by simp,⟨_,hc,rfl⟩,(h7 x).2 (.inr ⟨m,h1⟩)⟩)
   ·rename_i hji hjk
    simp only [List.map_cons,List.mem_cons,keys_gone] at hj
    rcases hj with e|e
    ·exact absurd e hjk
    ·exact absurd e hji
 ·simp only [List.map_cons,List.mem_cons,keys_gone] at hj
  rcases hj with rfl|hj
  ·exact .inl ⟨_,hc,rfl⟩
  ·exact .inl (hids j hj)
end
end
end Go.Sx