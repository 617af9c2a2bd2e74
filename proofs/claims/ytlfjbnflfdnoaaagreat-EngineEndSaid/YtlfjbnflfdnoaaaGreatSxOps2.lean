/-
  Part of a proof over the seat YtlfjbnflfdnoaaaGreat: printed by a small program or typed by hand.
-/
import Derived.Test.YtlfjbnflfdnoaaaGreatSxOps
/-
 Sx:operations that look at memory,or make some.
-/
namespace Go.Sx
section
variable {T:Nat->Enc} {O:Nat->Type} (R:Objs O)
section
variable {ρ:Env} {H:Nat->Option (Chunk T O)} {Fs:Nat->Nat->Prop} {w w':World} {fresh:Nat} {K:Eff T O->Prop} (X:Ctx T O)
def Free (H:Nat->Option (Chunk T O)) (fresh:Nat):Prop:= ∀j,fresh<=j->j<fresh+stride->H j=none/\ ∀k c,H k=some c->j∉c.ids
theorem Free.at (h:Free H fresh) {i:Nat} (hi:i<stride):H (fresh+i)=none/\ ∀k c,H k=some c->k≠fresh+i/\ ∀id∈c.ids,id≠fresh+i:=by
 obtain ⟨h1,h2⟩:=h (fresh+i) (by omega) (by omega)
 refine ⟨h1,fun k c hk=>⟨fun e=> ?_,fun id hid e=>h2 k c hk (by rw [←e];exact hid)⟩⟩
 rw [e,h1] at hk
 cases hk
theorem kept_alloc (w:World) (o:Obj):Kept (fun _=>False) w (w.alloc o):=
 ⟨rfl,rfl,rfl,by simp,fun b hb _=>heap_alloc_old w o b hb⟩
theorem run_newVar (P:Program) (t:TypeId) (v:Value) (w:World):(newVar t v).run P w= .ok ⟨w.heap.size,0,none⟩ (w.alloc (.cells v.cells t)):=rfl
theorem alloc_cells (hp:HeapOk R ρ H Fs w) (hf:Free H fresh) (cs:List SV) (t:TypeId) (hc:cs.all SV.cell=true) (hi: ∀id∈idsL cs,¬(fresh<=id/\ id<fresh+stride))
  (h:(Tree.ret { val:=some (.ptr fresh 0),upd:=[(fresh,some (.cells cs t))] }:Tree (Eff T O)).holds K):
  OpOk R ρ H Fs w fresh K (.pointer (some ⟨w.heap.size,0,none⟩)) (w.alloc (.cells (denL ρ cs).toArray t)):=by
 have f0:=hf.at (i:=0) (by unfold stride;omega)
 refine ⟨_,_,_,h,EffOk.alloc R hp (by simpa using f0.1) (by simpa using f0.2) (kept_alloc w _) (.cells cs t) (.pointer (some ⟨w.heap.size,0,none⟩)) _ (fun x=>x=w.heap.size) _ rfl ?_ ?_ ?_⟩
 ·refine ⟨w.heap.size,rfl, ?_,hc,fun _=>Iff.rfl⟩
  rw [heap_alloc_new,denL_congr (ρ:=setF ρ fresh _) (ρ':=ρ) cs]
  intro id hid
  exact setF_other ρ _ (fun e=>hi id hid ⟨by omega,by unfold stride;omega⟩)
 ·intro x hx;omega
 ·intro s hs
  simp only [Option.some.injEq] at hs
  subst hs
  simp [SV.den,setF_same,addrOf,Addr.add]
theorem EffOk.moved (hp:HeapOk R ρ H Fs w) (hf:Free H fresh) {k:Nat} {c:Chunk T O} (hc:H k=some c) (ho:c.owned=true) (hk:Kept (Fs k) w w') (c':Chunk T O) (u v:Value) (F:Nat->Prop) (sv:Option SV)
  (hu:u.oneCell'=true) (hc':c'.holds R (setF ρ fresh u) w' u F) (hF: ∀x,F x->w.heap.size<=x \/Fs k x) (hv: ∀s,sv=some s->v=s.den (setF ρ fresh u)):
  EffOk R ρ H Fs w fresh ⟨sv,[(k,none),(fresh,some c')]⟩ v (setF ρ fresh u) (setF Fs fresh F) w':=by
 have f0:H fresh=none/\ ∀k c,H k=some c->k≠fresh/\ ∀id∈c.ids,id≠fresh:=by simpa using hf.at (i:=0) (by unfold stride;omega)
 have hkf:k≠fresh:=(f0.2 k c hc).1
 have hU: ∀j,updH [(k,none),(fresh,some c')] H j=if j=fresh then some c' else if j=k then none else H j:=fun j=>rfl
 refine ⟨hv,fun j hj=>setF_other ρ u (fun e=>hj ?_),fun j hj=> ?_,⟨fun j=> ?_,fun j d hd=> ?_,fun j j' d d' hd hd' hne hod x hx=> ?_⟩, ?_, ?_, ?_⟩
 ·subst e;unfold stride;omega
 ·simp only [List.map_cons,List.map_nil,List.mem_cons,List.not_mem_nil,or_false,not_or] at hj
  exact setF_other Fs F hj.2
 ·by_cases e:j=fresh
  ·subst e;rw [setF_same];exact hu
  ·rw [setF_other ρ u e];exact hp.one j
 ·rw [hU] at hd
  by_cases e:j=fresh
  ·subst e
   rw [if_pos rfl] at hd
   simp only [Option.some.injEq] at hd
   subst hd
   rw [setF_same,setF_same]
   exact hc'
  ·rw [if_neg e] at hd
   split at hd
   ·cases hd
   ·rename_i hjk
    rw [setF_other ρ u e,setF_other Fs F e]
    refine Chunk.holds_congr R (Chunk.holds_stable R (hp.holds j d hd) (fun x hx=>hk.block x (hp.lt R hd x hx) (fun hxk=> ?_)) hk.size) (fun id hid=>(setF_other ρ u ((f0.2 j d hd).2 id hid)).symm)
    exact hp.sep k j c d hc hd (fun h=>hjk h.symm) ho x hxk hx
 ·rw [hU] at hd hd'
  by_cases e:j=fresh
  ·by_cases e':j'=fresh
   ·exact absurd (e.trans e'.symm) hne
   ·rw [if_neg e'] at hd'
    split at hd'
    ·cases hd'
    ·rename_i hjk
     rw [setF_other Fs F e']
     subst e
     rw [setF_same] at hx
     intro hx'
     rcases hF x hx with h|h
     ·have:=hp.lt R hd' x hx';omega
     ·exact hp.sep k j' c d' hc hd' (fun h=>hjk h.symm) ho x h hx'
  ·rw [if_neg e] at hd
   split at hd
   ·cases hd
   ·rename_i hjk
    rw [setF_other Fs F e] at hx
    by_cases e':j'=fresh
    ·subst e'
     rw [setF_same]
     intro hx'
     rcases hF x hx' with h|h
     ·have:=hp.lt R hd x hx;omega
     ·exact hp.sep k j c d hc hd (fun h=>hjk h.symm) ho x h hx
    ·rw [if_neg e'] at hd'
     split at hd'
     ·cases hd'
     ·rw [setF_other Fs F e']
      exact hp.sep j j' d d' hd hd' hne hod x hx
 ·exact hk.mono (fun x _ hx=>⟨k,by simp,⟨c,hc,ho⟩,hx⟩)
 ·intro j hj d hd x hx
  rw [hU] at hd
  by_cases e:j=fresh
  ·subst e
   rw [setF_same] at hx
   rcases hF x hx with h|h
   ·exact .inl h
   ·exact .inr (.inl ⟨k,by simp,⟨c,hc,ho⟩,h⟩)
  ·simp only [List.map_cons,List.map_nil,List.mem_cons,List.not_mem_nil,or_false] at hj
   rcases hj with rfl|hj
   ·rw [if_neg e,if_pos rfl] at hd;cases hd
   ·exact absurd hj e
 ·intro j hj
  simp only [List.map_cons,List.map_nil,List.mem_cons,List.not_mem_nil,or_false] at hj
  rcases hj with rfl|rfl
  ·exact .inl ⟨c,hc,ho⟩
  ·exact .inr ⟨by omega,by unfold stride;omega⟩
theorem EffOk.shared (hp:HeapOk R ρ H Fs w) (hf:Free H fresh) {k:Nat} {c:Chunk T O} (hc:H k=some c) (ho:c.owned=false) (c':Chunk T O) (ho':c'.owned=false) (u v:Value) (F:Nat->Prop) (sv:Option SV)
  (hu:u.oneCell'=true) (hc':c'.holds R (setF ρ fresh u) w u F) (hF: ∀x,F x->Fs k x) (hv: ∀s,sv=some s->v=s.den (setF ρ fresh u)):
  EffOk R ρ H Fs w fresh ⟨sv,[(fresh,some c')]⟩ v (setF ρ fresh u) (setF Fs fresh F) w:=by
 have f0:H fresh=none/\ ∀k c,H k=some c->k≠fresh/\ ∀id∈c.ids,id≠fresh:=by simpa using hf.at (i:=0) (by unfold stride;omega)
 have hU: ∀j,updH [(fresh,some c')] H j=if j=fresh then some c' else H j:=fun j=>rfl
 refine ⟨hv,fun j hj=>setF_other ρ u (fun e=>hj ?_),fun j hj=> ?_,⟨fun j=> ?_,fun j d hd=> ?_,fun j j' d d' hd hd' hne hod x hx=> ?_⟩,Kept.refl _ _, ?_, ?_⟩
 ·subst e;unfold stride;omega
 ·simp only [List.map_cons,List.map_nil,List.mem_singleton] at hj
  exact setF_other Fs F hj
 ·by_cases e:j=fresh
  ·subst e;rw [setF_same];exact hu
  ·rw [setF_other ρ u e];exact hp.one j
 ·rw [hU] at hd
  by_cases e:j=fresh
  ·subst e
   rw [if_pos rfl] at hd
   simp only [Option.some.injEq] at hd
   subst hd
   rw [setF_same,setF_same]
   exact hc'
  ·rw [if_neg e] at hd
   rw [setF_other ρ u e,setF_other Fs F e]
   exact Chunk.holds_congr R (hp.holds j d hd) (fun id hid=>(setF_other ρ u ((f0.2 j d hd).2 id hid)).symm)
 ·rw [hU] at hd hd'
  by_cases e:j=fresh
  ·subst e
   rw [if_pos rfl] at hd
   simp only [Option.some.injEq] at hd
   subst hd
   rw [ho'] at hod;cases hod
  ·rw [if_neg e] at hd
   rw [setF_other Fs F e] at hx
   by_cases e':j'=fresh
   ·subst e'
    rw [setF_same]
    intro hx'
    have hne':j≠k:=fun e=>by subst e;rw [hc] at hd;simp only [Option.some.injEq] at hd;subst hd;rw [ho] at hod;cases hod
    exact hp.sep j k d c hd hc hne' hod x hx (hF x hx')
   ·rw [if_neg e'] at hd'
    rw [setF_other Fs F e']
    exact hp.sep j j' d d' hd hd' hne hod x hx
 ·intro j hj d hd x hx
  simp only [List.map_cons,List.map_nil,List.mem_singleton] at hj
  subst hj
  rw [hU,if_pos rfl] at hd
  simp only [Option.some.injEq] at hd
  subst hd
  rw [setF_same] at hx
  exact .inr (.inr ⟨ho',k,c,hc,ho,hF x hx⟩)
 ·intro j hj
  simp only [List.map_cons,List.map_nil,List.mem_singleton] at hj
  subst hj
  exact .inr ⟨by omega,by unfold stride;omega⟩
theorem EffOk.froze (hp:HeapOk R ρ H Fs w) (hf:Free H fresh) {k:Nat} {c:Chunk T O} (hc:H k=some c) (ho:c.owned=true) (c1 c':Chunk T O) (h1:c1.owned=false) (ho':c'.owned=false) (u v:Value) (F:Nat->Prop) (sv:Option SV)
  (hu:u.oneCell'=true) (hc1:c1.holds R (setF ρ fresh u) w (ρ k) (Fs k)) (hc':c'.holds R (setF ρ fresh u) w u F) (hF: ∀x,F x->Fs k x) (hv: ∀s,sv=some s->v=s.den (setF ρ fresh u)):
  EffOk R ρ H Fs w fresh ⟨sv,[(k,some c1),(fresh,some c')]⟩ v (setF ρ fresh u) (setF Fs fresh F) w:=by
 have f0:H fresh=none/\ ∀k c,H k=some c->k≠fresh/\ ∀id∈c.ids,id≠fresh:=by simpa using hf.at (i:=0) (by unfold stride;omega)
 have hkf:k≠fresh:=(f0.2 k c hc).1
 have hU: ∀j,updH [(k,some c1),(fresh,some c')] H j=if j=fresh then some c' else if j=k then some c1 else H j:=fun j=>rfl
 refine ⟨hv,fun j hj=>setF_other ρ u (fun e=>hj ?_),fun j hj=> ?_,⟨fun j=> ?_,fun j d hd=> ?_,fun j j' d d' hd hd' hne hod x hx=> ?_⟩,Kept.refl _ _, ?_, ?_⟩
 ·subst e;unfold stride;omega
 ·simp only [List.map_cons,List.map_nil,List.mem_cons,List.not_mem_nil,or_false,not_or] at hj
  exact setF_other Fs F hj.2
 ·by_cases e:j=fresh
  ·subst e;rw [setF_same];exact hu
  ·rw [setF_other ρ u e];exact hp.one j
 ·rw [hU] at hd
  by_cases e:j=fresh
  ·subst e
   rw [if_pos rfl] at hd
   simp only [Option.some.injEq] at hd
   subst hd
   rw [setF_same,setF_same]
   exact hc'
  ·rw [if_neg e] at hd
   split at hd
   ·rename_i hjk
    subst hjk
    simp only [Option.some.injEq] at hd
    subst hd
    rw [setF_other ρ u e,setF_other Fs F e]
    exact hc1
   ·rw [setF_other ρ u e,setF_other Fs F e]
    exact Chunk.holds_congr R (hp.holds j d hd) (fun id hid=>(setF_other ρ u ((f0.2 j d hd).2 id hid)).symm)
 ·rw [hU] at hd hd'
  by_cases e:j=fresh
  ·subst e
   rw [if_pos rfl] at hd
   simp only [Option.some.injEq] at hd
   subst hd
   rw [ho'] at hod;cases hod
  ·rw [if_neg e] at hd
   split at hd
   ·simp only [Option.some.injEq] at hd
    subst hd
    rw [h1] at hod;cases hod
   ·rename_i hjk
    rw [setF_other Fs F e] at hx
    by_cases e':j'=fresh
    ·subst e'
     rw [setF_same]
     intro hx'
     exact hp.sep k j c d hc hd (fun h=>hjk h.symm) ho x (hF x hx') hx
    ·rw [if_neg e'] at hd'
     rw [setF_other Fs F e']
     split at hd'
     ·rename_i hjk'
      subst hjk'
      exact hp.sep j j' d c hd hc hne hod x hx
     ·exact hp.sep j j' d d' hd hd' hne hod x hx
 ·intro j hj d hd x hx
  by_cases e:j=fresh
  ·subst e
   rw [setF_same] at hx
   exact .inr (.inl ⟨k,by simp,⟨c,hc,ho⟩,hF x hx⟩)
  ·simp only [List.map_cons,List.map_nil,List.mem_cons,List.not_mem_nil,or_false] at hj
   rcases hj with rfl|hj
   ·rw [setF_other Fs F e] at hx
    exact .inr (.inl ⟨j,by simp,⟨c,hc,ho⟩,hx⟩)
   ·exact absurd hj e
 ·intro j hj
  simp only [List.map_cons,List.map_nil,List.mem_cons,List.not_mem_nil,or_false] at hj
  rcases hj with rfl|rfl
  ·exact .inl ⟨c,hc,ho⟩
  ·exact .inr ⟨by omega,by unfold stride;omega⟩
theorem valsL_cons (E:Enc) (a:E.α) (L:List E.α):valsL E (a::L)=E.vals a++valsL E L:=rfl
theorem vals_len (E:Enc) (a:E.α):(E.vals a).length=E.n:=by simp [Enc.vals,length_denL,E.len]
theorem valsL_len (E:Enc) (L:List E.α):(valsL E L).length=L.length*E.n:=by
 induction L with
 |nil=>simp [valsL]
 |cons a L ih=>rw [valsL_cons,List.length_append,vals_len,ih,List.length_cons,Nat.add_mul];omega
theorem enc_den (E:Enc) (ρ:Env) (a:E.α):denL ρ (E.enc a)=E.vals a:=by
 refine denL_congr _ fun id hid=> ?_
 obtain ⟨c,hc,hi⟩:=mem_idsL.1 hid
 obtain ⟨v,rfl,_⟩:=E.cell a c hc
 simp [SV.ids] at hi
theorem vals_cell (E:Enc) (a:E.α): ∀u∈E.vals a,u.oneCell'=true:=by
 intro u hu
 simp only [Enc.vals,denL_eq_map,List.mem_map] at hu
 obtain ⟨c,hc,rfl⟩:=hu
 obtain ⟨v,rfl,hv⟩:=E.cell a c hc
 exact hv
theorem valsL_cell (E:Enc) (L:List E.α): ∀u∈valsL E L,u.oneCell'=true:=by
 intro u hu
 simp only [valsL,List.mem_flatMap] at hu
 obtain ⟨a,_,ha⟩:=hu
 exact vals_cell E a u ha
theorem decAll_back (e:Nat): ∀(n:Nat) (cs:List SV) (L:List (T e).α),decAll e n cs=some L->denL ρ cs=valsL (T e) L/\ L.length=n
 |0,cs,L,h=>by
  unfold decAll at h
  split at h
  ·simp only [Option.some.injEq] at h;subst h;exact ⟨rfl,rfl⟩
  ·cases h
 |n+1,cs,L,h=>by
  unfold decAll at h
  split at h
  ·rename_i a l ha hl
   simp only [Option.some.injEq] at h
   subst h
   have h1:=(T e).back _ _ ha
   obtain ⟨h2,h3⟩:=decAll_back e n _ l hl
   refine ⟨?_,by simp [h3]⟩
   rw [valsL_cons,←enc_den (T e) ρ a,h1,←h2,←denL_append,List.take_append_drop]
  ·cases h
theorem zeroT_run {t:TypeId} {z:List SV} (h:zeroT X t=some z): ∃v,(zeroValue t).run X.P w= .ok v w/\ v.cells=(denL ρ z).toArray/\ idsL z=[]:=by
 unfold zeroT at h
 split at h
 ·rename_i i hi
  split at h
  ·rename_i v hv
   simp only [Option.some.injEq] at h
   subst h
   refine ⟨v,by simp [zeroValue,typeInfo,hi,hv], ?_, ?_⟩
   ·rw [denL_eq_map,List.map_map]
    have:(SV.den ρ∘SV.raw)=id:=rfl
    rw [this,List.map_id]
   ·rw [idsL_eq,List.flatMap_eq_nil_iff]
    intro x hx
    simp only [List.mem_map] at hx
    obtain ⟨u,_,rfl⟩:=hx
    rfl
  ·cases h
 ·cases h
theorem alloc_ok {t:TypeId} (h:(allocT X fresh t:Tree (Eff T O)).holds K) (hp:HeapOk R ρ H Fs w) (hf:Free H fresh):
  ∃v w',(Instr.alloc t true (.tuple #[])).run X.P w= .ok v w'/\ OpOk R ρ H Fs w fresh K v w':=by
 unfold allocT at h
 split at h
 ·rename_i z hz
  obtain ⟨zv,hrun,hcells,hids⟩:=zeroT_run (ρ:=ρ) (w:=w) X hz
  have hr:(Instr.alloc t true (.tuple #[])).run X.P w= .ok (.pointer (some ⟨w.heap.size,0,none⟩)) (w.alloc (.cells (denL ρ z).toArray t)):=by
   simp only [Instr.alloc,Sem.run_bind,hrun,Result.andThen_ok,run_newVar,hcells,Sem.run_pure]
  split at h
  ·rename_i hc
   split at h
   ·rename_i e he
    split at h
    ·rename_i n el hu
     split at h
     ·rename_i L hL
      obtain ⟨h1,h2⟩:=decAll_back (ρ:=ρ) e _ z L hL
      have f0:=hf.at (i:=0) (by unfold stride;omega)
      refine ⟨_,_,hr,_,_,_,h,EffOk.alloc R hp (by simpa using f0.1) (by simpa using f0.2) (kept_alloc w _) (.arr e L t) (.pointer (some ⟨w.heap.size,0,none⟩)) _ (fun x=>x=w.heap.size) _ rfl ?_ ?_ ?_⟩
      ·exact ⟨w.heap.size,rfl,by rw [heap_alloc_new,h1],fun _=>Iff.rfl⟩
      ·intro x hx;omega
      ·intro s hs
       simp only [Option.some.injEq] at hs
       subst hs
       simp [SV.den,setF_same,addrOf,Addr.add]
     ·exact h.elim
    ·exact h.elim
   ·exact ⟨_,_,hr,alloc_cells R hp hf z t hc (by rw [hids];simp) h⟩
  ·exact h.elim
 ·exact h.elim
theorem allNil_eq: ∀ {l:List SV},allNil l=true->l=List.replicate l.length (.raw (.pointer none))
 |[],_=>rfl
 |v::l,h=>by
  unfold allNil at h
  split at h
  ·rename_i e;cases e
  ·rename_i l' e
   obtain ⟨rfl,rfl⟩:=List.cons.inj e
   rw [List.length_cons,List.replicate_succ,←allNil_eq h]
  ·cases h
theorem box_ok {t:TypeId} {x:SV} (h:(boxT X fresh t x:Tree (Eff T O)).holds K) (hp:HeapOk R ρ H Fs w) (hf:Free H fresh) (hi: ∀id∈x.ids,¬(fresh<=id/\ id<fresh+stride)):
  ∃v w',(Instr.box t (x.den ρ)).run X.P w= .ok v w'/\ OpOk R ρ H Fs w fresh K v w':=by
 unfold boxT at h
 split at h
 ·rename_i hc
  have hids: ∀id∈idsL x.cells,¬(fresh<=id/\ id<fresh+stride):=by
   intro id hid
   refine hi id ?_
   cases x<;>simp_all [SV.cells,SV.ids,idsL]
  have hrun:(Instr.box t (x.den ρ)).run X.P w= .ok (.pointer (some ⟨w.heap.size,0,none⟩)) (w.alloc (.cells (denL ρ x.cells).toArray t)):=by
   simp only [Instr.box,Sem.run_bind,run_newVar,Result.andThen_ok,cells_den hp.one hc,Sem.run_pure]
  split at h
  ·split at h
   ·exact ⟨_,_,hrun,alloc_cells R hp hf x.cells t hc hids h⟩
   ·rename_i p o n hm
    split at h
    ·rename_i hb
     simp only [Bool.and_eq_true,decide_eq_true_eq] at hb
     obtain ⟨hle,hnil⟩:=hb
     refine ⟨_,_,hrun, ?_⟩
     have f0:=hf.at (i:=0) (by unfold stride;omega)
     have hmid:denL ρ ((x.cells.drop p).take n)=List.replicate n (.pointer none):=by
      have h1:=allNil_eq hnil
      rw [List.length_take,List.length_drop,Nat.min_eq_left (by omega)] at h1
      rw [h1,denL_eq_map,List.map_replicate];rfl
     have hsplit:denL ρ x.cells=denL ρ (x.cells.take p)++List.replicate n (.pointer none)++denL ρ (x.cells.drop (p+n)):=by
      rw [←hmid,←denL_append,←denL_append]
      congr 1
      rw [←List.drop_drop,List.append_assoc,List.take_append_drop,List.take_append_drop]
     have i1: ∀id∈idsL (x.cells.take p),id∈idsL x.cells:=fun id hid=>by
      obtain ⟨v,hv,h⟩:=mem_idsL.1 hid
      exact mem_idsL.2 ⟨v,List.mem_of_mem_take hv,h⟩
     have i2: ∀id∈idsL (x.cells.drop (p+n)),id∈idsL x.cells:=fun id hid=>by
      obtain ⟨v,hv,h⟩:=mem_idsL.1 hid
      exact mem_idsL.2 ⟨v,List.mem_of_mem_drop hv,h⟩
     have nf: ∀id,¬(fresh<=id/\ id<fresh+stride)->id≠fresh:=fun id h e=>h ⟨by omega,by unfold stride;omega⟩
     refine ⟨_,_,_,h,EffOk.alloc R hp (by simpa using f0.1) (by simpa using f0.2) (kept_alloc w _) (.tab (x.cells.take p) o n (List.replicate n none) none (x.cells.drop (p+n)) t) (.pointer (some ⟨w.heap.size,0,none⟩)) _ (fun x=>x=w.heap.size) _ rfl ?_ ?_ ?_⟩
     ·refine ⟨w.heap.size,List.replicate n (.pointer none),rfl, ?_,⟨?_, ?_,List.length_replicate,List.length_replicate⟩,fun _ _=>False, ?_,fun _ _ _ _ h=>h.elim,fun _ _ h=>h.elim,fun x=>⟨.inl,fun h=>h.elim id fun ⟨_,h⟩=>h.elim⟩⟩
      ·rw [heap_alloc_new,hsplit,denL_congr (ρ:=setF ρ fresh _) (ρ':=ρ) (x.cells.take p) (fun id hid=>setF_other ρ _ (nf id (hids id (i1 id hid)))),denL_congr (ρ:=setF ρ fresh _) (ρ':=ρ) (x.cells.drop (p+n)) (fun id hid=>setF_other ρ _ (nf id (hids id (i2 id hid))))]
      ·rw [List.all_eq_true] at hc ⊢
       exact fun y hy=>hc y (List.mem_of_mem_take hy)
      ·rw [List.all_eq_true] at hc ⊢
       exact fun y hy=>hc y (List.mem_of_mem_drop hy)
      ·intro j q hq
       rw [List.getElem?_replicate] at hq
       split at hq
       ·rename_i hj
        simp only [Option.some.injEq] at hq
        subst hq
        rw [show (List.replicate n (none:Option (O o))).getD j none=none by simp [List.getD_eq_getElem?_getD,List.getElem?_replicate,hj]]
        exact ⟨rfl,fun _ h=>h⟩
       ·cases hq
     ·intro x hx;omega
     ·intro s hs
      simp only [Option.some.injEq] at hs
      subst hs
      simp [SV.den,setF_same,addrOf,Addr.add]
    ·exact h.elim
  ·rename_i p e n hm
   split at h
   ·rename_i L hL
    split at h
    ·rename_i hle
     have hle:=of_decide_eq_true hle
     refine ⟨_,_,hrun, ?_⟩
     have f0:=hf.at (i:=0) (by unfold stride;omega)
     obtain ⟨v1,v2⟩:=decAll_back (ρ:=ρ) e n _ L hL
     have hsplit:denL ρ x.cells=denL ρ (x.cells.take p)++valsL (T e) L++denL ρ (x.cells.drop (p+n*(T e).n)):=by
      rw [←v1,←denL_append,←denL_append]
      congr 1
      rw [←List.drop_drop,List.append_assoc,List.take_append_drop,List.take_append_drop]
     have i1: ∀id∈idsL (x.cells.take p),id∈idsL x.cells:=fun id hid=>by
      obtain ⟨v,hv,h⟩:=mem_idsL.1 hid
      exact mem_idsL.2 ⟨v,List.mem_of_mem_take hv,h⟩
     have i2: ∀id∈idsL (x.cells.drop (p+n*(T e).n)),id∈idsL x.cells:=fun id hid=>by
      obtain ⟨v,hv,h⟩:=mem_idsL.1 hid
      exact mem_idsL.2 ⟨v,List.mem_of_mem_drop hv,h⟩
     have nf: ∀id,¬(fresh<=id/\ id<fresh+stride)->id≠fresh:=fun id h e=>h ⟨by omega,by unfold stride;omega⟩
     refine ⟨_,_,_,h,EffOk.alloc R hp (by simpa using f0.1) (by simpa using f0.2) (kept_alloc w _) (.mix (x.cells.take p) e n L (x.cells.drop (p+n*(T e).n)) t) (.pointer (some ⟨w.heap.size,0,none⟩)) _ (fun x=>x=w.heap.size) _ rfl ?_ ?_ ?_⟩
     ·refine ⟨w.heap.size,rfl, ?_,⟨?_, ?_,v2⟩,fun _=>Iff.rfl⟩
      ·rw [heap_alloc_new,hsplit,denL_congr (ρ:=setF ρ fresh _) (ρ':=ρ) (x.cells.take p) (fun id hid=>setF_other ρ _ (nf id (hids id (i1 id hid)))),denL_congr (ρ:=setF ρ fresh _) (ρ':=ρ) (x.cells.drop (p+n*(T e).n)) (fun id hid=>setF_other ρ _ (nf id (hids id (i2 id hid))))]
      ·rw [List.all_eq_true] at hc ⊢
       exact fun y hy=>hc y (List.mem_of_mem_take hy)
      ·rw [List.all_eq_true] at hc ⊢
       exact fun y hy=>hc y (List.mem_of_mem_drop hy)
     ·intro x hx;omega
     ·intro s hs
      simp only [Option.some.injEq] at hs
      subst hs
      simp [SV.den,setF_same,addrOf,Addr.add]
    ·exact h.elim
   ·exact h.elim
 ·exact h.elim
theorem foldl_set (new:List Value): ∀(cells:Array Value) (off k:Nat),off+k+new.length<=cells.size→
  (new.zipIdx k).foldl (fun cs (p:Value×Nat)=>cs.setIfInBounds (off+p.2) p.1) cells=(cells.toList.take (off+k)++new++cells.toList.drop (off+k+new.length)).toArray:=by
 induction new with
 |nil=>intro cells off k h;simp
 |cons v new ih=>
  intro cells off k h
  simp only [List.length_cons] at h
  rw [List.zipIdx_cons,List.foldl_cons,ih _ _ _ (by simp;omega)]
  congr 1
  have e:=list_seg_step cells.toList (off+k) v new (by simp;omega)
  simpa [Array.toList_setIfInBounds,Nat.add_assoc] using e
def PartsOk (ρ:Env):List (Nat×Option SV)->List (Nat×Value)->Prop
 |[],[]=>True
 |(i,v)::l,(j,u)::m=>i=j/\ (∀s,v=some s->u=s.den ρ)/\ PartsOk ρ l m
 |_,_=>False
theorem fill_ok (hone: ∀k,(ρ k).oneCell'=true) (place:Nat->Option (Nat×Nat)): ∀(parts:List (Nat×Option SV)) (vals:List (Nat×Value)) (cs cs':List SV),
  PartsOk ρ parts vals->fillT place cs parts=some cs'->Instr.fill place (denL ρ cs).toArray vals=some (denL ρ cs').toArray
 |[],vals,cs,cs',hv,h=>by
  cases vals with
  |nil=>simp only [fillT,Option.some.injEq] at h;subst h;rfl
  |cons p l=>exact hv.elim
 |(i,none)::parts,vals,cs,cs',hv,h=>by simp [fillT] at h
 |(i,some v)::parts,vals,cs,cs',hv,h=>by
  cases vals with
  |nil=>exact hv.elim
  |cons p l=>
   obtain ⟨i',v'⟩:=p
   obtain ⟨rfl,h1,hv⟩:=hv
   obtain rfl:=h1 v rfl
   simp only [fillT] at h
   unfold Instr.fill
   split at h
   ·rename_i off n hpl
    simp only [hpl]
    split at h
    ·rename_i hle
     simp only [Bool.and_eq_true,decide_eq_true_eq] at hle
     obtain ⟨hle,hc⟩:=hle
     have hcells:=cells_den hone hc
     have hsz:(SV.den ρ v).cells.size=n:=by rw [hcells];simp [length_denL,hle.1]
     rw [if_neg (by rw [hsz];simp [length_denL];omega)]
     have hfold:((SV.den ρ v).cells.zipIdx.foldl (fun cs (p:Value×Nat)=>cs.setIfInBounds (off+p.2) p.1) (denL ρ cs).toArray)=(denL ρ (splice cs off v.cells)).toArray:=by
      rw [hcells,←Array.foldl_toList,Array.toList_zipIdx]
      have:=foldl_set (denL ρ v.cells) (denL ρ cs).toArray off 0 (by simp [length_denL];omega)
      simp only [Nat.add_zero] at this
      rw [this,denL_splice]
      simp [length_denL]
     have:=fill_ok hone place parts l _ cs' hv h
     rw [←hfold] at this
     exact this
    ·cases h
   ·cases h
end
end
end Go.Sx