/-
  Part of a proof over the seat YtlfjbnflfdnoaaaGreat: printed by a small program or typed by hand.
-/
import Derived.Test.YtlfjbnflfdnoaaaGreatSxRegion2
import Derived.Scope
import Derived.Sort.LoopGhostIn
/-
 Sx:a state that tells less:the chunks may bear other numbers.
-/
namespace Go.Sx
section
variable {T:Nat->Enc} {O:Nat->Type} (R:Objs O)
theorem one2one_inj {B:List (Nat×Chunk T O)} {j:Nat}: ∀ {π:List (Nat×Nat)} {k k':Nat},one2one B π=true->(k,j)∈π->(k',j)∈π->k=k' \/(roAt B k=true/\ roAt B k'=true)
 |[],_,_,_,h,_=>by simp at h
 |(i,i')::π,k,k',ho,h,h'=>by
  simp only [one2one,Bool.and_eq_true,List.all_eq_true,bne_iff_ne,Bool.or_eq_true] at ho
  simp only [List.mem_cons,Prod.mk.injEq] at h h'
  rcases h with ⟨rfl,rfl⟩|h<;>rcases h' with ⟨h1,h2⟩|h'
  ·exact .inl h1.symm
  ·rcases (ho.1 _ h').2 with h3|h3
   ·exact absurd rfl h3
   ·exact .inr h3
  ·subst h1;subst h2
   rcases (ho.1 _ h).2 with h3|h3
   ·exact absurd rfl h3
   ·exact .inr ⟨h3.2,h3.1⟩
  ·exact one2one_inj ho.2 h h'
theorem fixes_self {m k j:Nat} (hk:k<m): ∀ {π:List (Nat×Nat)},fixes m π=true->lookK k π=some j->j=k
 |[],_,h=>by simp [lookK] at h
 |(i,i')::π,hf,h=>by
  simp only [fixes,Bool.and_eq_true,Bool.or_eq_true,decide_eq_true_eq,beq_iff_eq] at hf
  simp only [lookK] at h
  split at h
  ·rename_i hi
   simp only [Option.some.injEq] at h
   omega
  ·exact fixes_self hk hf.2 h
theorem metH_look {π:List (Nat×Nat)} {B:List (Nat×Chunk T O)} {k:Nat}: ∀ {h:List (Nat×Chunk T O)} {c:Chunk T O},metH π B h->lookK k h=some c-> ∃j c',lookK k π=some j/\ lookK j B=some c'/\ c.rn π=some c'
 |[],_,_,h=>by simp [lookK] at h
 |(i,d)::l,c,hm,h=>by
  simp only [metH] at hm
  simp only [lookK] at h
  split at h
  ·rename_i hi
   subst hi
   simp only [Option.some.injEq] at h
   subst h
   obtain ⟨hm,_⟩:=hm
   split at hm
   ·rename_i j hj
    split at hm
    ·rename_i c' d' hc hd
     exact ⟨j,c',hj,hc,by rw [hd,Chunk.same_eq _ _ hm]⟩
    ·exact hm.elim
   ·exact hm.elim
  ·exact metH_look hm.2 h
theorem metT_len {π:List (Nat×Nat)}: ∀ {l l':List (Option SV)},metT π l l'->l.length=l'.length
 |[],[],_=>rfl
 |[],_::_,h=>by simp [metT] at h
 |none::l,[],h=>by simp [metT] at h
 |some _::l,[],h=>by simp [metT] at h
 |none::l,_::l',h=>by
  simp only [metT] at h
  simp [metT_len h]
 |some _::l,some _::l',h=>by
  simp only [metT] at h
  simp [metT_len h.2]
 |some _::l,none::l',h=>by simp [metT] at h
theorem metT_look {π:List (Nat×Nat)}: ∀ {l l':List (Option SV)} {i:Nat} {v:SV},metT π l l'->getT l i=some v-> ∃u,getT l' i=some u/\ v.rn π=some u
 |[],_,i,v,_,h=>by simp [getT] at h
 |none::l,[],i,v,h,_=>by simp [metT] at h
 |some _::l,[],i,v,h,_=>by simp [metT] at h
 |none::l,x::l',0,v,_,h=>by simp [getT] at h
 |none::l,x::l',i+1,v,hm,h=>by
  simp only [metT] at hm
  simp only [getT] at h ⊢
  exact metT_look hm h
 |some a::l,some b::l',0,v,hm,h=>by
  simp only [metT] at hm
  simp only [getT,Option.some.injEq] at h ⊢
  subst h
  obtain ⟨hm,_⟩:=hm
  split at hm
  ·rename_i u hu
   exact ⟨b,rfl,by rw [hu,SV.same_eq _ _ hm]⟩
  ·exact hm.elim
 |some a::l,some b::l',i+1,v,hm,h=>by
  simp only [metT] at hm
  simp only [getT] at h ⊢
  exact metT_look hm.2 h
 |some a::l,none::l',i,v,hm,_=>by simp [metT] at hm
def via {α:Type} (z:α) (π:List (Nat×Nat)) (f:Nat->α) (k:Nat):α:=match lookK k π with
 |some j=>f j
 |none=>z
theorem via_some {α:Type} {z:α} {π:List (Nat×Nat)} {f:Nat->α} {k j:Nat} (h:lookK k π=some j):via z π f k=f j:=by simp [via,h]
mutual
theorem SV.rn_has {π:List (Nat×Nat)}: ∀(v v':SV),v.rn π=some v'-> ∀id∈v.ids,∃j,lookK id π=some j
 | .raw _,v',e=>by simp [SV.ids]
 | .ptr k off,v',e=>by
  simp only [SV.rn,Option.map_eq_some_iff] at e
  obtain ⟨k',hk,rfl⟩:=e
  intro id hid;simp [SV.ids] at hid;subst hid;exact ⟨k',hk⟩
 | .elt k i E j,v',e=>by
  simp only [SV.rn,Option.map_eq_some_iff] at e
  obtain ⟨k',hk,rfl⟩:=e
  intro id hid;simp [SV.ids] at hid;subst hid;exact ⟨k',hk⟩
 | .own k,v',e=>by
  simp only [SV.rn,Option.map_eq_some_iff] at e
  obtain ⟨k',hk,rfl⟩:=e
  intro id hid;simp [SV.ids] at hid;subst hid;exact ⟨k',hk⟩
 | .view k lo n E,v',e=>by
  simp only [SV.rn,Option.map_eq_some_iff] at e
  obtain ⟨k',hk,rfl⟩:=e
  intro id hid;simp [SV.ids] at hid;subst hid;exact ⟨k',hk⟩
 | .aview k o n,v',e=>by
  simp only [SV.rn,Option.map_eq_some_iff] at e
  obtain ⟨k',hk,rfl⟩:=e
  intro id hid;simp [SV.ids] at hid;subst hid;exact ⟨k',hk⟩
 | .agg cs,v',e=>by
  simp only [SV.rn,Option.map_eq_some_iff] at e
  obtain ⟨cs',hk,rfl⟩:=e
  simpa only [SV.ids] using rnL_has cs cs' hk
 | .tup cs,v',e=>by
  simp only [SV.rn,Option.map_eq_some_iff] at e
  obtain ⟨cs',hk,rfl⟩:=e
  simpa only [SV.ids] using rnL_has cs cs' hk
 | .iface t v,v',e=>by
  simp only [SV.rn,Option.map_eq_some_iff] at e
  obtain ⟨u,hk,rfl⟩:=e
  simpa only [SV.ids] using SV.rn_has v u hk
 | .fn f cs,v',e=>by
  simp only [SV.rn,Option.map_eq_some_iff] at e
  obtain ⟨cs',hk,rfl⟩:=e
  simpa only [SV.ids] using rnL_has cs cs' hk
 | .bfn f cs,v',e=>by
  simp only [SV.rn,Option.map_eq_some_iff] at e
  obtain ⟨cs',hk,rfl⟩:=e
  simpa only [SV.ids] using rnL_has cs cs' hk
theorem rnL_has {π:List (Nat×Nat)}: ∀(l l':List SV),rnL π l=some l'-> ∀id∈idsL l,∃j,lookK id π=some j
 |[],l',e=>by simp [idsL]
 |v::vs,l',e=>by
  unfold rnL at e
  split at e
  ·rename_i u us hu hus
   intro id hid
   simp only [idsL,List.mem_append] at hid
   rcases hid with hid|hid
   ·exact SV.rn_has v u hu id hid
   ·exact rnL_has vs us hus id hid
  ·cases e
end
structure Met (nf:Nat) (S S':SS T O) (π:List (Nat×Nat)):Prop where
 inj: ∀k k' j c,lookK k π=some j->lookK k' π=some j->S'.get k=some c->c.owned=true->k=k'
 self: ∀k j,k<nf->lookK k π=some j->j=k
 heap: ∀k c,S'.get k=some c-> ∃j c',lookK k π=some j/\ S.get j=some c'/\ c.rn π=some c'
 tmps: ∀i v,getT S'.tmps i=some v-> ∃u,getT S.tmps i=some u/\ v.rn π=some u
 len:S'.tmps.length=S.tmps.length
theorem le_met {nf:Nat} {S S':SS T O} (h:le0 nf S S'): ∃π,Met nf S S' π:=by
 unfold le0 at h
 refine ⟨pairsOf nf S S', ?_⟩
 simp only at h
 generalize pairsOf nf S S'=π at h ⊢
 split at h
 ·rename_i hb
  simp only [Bool.and_eq_true] at hb
  refine ⟨fun k k' j c h1 h2 hc ho=> ?_,fun k j hk hj=>fixes_self hk hb.2 hj,fun k c hc=>metH_look h.2 hc,fun i v hv=>metT_look h.1 hv,metT_len h.1⟩
  rcases one2one_inj hb.1.1 (lookK_mem h1) (lookK_mem h2) with h|⟨h,_⟩
  ·exact h
  ·unfold roAt at h
   rw [show lookK k S'.heap=some c from hc] at h
   simp [ho] at h
 ·exact h.elim
section
variable {nf:Nat} {S S':SS T O} {π:List (Nat×Nat)} {ρ:Env} {Fs:Nat->Nat->Prop} {w:World}
theorem met_back: ∀k k',lookK k π=some k'->ρ k'=via (.bool true) π ρ k:=fun _ _ h=>(via_some h).symm
theorem Met.heapOk (hm:Met nf S S' π) (hp:HeapOk R ρ S.get Fs w):HeapOk R (via (.bool true) π ρ) S'.get (via (fun _=>False) π Fs) w:=by
 refine ⟨fun k=> ?_,fun k c hc=> ?_,fun k k' c c' hc hc' hne ho x hx=> ?_⟩
 ·unfold via
  split
  ·exact hp.one _
  ·rfl
 ·obtain ⟨j,c',h1,h2,h3⟩:=hm.heap k c hc
  rw [via_some h1,via_some h1]
  exact (Chunk.rn_holds R met_back h3).1 (hp.holds j c' h2)
 ·obtain ⟨j,d,h1,h2,h3⟩:=hm.heap k c hc
  obtain ⟨j',d',h1',h2',h3'⟩:=hm.heap k' c' hc'
  rw [via_some h1] at hx
  rw [via_some h1']
  refine hp.sep j j' d d' h2 h2' (fun e=>hne ?_) (by rw [Chunk.rn_owned h3];exact ho) x hx
  subst e
  exact hm.inj k k' j c h1 h1' hc ho
theorem le0_sound (h:le0 nf S S') (hwf:S'.wf nf=true) {fx:Fx} (hn:fx.n=nf) {w0:World} {M:Nat->Prop} {a:Act} (inv:Inv R fx w0 M (· <S.next) ρ Fs S.tmps S.get a w):
  ∃ρ' Fs',Inv R fx w0 M (· <S'.next) ρ' Fs' S'.tmps S'.get a w:=by
 obtain ⟨π,hm⟩:=le_met h
 unfold SS.wf at hwf
 simp only [Bool.and_eq_true,List.all_eq_true,decide_eq_true_eq] at hwf
 obtain ⟨⟨hnx,hwt⟩,hwh⟩:=hwf
 subst hn
 refine ⟨fun k=>if k<fx.n then ρ k else via (.bool true) π ρ k,fun k=>if k<fx.n then Fs k else via (fun _=>False) π Fs k, ?_⟩
 have same: ∀k j,lookK k π=some j->(if k<fx.n then ρ k else via (.bool true) π ρ k)=via (.bool true) π ρ k:=by
  intro k j hj
  split
  ·rename_i hk
   rw [via_some hj,hm.self k j hk hj]
  ·rfl
 have sameF: ∀k j,lookK k π=some j->(if k<fx.n then Fs k else via (fun _=>False) π Fs k)=via (fun _=>False) π Fs k:=by
  intro k j hj
  split
  ·rename_i hk
   rw [via_some hj,hm.self k j hk hj]
  ·rfl
 have back: ∀k k',lookK k π=some k'->ρ k'=(fun k=>if k<fx.n then ρ k else via (.bool true) π ρ k) k:=fun k k' hk=>by
  show _=(if _ then _ else _)
  rw [same k k' hk,via_some hk]
 have hp:=Met.heapOk R hm inv.hp
 have getT_mem: ∀ {l:List (Option SV)} {i:Nat} {v:SV},getT l i=some v->some v∈l:=by
  intro l
  induction l with
  |nil=>intro i v h;simp [getT] at h
  |cons x l ih=>
   intro i v h
   cases i with
   |zero=>simp only [getT] at h;simp [h]
   |succ i=>simp only [getT] at h;exact List.mem_cons_of_mem _ (ih h)
 refine ⟨inv.df,fun k hk=>⟨Nat.lt_of_lt_of_le hk hnx, ?_⟩, ?_,fun i v hv=> ?_,⟨fun k=> ?_,fun k c hc=> ?_,fun k k' c c' hc hc' hne ho x hx=> ?_⟩,fun i v hv id hid=> ?_,fun k c hc=>⟨?_,fun id hid=> ?_⟩,inv.kept,fun k c hc ho x hx hlt=> ?_,fun k c hc ho x hx hlt=> ?_,fun k hk hro=> ?_⟩
 ·show (if _ then _ else _)=_
  rw [if_pos hk]
  exact (inv.fix k hk).2
 ·rw [inv.sz,hm.len]
 ·obtain ⟨u,h1,h2⟩:=hm.tmps i v hv
  rw [inv.slots i u h1,SV.rn_den back v u h2]
 ·show (if _ then _ else _:Value).oneCell'=true
  split
  ·exact inv.hp.one k
  ·exact hp.one k
 ·obtain ⟨j,d,h1,h2,h3⟩:=hm.heap k c hc
  show Chunk.holds R _ w (if _ then _ else _) (if _ then _ else _) c
  rw [same k j h1,sameF k j h1]
  refine Chunk.holds_congr R (hp.holds k c hc) fun id hid=> ?_
  obtain ⟨j',hj'⟩: ∃j',lookK id π=some j':=by
   cases c with
   |cells cs t=>
    simp only [Chunk.rn,Option.map_eq_some_iff] at h3
    obtain ⟨cs',h,_⟩:=h3
    exact rnL_has cs cs' h id hid
   |mix cs e n L ds t=>
    simp only [Chunk.rn] at h3
    split at h3
    ·rename_i cs' ds' g g'
     rcases List.mem_append.1 hid with hid|hid
     ·exact rnL_has cs cs' g id hid
     ·exact rnL_has ds ds' g' id hid
    ·cases h3
   |tab cs o n L hole ds t=>
    obtain ⟨cs',ds',hole',g,g',hh,_⟩:=rn_tab h3
    simp only [Chunk.ids,List.mem_append] at hid
    rcases hid with (hid|hid)|hid
    ·exact rnL_has cs cs' g id hid
    ·exact rnL_has ds ds' g' id hid
    ·rcases hh with ⟨rfl,_⟩|⟨i0,k0,k1,rfl,_,hk⟩
     ·simp at hid
     ·simp only [List.mem_singleton] at hid
      subst hid
      exact ⟨k1,hk⟩
   |_=>simp [Chunk.ids] at hid
  exact (same id j' hj').symm
 ·obtain ⟨j,d,h1,_,_⟩:=hm.heap k c hc
  obtain ⟨j',d',h1',_,_⟩:=hm.heap k' c' hc'
  have hx:(if k<fx.n then Fs k else via (fun _=>False) π Fs k) x:=hx
  show ¬(if k'<fx.n then Fs k' else via (fun _=>False) π Fs k') x
  rw [sameF k j h1] at hx
  rw [sameF k' j' h1']
  exact hp.sep k k' c c' hc hc' hne ho x hx
 ·exact of_decide_eq_true (List.all_eq_true.1 (hwt (some v) (getT_mem hv)) id hid)
 ·exact (hwh (k,c) (lookK_mem hc)).1
 ·exact (hwh (k,c) (lookK_mem hc)).2 id hid
 ·obtain ⟨j,d,h1,h2,h3⟩:=hm.heap k c hc
  have hx:(if k<fx.n then Fs k else via (fun _=>False) π Fs k) x:=hx
  rw [sameF k j h1,via_some h1] at hx
  exact inv.own j d h2 (by rw [Chunk.rn_owned h3];exact ho) x hx hlt
 ·obtain ⟨j,d,h1,h2,h3⟩:=hm.heap k c hc
  have hx:(if k<fx.n then Fs k else via (fun _=>False) π Fs k) x:=hx
  rw [sameF k j h1,via_some h1] at hx
  exact inv.share j d h2 (by rw [Chunk.rn_owned h3];exact ho) x hx hlt
 ·obtain ⟨h1,h2⟩:=inv.fixF k hk hro
  refine ⟨?_,fun c hc=> ?_⟩
  ·show (if k<fx.n then Fs k else via (fun _=>False) π Fs k)=_
   rw [if_pos hk];exact h1
  ·obtain ⟨j,d,g1,g2,g3⟩:=hm.heap k c hc
   have:=hm.self k j hk g1
   subst this
   rw [←Chunk.rn_owned g3]
   exact h2 d g2
end
def nilV:Value:= .slice none 0 0
def nilC:Chunk T O->Prop
 | .vec _ L _=>L=[]
 | .ro _ L=>L=[]
 | .que _ L _=>L=[]
 | .deep _ _ L _=>L=[]
 |_=>False
def nilFrom (n:Nat) (ρ:Env):Prop:= ∀j,n<=j->ρ j=nilV
def ProV (n m:Nat) (v v1:SV):Prop:=(∀ρ,nilFrom n ρ->v1.den ρ=v.den ρ)/\ (∀id∈v1.ids,id∈v.ids \/(n<=id/\ id<m))/\ v1.cell=v.cell
def ProL (n m:Nat) (l l1:List SV):Prop:=(∀ρ,nilFrom n ρ->denL ρ l1=denL ρ l)/\ (∀id∈idsL l1,id∈idsL l \/(n<=id/\ id<m))/\ l1.all SV.cell=l.all SV.cell
def NewC (n m:Nat) (new:List (Nat×Chunk T O)):Prop:= ∀p∈new,n<=p.1/\ p.1<m/\ nilC p.2
theorem ProV.refl (n m:Nat) (v:SV):ProV n m v v:=⟨fun _ _=>rfl,fun _ h=> .inl h,rfl⟩
theorem ProL.refl (n m:Nat) (l:List SV):ProL n m l l:=⟨fun _ _=>rfl,fun _ h=> .inl h,rfl⟩
theorem ProV.mono {n m m':Nat} {v v1:SV} (h:ProV n m v v1) (hm:m<=m'):ProV n m' v v1:=⟨h.1,fun id hid=>(h.2.1 id hid).imp_right fun ⟨a,b⟩=>⟨a,by omega⟩,h.2.2⟩
theorem ProL.mono {n m m':Nat} {v v1:List SV} (h:ProL n m v v1) (hm:m<=m'):ProL n m' v v1:=⟨h.1,fun id hid=>(h.2.1 id hid).imp_right fun ⟨a,b⟩=>⟨a,by omega⟩,h.2.2⟩
theorem ProL.cons {n m:Nat} {v v1:SV} {l l1:List SV} (h:ProV n m v v1) (hl:ProL n m l l1):ProL n m (v::l) (v1::l1):=by
 refine ⟨fun ρ hρ=>by simp only [denL,h.1 ρ hρ,hl.1 ρ hρ],fun id hid=> ?_,by simp only [List.all_cons,h.2.2,hl.2.2]⟩
 simp only [idsL,List.mem_append] at hid ⊢
 rcases hid with hid|hid
 ·rcases h.2.1 id hid with h|h
  ·exact .inl (.inl h)
  ·exact .inr h
 ·rcases hl.2.1 id hid with h|h
  ·exact .inl (.inr h)
  ·exact .inr h
mutual
theorem SV.pro_ok {B:List (Nat×Chunk T O)} {n:Nat}: ∀(v v':SV) (f:Nat),n<=f->f<=(v.pro B v' f).2.1/\ ProV n (v.pro B v' f).2.1 v (v.pro B v' f).1/\ NewC n (v.pro B v' f).2.1 (v.pro B v' f).2.2
 |v,v',f,hf=>by
  unfold SV.pro
  split
  ·rename_i k'
   split
   ·refine ⟨by simp,⟨fun ρ hρ=> ?_,fun id hid=> ?_,rfl⟩,fun p hp=> ?_⟩
    ·simp only [SV.den];exact hρ f hf
    ·simp only [SV.ids,List.mem_singleton] at hid;subst hid;exact .inr ⟨hf,by simp⟩
    ·simp only [List.mem_singleton] at hp;subst hp;exact ⟨hf,by simp,rfl⟩
   ·refine ⟨by simp,⟨fun ρ hρ=> ?_,fun id hid=> ?_,rfl⟩,fun p hp=> ?_⟩
    ·simp only [SV.den];exact hρ f hf
    ·simp only [SV.ids,List.mem_singleton] at hid;subst hid;exact .inr ⟨hf,by simp⟩
    ·simp only [List.mem_singleton] at hp;subst hp;exact ⟨hf,by simp,rfl⟩
   ·refine ⟨by simp,⟨fun ρ hρ=> ?_,fun id hid=> ?_,rfl⟩,fun p hp=> ?_⟩
    ·simp only [SV.den];exact hρ f hf
    ·simp only [SV.ids,List.mem_singleton] at hid;subst hid;exact .inr ⟨hf,by simp⟩
    ·simp only [List.mem_singleton] at hp;subst hp;exact ⟨hf,by simp,rfl⟩
   ·refine ⟨by simp,⟨fun ρ hρ=> ?_,fun id hid=> ?_,rfl⟩,fun p hp=> ?_⟩
    ·simp only [SV.den];exact hρ f hf
    ·simp only [SV.ids,List.mem_singleton] at hid;subst hid;exact .inr ⟨hf,by simp⟩
    ·simp only [List.mem_singleton] at hp;subst hp;exact ⟨hf,by simp,rfl⟩
   ·exact ⟨Nat.le_refl _,ProV.refl _ _ _,fun p hp=>by simp at hp⟩
  ·rename_i cs cs'
   obtain ⟨h1,h2,h3⟩:=proL_ok (B:=B) cs cs' f hf
   exact ⟨h1,⟨fun ρ hρ=>by simp only [SV.den,h2.1 ρ hρ],fun id hid=>by simpa only [SV.ids] using h2.2.1 id (by simpa only [SV.ids] using hid),rfl⟩,h3⟩
  ·rename_i cs cs'
   obtain ⟨h1,h2,h3⟩:=proL_ok (B:=B) cs cs' f hf
   exact ⟨h1,⟨fun ρ hρ=>by simp only [SV.den,h2.1 ρ hρ],fun id hid=>by simpa only [SV.ids] using h2.2.1 id (by simpa only [SV.ids] using hid),rfl⟩,h3⟩
  ·exact ⟨Nat.le_refl _,ProV.refl _ _ _,fun p hp=>by simp at hp⟩
theorem proL_ok {B:List (Nat×Chunk T O)} {n:Nat}: ∀(l l':List SV) (f:Nat),n<=f->f<=(proL B l l' f).2.1/\ ProL n (proL B l l' f).2.1 l (proL B l l' f).1/\ NewC n (proL B l l' f).2.1 (proL B l l' f).2.2
 |[],l',f,hf=>by
  unfold proL
  exact ⟨Nat.le_refl _,ProL.refl _ _ _,fun p hp=>by simp at hp⟩
 |v::vs,[],f,hf=>by
  unfold proL
  exact ⟨Nat.le_refl _,ProL.refl _ _ _,fun p hp=>by simp at hp⟩
 |v::vs,v'::vs',f,hf=>by
  obtain ⟨h1,h2,h3⟩:=SV.pro_ok (B:=B) v v' f hf
  obtain ⟨g1,g2,g3⟩:=proL_ok (B:=B) vs vs' _ (Nat.le_trans hf h1)
  unfold proL
  refine ⟨Nat.le_trans h1 g1,ProL.cons (h2.mono g1) g2,fun p hp=> ?_⟩
  simp only [List.mem_append] at hp
  rcases hp with hp|hp
  ·have:=h3 p hp;exact ⟨this.1,Nat.lt_of_lt_of_le this.2.1 g1,this.2.2⟩
  ·exact g3 p hp
end
theorem proT_ok {B:List (Nat×Chunk T O)} {n:Nat}: ∀(l l':List (Option SV)) (f:Nat),n<=f->f<=(proT B l l' f).2.1/\ (proT B l l' f).1.length=l.length∧
  (∀i v1,getT (proT B l l' f).1 i=some v1-> ∃v,getT l i=some v/\ ProV n (proT B l l' f).2.1 v v1)/\ NewC n (proT B l l' f).2.1 (proT B l l' f).2.2
 |[],l',f,hf=>by
  unfold proT
  exact ⟨Nat.le_refl _,rfl,fun i v1 h=>⟨v1,h,ProV.refl _ _ _⟩,fun p hp=>by simp at hp⟩
 |x::vs,[],f,hf=>by
  have e:proT B (x::vs) [] f=(x::vs,f,[]):=by cases x<;>rfl
  rw [e]
  exact ⟨Nat.le_refl _,rfl,fun i v1 h=>⟨v1,h,ProV.refl _ _ _⟩,fun p hp=>by simp at hp⟩
 |none::vs,y::vs',f,hf=>by
  obtain ⟨g1,g2,g3,g4⟩:=proT_ok (B:=B) vs vs' f hf
  unfold proT
  refine ⟨g1,by simp [g2],fun i v1 h=> ?_,g4⟩
  cases i with
  |zero=>simp [getT] at h
  |succ i=>simp only [getT] at h ⊢;exact g3 i v1 h
 |some v::vs,none::vs',f,hf=>by
  obtain ⟨g1,g2,g3,g4⟩:=proT_ok (B:=B) vs vs' f hf
  unfold proT
  refine ⟨g1,by simp [g2],fun i v1 h=> ?_,g4⟩
  cases i with
  |zero=>simp only [getT,Option.some.injEq] at h ⊢;exact ⟨v1,h,ProV.refl _ _ _⟩
  |succ i=>simp only [getT] at h ⊢;exact g3 i v1 h
 |some v::vs,some v'::vs',f,hf=>by
  obtain ⟨h1,h2,h3⟩:=SV.pro_ok (B:=B) v v' f hf
  obtain ⟨g1,g2,g3,g4⟩:=proT_ok (B:=B) vs vs' _ (Nat.le_trans hf h1)
  unfold proT
  refine ⟨Nat.le_trans h1 g1,by simp [g2],fun i v1 h=> ?_,fun p hp=> ?_⟩
  ·cases i with
   |zero=>simp only [getT,Option.some.injEq] at h ⊢;subst h;exact ⟨v,rfl,h2.mono g1⟩
   |succ i=>simp only [getT] at h ⊢;exact g3 i v1 h
  ·simp only [List.mem_append] at hp
   rcases hp with hp|hp
   ·have:=h3 p hp;exact ⟨this.1,Nat.lt_of_lt_of_le this.2.1 g1,this.2.2⟩
   ·exact g4 p hp
def Weak (c c1:Chunk T O):Prop:=(∃e L t,c= .vec e L t/\ c1= .ro e L) \/(∃e L t,c= .vec e L t/\ c1= .que e L t) \/ ∃e1 e L t,c= .deep e1 e L t/\ c1= .dro e1 e L
theorem Weak.owned {c c1:Chunk T O} (h:Weak c c1):c.owned=true:=by
 rcases h with ⟨_,_,_,rfl,_⟩|⟨_,_,_,rfl,_⟩|⟨_,_,_,_,rfl,_⟩<;>rfl
theorem Weak.ids {c c1:Chunk T O} (h:Weak c c1):c1.ids=[]:=by
 rcases h with ⟨_,_,_,_,rfl⟩|⟨_,_,_,_,rfl⟩|⟨_,_,_,_,_,rfl⟩<;>rfl
theorem vec_que {E:Enc} {w:World} {t:TypeId} {v:Value} {L:List E.α} {F:Nat->Prop} (h:w.ownsRow 0 t E.n v L.length (valsL E L)) (hF: ∀x,F x↔v.ownBlock=some x):queHolds E w t v L F:=by
 rcases h.2 with ⟨hv,hn⟩|⟨g,cap,cur,hv,hb,hg,hlc,hcap,hcs,htake⟩
 ·exact .inl ⟨⟨none,hv⟩,List.eq_nil_of_length_eq_zero hn,fun x hx=>by rw [hF,hv] at hx;cases hx⟩
 ·exact .inr ⟨g,0,cap,cur,hv,hlc,hcap,hg,by omega,by rw [List.drop_zero];exact htake,fun x=>by rw [hF,hv];simp [Value.ownBlock,eq_comm]⟩
theorem Weak.holds {c c1:Chunk T O} (h:Weak c c1) {ρ:Env} {w:World} {v:Value} {F:Nat->Prop} (hc:c.holds R ρ w v F):c1.holds R ρ w v F:=by
 rcases h with ⟨e,L,t,rfl,rfl⟩|⟨e,L,t,rfl,rfl⟩|⟨e1,e,L,t,rfl,rfl⟩
 ·exact vec_ro hc.1 hc.2
 ·exact vec_que hc.1 hc.2
 ·have hlt:=Chunk.holds_lt R hc
  obtain ⟨us,Fi,h1,hown,h3,h4⟩:=hc
  refine ⟨us,Fi,h1,fun j x hx=>(h4 x).2 (.inr ⟨j,hx⟩), ?_,hlt⟩
  rcases hown.2 with ⟨hv,hn⟩|⟨g,cap,cur,hv,hb,hg,hrest⟩
  ·exact .inl ⟨⟨none,hv⟩,List.eq_nil_of_length_eq_zero hn⟩
  ·exact .inr ⟨⟨g,0,none⟩,cap,hv,rfl,hown.cells (g:=g) (by rw [hv];rfl),(h4 g).2 (.inl (by rw [hv];rfl))⟩
def ProC (n m:Nat) (c c1:Chunk T O):Prop:=c1=c \/(∃cs t cs1,c= .cells cs t/\ c1= .cells cs1 t/\ ProL n m cs cs1) \/(∃cs o n',∃(L:List (Option (O o))),∃hole ds ds1 t,c= .tab cs o n' L hole ds t/\ c1= .tab cs o n' L hole ds1 t/\ ProL n m ds ds1) \/Weak c c1
theorem proH_ok {B:List (Nat×Chunk T O)} {π:List (Nat×Nat)} {n:Nat}: ∀(l:List (Nat×Chunk T O)) (f:Nat),n<=f->f<=(proH B π l f).2.1∧
  (∀k c1,lookK k (proH B π l f).1=some c1-> ∃c,lookK k l=some c/\ ProC n (proH B π l f).2.1 c c1)/\ NewC n (proH B π l f).2.1 (proH B π l f).2.2
 |[],f,hf=>by
  unfold proH
  exact ⟨Nat.le_refl _,fun k c1 h=>by simp [lookK] at h,fun p hp=>by simp at hp⟩
 |(j,c)::l,f,hf=>by
  unfold proH
  split
  ·rename_i cs t cs' t' _
   obtain ⟨h1,h2,h3⟩:=proL_ok (B:=B) cs cs' f hf
   obtain ⟨g1,g2,g3⟩:=proH_ok (B:=B) (π:=π) l _ (Nat.le_trans hf h1)
   refine ⟨Nat.le_trans h1 g1,fun k c1 h=> ?_,fun p hp=> ?_⟩
   ·simp only [lookK] at h ⊢
    split at h
    ·rename_i hk
     rw [if_pos hk]
     simp only [Option.some.injEq] at h
     subst h
     exact ⟨_,rfl, .inr (.inl ⟨cs,t,_,rfl,rfl,h2.mono g1⟩)⟩
    ·rename_i hk
     rw [if_neg hk]
     exact g2 k c1 h
   ·simp only [List.mem_append] at hp
    rcases hp with hp|hp
    ·have:=h3 p hp;exact ⟨this.1,Nat.lt_of_lt_of_le this.2.1 g1,this.2.2⟩
    ·exact g3 p hp
  ·rename_i cs o n' L hole ds t cs' o' n'' L' hole' ds' t' _
   obtain ⟨h1,h2,h3⟩:=proL_ok (B:=B) ds ds' f hf
   obtain ⟨g1,g2,g3⟩:=proH_ok (B:=B) (π:=π) l _ (Nat.le_trans hf h1)
   refine ⟨Nat.le_trans h1 g1,fun k c1 h=> ?_,fun p hp=> ?_⟩
   ·simp only [lookK] at h ⊢
    split at h
    ·rename_i hk
     rw [if_pos hk]
     simp only [Option.some.injEq] at h
     subst h
     exact ⟨_,rfl, .inr (.inr (.inl ⟨cs,o,n',L,hole,ds,_,t,rfl,rfl,h2.mono g1⟩))⟩
    ·rename_i hk
     rw [if_neg hk]
     exact g2 k c1 h
   ·simp only [List.mem_append] at hp
    rcases hp with hp|hp
    ·have:=h3 p hp;exact ⟨this.1,Nat.lt_of_lt_of_le this.2.1 g1,this.2.2⟩
    ·exact g3 p hp
  ·obtain ⟨g1,g2,g3⟩:=proH_ok (B:=B) (π:=π) l f hf
   refine ⟨g1,fun k c1 h=> ?_,g3⟩
   simp only [lookK] at h ⊢
   split at h
   ·rename_i hk
    rw [if_pos hk]
    simp only [Option.some.injEq] at h
    subst h
    exact ⟨_,rfl, .inl rfl⟩
   ·rename_i hk
    rw [if_neg hk]
    exact g2 k c1 h
structure Pro (S S1:SS T O):Prop where
 nx:S.next<=S1.next
 len:S1.tmps.length=S.tmps.length
 tm: ∀i v1,getT S1.tmps i=some v1-> ∃v,getT S.tmps i=some v/\ ProV S.next S1.next v v1
 hp: ∀k c1,S1.get k=some c1->(∃c,S.get k=some c/\ ProC S.next S1.next c c1) \/(S.next<=k/\ k<S1.next/\ nilC c1)
theorem lookK_app {α:Type} {k:Nat}: ∀(l m:List (Nat×α)) (a:α),lookK k (l++m)=some a->lookK k l=some a \/lookK k m=some a
 |[],m,a,h=> .inr h
 |(j,b)::l,m,a,h=>by
  simp only [List.cons_append,lookK] at h ⊢
  split at h
  ·rename_i hj;rw [if_pos hj];exact .inl h
  ·rename_i hj;rw [if_neg hj];exact lookK_app l m a h
theorem pro1_ok (S S':SS T O):Pro S (pro1 S S'):=by
 obtain ⟨h1,h2,h3,h4⟩:=proT_ok (B:=S'.heap) S.tmps S'.tmps S.next (Nat.le_refl _)
 refine ⟨h1,h2,h3,fun k c1 hk=> ?_⟩
 rcases lookK_app S.heap _ c1 hk with h|h
 ·exact .inl ⟨c1,h, .inl rfl⟩
 ·exact .inr (h4 (k,c1) (lookK_mem h))
theorem pro2_ok (nf:Nat) (S S':SS T O):Pro S (pro2 nf S S'):=by
 obtain ⟨h1,h2,h3⟩:=proH_ok (B:=S'.heap) (π:=flipP (pairsOf nf S S')) S.heap S.next (Nat.le_refl _)
 refine ⟨h1,rfl,fun i v1 h=>⟨v1,h,ProV.refl _ _ _⟩,fun k c1 hk=> ?_⟩
 rcases lookK_app _ _ c1 hk with h|h
 ·exact .inl (h2 k c1 h)
 ·exact .inr (h3 (k,c1) (lookK_mem h))
theorem frzH_ok {B:List (Nat×Chunk T O)} {π:List (Nat×Nat)} {n m:Nat}: ∀(l:List (Nat×Chunk T O)) (k:Nat) (c1:Chunk T O),lookK k (frzH B π l)=some c1-> ∃c,lookK k l=some c/\ ProC n m c c1
 |[],k,c1,h=>by simp [frzH,lookK] at h
 |(j,c)::l,k,c1,h=>by
  simp only [frzH,lookK] at h ⊢
  split at h
  ·rename_i hk
   rw [if_pos hk]
   simp only [Option.some.injEq] at h
   split at h
   ·exact ⟨_,rfl, .inr (.inr (.inr (.inl ⟨_,_,_,rfl,h.symm⟩)))⟩
   ·exact ⟨_,rfl, .inr (.inr (.inr (.inr (.inl ⟨_,_,_,rfl,h.symm⟩))))⟩
   ·exact ⟨_,rfl, .inl h.symm⟩
  ·rename_i hk
   rw [if_neg hk]
   exact frzH_ok l k c1 h
theorem pro3_ok (nf:Nat) (S S':SS T O):Pro S (pro3 nf S S'):=
 ⟨Nat.le_refl _,rfl,fun i v1 h=>⟨v1,h,ProV.refl _ _ _⟩,fun k c1 hk=> .inl (frzH_ok S.heap k c1 hk)⟩
theorem nilC_holds {c:Chunk T O} (h:nilC c) (ρ:Env) (w:World):c.holds R ρ w nilV fun _=>False:=by
 cases c with
 |vec e L t=>
  obtain rfl:L=[]:=h
  exact ⟨World.ownsRow_nil w 0 t (T e).n,fun x=>by simp [nilV,Value.ownBlock]⟩
 |ro e L=>
  obtain rfl:L=[]:=h
  exact .inl ⟨⟨none,rfl⟩,rfl,fun _ h=>h⟩
 |que e L t=>
  obtain rfl:L=[]:=h
  exact .inl ⟨⟨none,rfl⟩,rfl,fun _ h=>h⟩
 |deep e1 e L t=>
  obtain rfl:L=[]:=h
  exact ⟨[],fun _ _=>False,⟨rfl,fun j u p hj _=>by simp at hj⟩,World.ownsRow_nil w 0 t ((T e1).n+1),fun _ _ h=>h.elim,fun x=>by simp [nilV,Value.ownBlock]⟩
 |_=>exact h.elim
theorem Pro.inv {S S1:SS T O} (hs:Pro S S1) {fx:Fx} {w0:World} {M:Nat->Prop} {ρ:Env} {Fs:Nat->Nat->Prop} {a:Act} {w:World} (inv:Inv R fx w0 M (· <S.next) ρ Fs S.tmps S.get a w):
  ∃ρ' Fs',Inv R fx w0 M (· <S1.next) ρ' Fs' S1.tmps S1.get a w:=by
 let ρ':Env:=fun j=>if j<S.next then ρ j else nilV
 let Fs':Nat->Nat->Prop:=fun j=>if j<S.next then Fs j else fun _=>False
 have hnil:nilFrom S.next ρ':=fun j hj=>if_neg (by omega)
 have e1: ∀j,j<S.next->ρ' j=ρ j:=fun j hj=>if_pos hj
 have e2: ∀j,j<S.next->Fs' j=Fs j:=fun j hj=>if_pos hj
 have e3: ∀j,S.next<=j->Fs' j=fun _=>False:=fun j hj=>if_neg (by omega)
 have old: ∀k c,S.get k=some c->k<S.next:=fun k c hc=>(inv.ush k c hc).1
 have denO: ∀(v:SV),(∀id∈v.ids,id<S.next)->v.den ρ'=v.den ρ:=fun v hv=>SV.den_congr v fun id hid=>e1 id (hv id hid)
 have ownedC: ∀ {c c1:Chunk T O},ProC S.next S1.next c c1->c1.owned=true->c.owned=true:=by
  rintro c c1 (rfl|⟨cs,t,cs1,rfl,rfl,_⟩|⟨cs,o,n',L,hole,ds,ds1,t,rfl,rfl,_⟩|hw) h
  ·exact h
  ·rfl
  ·rfl
  ·exact hw.owned
 have keyC: ∀k c1,S1.get k=some c1->(∃c,S.get k=some c/\ ProC S.next S1.next c c1/\ k<S.next/\ Fs' k=Fs k/\ ρ' k=ρ k) \/(nilC c1/\ S.next<=k/\ k<S1.next):=by
  intro k c1 hk
  rcases hs.hp k c1 hk with ⟨c,hc,hp⟩|⟨h1,h2,h3⟩
  ·exact .inl ⟨c,hc,hp,old k c hc,e2 k (old k c hc),e1 k (old k c hc)⟩
  ·exact .inr ⟨h3,h1,h2⟩
 refine ⟨ρ',Fs',inv.df,fun k hk=>⟨Nat.lt_of_lt_of_le (inv.fix k hk).1 hs.nx,(e1 k (inv.fix k hk).1).trans (inv.fix k hk).2⟩,by rw [hs.len];exact inv.sz,fun i v1 h=> ?_,⟨fun k=> ?_,fun k c1 hk=> ?_,fun k k' c c' hk hk' hne ho x hx=> ?_⟩,
  fun i v1 h id hid=> ?_,fun k c1 hk=> ?_,inv.kept,fun k c1 hk ho x hx hlt=> ?_,fun k c1 hk ho x hx hlt=> ?_,fun k hk hro=> ?_⟩
 ·obtain ⟨v,hv,hp⟩:=hs.tm i v1 h
  rw [inv.slots i v hv,hp.1 ρ' hnil,denO v (inv.ust i v hv)]
 ·show (if _ then _ else _:Value).oneCell'=true
  split
  ·exact inv.hp.one k
  ·rfl
 ·rcases keyC k c1 hk with ⟨c,hc,hp,hlt,hF,hr⟩|⟨hn,hge,_⟩
  ·rw [hF,hr]
   have hh:=inv.hp.holds k c hc
   have hid:=(inv.ush k c hc).2
   have hh':c.holds R ρ' w (ρ k) (Fs k):=Chunk.holds_congr R hh fun id h=>(e1 id (hid id h)).symm
   rcases hp with rfl|⟨cs,t,cs1,rfl,rfl,hL⟩|⟨cs,o,n',L,hole,ds,ds1,t,rfl,rfl,hL⟩|hw
   ·exact hh'
   ·obtain ⟨b,g1,g2,g3,g4⟩:=hh'
    exact ⟨b,g1,by rw [hL.1 ρ' hnil];exact g2,by rw [hL.2.2];exact g3,g4⟩
   ·obtain ⟨b,ptrs,g1,g2,⟨g3,g4,g5⟩,g6⟩:=hh'
    exact ⟨b,ptrs,g1,by rw [hL.1 ρ' hnil];exact g2,⟨g3,by rw [hL.2.2];exact g4,g5⟩,g6⟩
   ·exact hw.holds R hh'
  ·rw [e3 k hge,hnil k hge]
   exact nilC_holds R hn ρ' w
 ·rcases keyC k c hk with ⟨d,hd,hp,_,hF,_⟩|⟨_,hge,_⟩
  ·rw [hF] at hx
   rcases keyC k' c' hk' with ⟨d',hd',_,_,hF',_⟩|⟨_,hge',_⟩
   ·rw [hF']
    exact inv.hp.sep k k' d d' hd hd' hne (ownedC hp ho) x hx
   ·rw [e3 k' hge'];exact id
  ·rw [e3 k hge] at hx;exact hx.elim
 ·obtain ⟨v,hv,hp⟩:=hs.tm i v1 h
  rcases hp.2.1 id hid with h|h
  ·exact Nat.lt_of_lt_of_le (inv.ust i v hv id h) hs.nx
  ·exact h.2
 ·rcases keyC k c1 hk with ⟨c,hc,hp,hlt,_,_⟩|⟨hn,_,hlt⟩
  ·refine ⟨Nat.lt_of_lt_of_le hlt hs.nx,fun id hid=> ?_⟩
   rcases hp with rfl|⟨cs,t,cs1,rfl,rfl,hL⟩|⟨cs,o,n',L,hole,ds,ds1,t,rfl,rfl,hL⟩|hw
   ·exact Nat.lt_of_lt_of_le ((inv.ush k _ hc).2 id hid) hs.nx
   ·rcases hL.2.1 id hid with h|h
    ·exact Nat.lt_of_lt_of_le ((inv.ush k _ hc).2 id h) hs.nx
    ·exact h.2
   ·simp only [Chunk.ids,List.mem_append] at hid
    have old:id∈(Chunk.tab cs o n' L hole ds t:Chunk T O).ids->id<S1.next:=fun h=>Nat.lt_of_lt_of_le ((inv.ush k _ hc).2 id h) hs.nx
    rcases hid with (hid|hid)|hid
    ·exact old (by simp only [Chunk.ids,List.mem_append];exact .inl (.inl hid))
    ·rcases hL.2.1 id hid with h|h
     ·exact old (by simp only [Chunk.ids,List.mem_append];exact .inl (.inr h))
     ·exact h.2
    ·exact old (by simp only [Chunk.ids,List.mem_append];exact .inr hid)
   ·rw [hw.ids] at hid;simp at hid
  ·refine ⟨hlt,fun id hid=> ?_⟩
   cases c1<;>first|exact hn.elim|simp [Chunk.ids] at hid
 ·rcases keyC k c1 hk with ⟨c,hc,hp,_,hF,_⟩|⟨_,hge,_⟩
  ·rw [hF] at hx
   exact inv.own k c hc (ownedC hp ho) x hx hlt
  ·rw [e3 k hge] at hx;exact hx.elim
 ·rcases keyC k c1 hk with ⟨c,hc,hp,_,hF,_⟩|⟨_,hge,_⟩
  ·rw [hF] at hx
   cases hco:c.owned with
   |true=>exact .inl (inv.own k c hc hco x hx hlt)
   |false=>exact inv.share k c hc hco x hx hlt
  ·rw [e3 k hge] at hx;exact hx.elim
 ·obtain ⟨h1,h2⟩:=inv.fixF k hk hro
  refine ⟨(e2 k (inv.fix k hk).1).trans h1,fun c1 hc1=> ?_⟩
  rcases keyC k c1 hc1 with ⟨c,hc,hp,_,_,_⟩|⟨_,hge,_⟩
  ·cases hco:c1.owned with
   |true=>rw [←h2 c hc];exact (ownedC hp hco).symm
   |false=>rfl
  ·have:=(inv.fix k hk).1;omega
theorem frzK_ok {k0 n m:Nat}: ∀(l:List (Nat×Chunk T O)) (k:Nat) (c1:Chunk T O),lookK k (frzK k0 l)=some c1-> ∃c,lookK k l=some c/\ ProC n m c c1
 |[],k,c1,h=>by simp [frzK,lookK] at h
 |(j,c)::l,k,c1,h=>by
  simp only [frzK,lookK] at h ⊢
  split at h
  ·rename_i hk
   rw [if_pos hk]
   simp only [Option.some.injEq] at h
   split at h
   ·exact ⟨_,rfl, .inr (.inr (.inr (.inl ⟨_,_,_,rfl,h.symm⟩)))⟩
   ·exact ⟨_,rfl, .inr (.inr (.inr (.inr (.inr ⟨_,_,_,_,rfl,h.symm⟩))))⟩
   ·exact ⟨_,rfl, .inl h.symm⟩
  ·rename_i hk
   rw [if_neg hk]
   exact frzK_ok l k c1 h
theorem frzS_inv {fx:Fx} {w0:World} {M:Nat->Prop} {a:Act} {w:World}: ∀(l:List Nat) (S:SS T O) {ρ:Env} {Fs:Nat->Nat->Prop},Inv R fx w0 M (· <S.next) ρ Fs S.tmps S.get a w→
  ∃ρ' Fs',Inv R fx w0 M (· <(frzS l S).next) ρ' Fs' (frzS l S).tmps (frzS l S).get a w
 |[],S,ρ,Fs,inv=>⟨ρ,Fs,inv⟩
 |t::l,S,ρ,Fs,inv=>by
  unfold frzS
  split
  ·rename_i k _
   have hp:Pro S { S with heap:=frzK k S.heap }:=⟨Nat.le_refl _,rfl,fun i v1 h=>⟨v1,h,ProV.refl _ _ _⟩,fun j c1 hk=> .inl (frzK_ok S.heap j c1 hk)⟩
   obtain ⟨ρ1,Fs1,inv1⟩:=Pro.inv R hp inv
   exact frzS_inv l _ inv1
  ·exact frzS_inv l S inv
theorem foldH_shape (X:Ctx T O) {g:Nat->Option (Chunk T O)}: ∀(l:List (Nat×Chunk T O)),foldH X g l=[] \/ ∃k cs o n,∃(L:List (Option (O o))),∃i k' ds t d ids,
  g k=some (.tab cs o n L (some (i,k')) ds t)/\ takeO X o g k'=some (d,ids)/\ k∉ids/\ foldH X g l=(k,some (.tab cs o n (L.set i.toNat (some d)) none ds t))::goneU ids
 |[]=> .inl rfl
 |(k,_)::l=>by
  unfold foldH
  split
  ·rename_i cs o n L i k' ds t hk
   split
   ·rename_i d ids hto
    split
    ·rename_i hn
     exact .inr ⟨k,cs,o,n,L,i,k',ds,t,d,ids,hk,hto,by simpa using hn,rfl⟩
    ·exact .inl rfl
   ·exact .inl rfl
  ·exact foldH_shape X l
theorem foldS_inv (X:Ctx T O) (hL:LayOk R X) (b:Bool) {S:SS T O} {fx:Fx} {w0:World} {M:Nat->Prop} {a:Act} {w:World} {ρ:Env} {Fs:Nat->Nat->Prop} (inv:Inv R fx w0 M (· <S.next) ρ Fs S.tmps S.get a w):
  ∃ρ' Fs',Inv R fx w0 M (· <(foldS X b S).next) ρ' Fs' (foldS X b S).tmps (foldS X b S).get a w:=by
 cases b with
 |false=>exact ⟨ρ,Fs,inv⟩
 |true=>
  have hget:(foldS X true S).get=updH (foldH X S.get S.heap) S.get:=by
   funext j
   exact lookK_applyUpd _ S.heap j
  rw [hget]
  show ∃ρ' Fs',Inv R fx w0 M (· <S.next) ρ' Fs' S.tmps _ a w
  rcases foldH_shape X (g:=S.get) S.heap with h|⟨k,cs,o,n,L,i,k',ds,t,d,ids,hk,hto,hn,h⟩
  ·rw [h];exact ⟨ρ,Fs,inv⟩
  ·rw [h]
   obtain ⟨h1,h2,h3⟩:=takeO_rep R X hL inv.hp hto
   obtain ⟨b,ptrs,hb,hg,⟨_,_,_,hpn⟩,Fi,h4,_⟩:=inv.hp.holds k _ hk
   obtain ⟨Fs',he⟩:=EffOk.seat R inv.hp S.next hk (i:=i.toNat) (fun m hm=>by show (if i.toNat=m then some k' else none)=none;rw [if_neg (fun e=>hm e.symm)]) (d:=some d) (p:=ρ k') (ids:=ids) h1 hn hb hg (w':=w) (by
     rw [hg]
     congr 3
     congr 1
     congr 1
     by_cases hi:i.toNat<ptrs.length
     ·have:=h4 i.toNat _ (List.getElem?_eq_getElem hi)
      have e:holeAt (some (i,k')) i.toNat=some k':=by simp [holeAt]
      rw [e] at this
      rw [←this.1]
      exact (List.set_getElem_self hi).symm
     ·exact (List.set_eq_of_length_le (by omega)).symm) (Kept.refl _ _) (G:=fun x=>i.toNat<n/\ ∃id∈ids,Fs id x) (fun hi=>by
      have:(fun x=>i.toNat<n/\ ∃id∈ids,Fs id x)=fun x=> ∃id∈ids,Fs id x:=by
       funext x
       exact propext ⟨fun h=>h.2,fun h=>⟨hi,h⟩⟩
      rw [this]
      exact h2) (fun x hx=>hx) undef
   have:=Inv.put R inv (D':=(· <S.next)) (fun _ h=>h) (fun j hj _=>by omega) he none (fun sv hsv=>by cases hsv) (fun p hp c hc=>by
    simp only [List.mem_cons,goneU,List.mem_map] at hp
    rcases hp with rfl|⟨id,_,rfl⟩
    ·simp only [Option.some.injEq] at hc
     subst hc
     refine ⟨(inv.ush k _ hk).1,fun id hid=>(inv.ush k _ hk).2 id ?_⟩
     simp only [Chunk.ids,List.append_nil] at hid
     simp only [Chunk.ids]
     exact List.mem_append_left _ hid
    ·cases hc)
   exact ⟨_,_,this⟩
theorem le_sound {nf:Nat} {S S':SS T O} (h:le nf S S') (hwf:S'.wf nf=true) {fx:Fx} (hn:fx.n=nf) {w0:World} {M:Nat->Prop} {ρ:Env} {Fs:Nat->Nat->Prop} {a:Act} {w:World} (inv:Inv R fx w0 M (· <S.next) ρ Fs S.tmps S.get a w):
  ∃ρ' Fs',Inv R fx w0 M (· <S'.next) ρ' Fs' S'.tmps S'.get a w:=by
 obtain ⟨ρ1,Fs1,inv1⟩:=Pro.inv R (pro1_ok S S') inv
 obtain ⟨ρ2,Fs2,inv2⟩:=Pro.inv R (pro2_ok nf (pro1 S S') S') inv1
 obtain ⟨ρ3,Fs3,inv3⟩:=Pro.inv R (pro3_ok nf (pro2 nf (pro1 S S') S') S') inv2
 exact le0_sound R h hwf hn inv3
end
end Go.Sx