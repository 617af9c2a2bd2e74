/-
  Part of a proof over the seat YtlfjbnflfdnoaaaGreat: printed by a small program or typed by hand.
-/
import Derived.Test.YtlfjbnflfdnoaaaGreatSxCodeS
/-
 Sx:a function's contract out of its body.
-/
namespace Go.Sx
section
variable {T:Nat->Enc} {O:Nat->Type} (R:Objs O)
variable (X:Ctx T O)
theorem run_loadVar_part {ρ:Env} {w:World} {t:TypeId} {cs:List SV} {off:Nat} {v:SV} (h:partT X t cs off=some v) {b o:Nat} (hc:w.rangeAt b o (denL ρ cs)):
  (loadVar t ⟨b,o+off,none⟩).run X.P w= .ok (v.den ρ) w:=by
 have:=run_load_part (P:=X.P) X rfl h hc
 simpa [Instr.loadAt,Instr.sureAddr] using this
def resF (a:Act):ResultVar->Sem Value
 | .tmp t=>pure (a.tmps.getD t undef)
 | .cell x t=>do loadVar t (←asAddr (a.tmps.getD x undef))
theorem resOf_run {fx:Fx} {w0:World} {M D:Nat->Prop} {ρ:Env} {Fs:Nat->Nat->Prop} {S:SS T O} {a:Act} {w:World} (inv:Inv R fx w0 M D ρ Fs S.tmps S.get a w):
  ∀ {l:List ResultVar} {vs:List SV},resOf X S l=some vs->(l.mapM (resF a)).run X.P w= .ok (denL ρ vs) w
 |[],vs,h=>by
  simp only [resOf,Option.some.injEq] at h
  subst h
  simp [denL]
 | .tmp t::l,vs,h=>by
  simp only [resOf] at h
  split at h
  ·rename_i v us hv hus
   simp only [Option.some.injEq] at h
   subst h
   have hs:=inv.slots t v hv
   have ih:=resOf_run inv hus
   have h1:(resF a (.tmp t)).run X.P w= .ok (v.den ρ) w:=by simp [resF,Array.getD_eq_getD_getElem?,hs]
   rw [List.mapM_cons,Sem.run_bind,h1]
   simp only [Result.andThen]
   rw [Sem.run_bind,ih]
   simp [Result.andThen,denL]
  ·cases h
 | .cell x t::l,vs,h=>by
  simp only [resOf] at h
  split at h
  ·rename_i k off us hk hus
   split at h
   ·rename_i cs ty hcs
    split at h
    ·rename_i v hv
     simp only [Option.some.injEq] at h
     subst h
     have hs:=inv.slots x _ hk
     have ih:=resOf_run inv hus
     obtain ⟨b,hb,hg,_,_⟩:=inv.hp.holds k _ hcs
     have hr:w.rangeAt b 0 (denL ρ cs):=by
      intro j u hj
      rw [Nat.zero_add,cell_of_row w b j _ ty (0,0) hg]
      simpa using hj
     have hl:=run_loadVar_part X hv hr
     have h1:(resF a (.cell x t)).run X.P w= .ok (v.den ρ) w:=by
      simp only [resF,Array.getD_eq_getD_getElem?,hs,Option.getD_some,SV.den,hb,addrOf,Addr.add_lit,asAddr]
      rw [Sem.run_bind]
      simp only [Sem.run_pure,Result.andThen]
      exact hl
     rw [List.mapM_cons,Sem.run_bind,h1]
     simp only [Result.andThen]
     rw [Sem.run_bind,ih]
     simp [Result.andThen,denL]
    ·cases h
   ·cases h
  ·cases h
theorem results_run {fx:Fx} {w0:World} {M D:Nat->Prop} {ρ:Env} {Fs:Nat->Nat->Prop} {S:SS T O} {a:Act} {w:World} (inv:Inv R fx w0 M D ρ Fs S.tmps S.get a w) {fn:Func} {vs:List SV}
  (h:resOf X S fn.results.toList=some vs):(results fn a.tmps).run X.P w= .ok ((tupOf vs).den ρ) w:=by
 have:=resOf_run R X inv h
 have e:results fn a.tmps=(do
  let vs←fn.results.mapM (resF a)
  pure (if h:vs.size=1 then vs[0] else .tuple vs)):=rfl
 rw [e,Array.mapM_eq_mapM_toList,Sem.run_bind]
 rw [map_eq_pure_bind,Sem.run_bind,this]
 simp only [Result.andThen,Sem.run_pure]
 match vs with
 |[]=>simp [denL,tupOf,SV.den]
 |[v]=>simp [denL,tupOf]
 |v::u::vs=>simp [denL,tupOf,SV.den]
theorem lookK_zipK: ∀(cs:List (Chunk T O)) (i k:Nat),lookK k (zipK i cs)=if i<=k then cs[k-i]? else none
 |[],i,k=>by simp [zipK,lookK]
 |c::cs,i,k=>by
  simp only [zipK,lookK,lookK_zipK cs (i+1) k]
  by_cases h:i=k
  ·subst h;simp
  ·rw [if_neg h]
   by_cases h':i+1<=k
   ·rw [if_pos h',if_pos (by omega),show k-i=(k-(i+1))+1 by omega,List.getElem?_cons_succ]
   ·rw [if_neg h',if_neg (by omega)]
theorem start_get (args:List SV) (n:Nat) (cs:List (Chunk T O)):(start args n cs).get=listG cs:=by
 funext k
 simp [start,SS.get,lookK_zipK,listG]
theorem getT_eq: ∀(l:List (Option SV)) (i:Nat),getT l i=(l[i]?).join
 |[],i=>by simp [getT]
 |x::l,0=>by simp [getT]
 |x::l,i+1=>by simp [getT,getT_eq l i]
theorem blanks_eq: ∀n,blanks n=List.replicate n none
 |0=>rfl
 |n+1=>by simp [blanks,blanks_eq n,List.replicate_succ]
theorem start_slot {args:List SV} {n:Nat} {i:Nat} {v:SV} (h:getT (args.map some++blanks (n-args.length)) i=some v):args[i]?=some v:=by
 rw [getT_eq] at h
 rw [Option.join_eq_some_iff] at h
 rw [List.getElem?_append] at h
 split at h
 ·simpa using h
 ·rename_i hi
  rw [blanks_eq,List.getElem?_replicate] at h
  split at h<;>cases h
def mayOf (cs:List (Chunk T O)) (Fs:Nat->Nat->Prop) (x:Nat):Prop:= ∃k c,listG cs k=some c/\ c.owned=true/\ Fs k x
def fx0 (cs:List (Chunk T O)) (ρ:Env) (Fs:Nat->Nat->Prop):Fx:=
 ⟨[],cs.length,ρ,fun k=> ∃c,listG cs k=some c/\ c.owned=false,Fs,fun x=> ∃k c,listG cs k=some c/\ c.owned=false/\ Fs k x⟩
theorem start_inv {args:List SV} {cs:List (Chunk T O)} {n:Nat} {ρ:Env} {Fs:Nat->Nat->Prop} {w:World} (ha: ∀id∈idsL args,id<cs.length) (hc: ∀c∈cs,∀id∈c.ids,id<cs.length) (hp:HeapOk R ρ (listG cs) Fs w):
  Inv R (fx0 cs ρ Fs) w (mayOf cs Fs) (· <(start args n cs).next) ρ Fs (start args n cs).tmps (start args n cs).get
   { tmps:=(denL ρ args).toArray++Array.replicate (n-(denL ρ args).toArray.size) undef,defers:=[] } w:=by
 rw [start_get]
 refine ⟨rfl,fun k hk=>⟨hk,rfl⟩, ?_,fun i v hv=> ?_,hp,fun i v hv id hid=> ?_,fun k c hk=> ?_,Kept.refl _ _,fun k c hk ho x hx _=>⟨k,c,hk,ho,hx⟩,fun k c hk ho x hx _=> .inr ⟨k,c,hk,ho,hx⟩,fun k hk hro=>⟨rfl,fun c hc=> ?_⟩⟩
 ·simp [start,blanks_eq,length_denL]
 ·have:=start_slot hv
  have hlt:i<args.length:=(List.getElem?_eq_some_iff.1 this).1
  rw [Array.getElem?_append_left (by simp [length_denL,hlt])]
  simp [denL_eq_map,this]
 ·have:=start_slot hv
  exact ha id (mem_idsL.2 ⟨v,List.mem_of_getElem? this,hid⟩)
 ·have hlt:k<cs.length:=(List.getElem?_eq_some_iff.1 hk).1
  exact ⟨hlt,fun id hid=>hc c (List.mem_of_getElem? hk) id hid⟩
 ·obtain ⟨d,hd,ho⟩:=hro
  rw [hd] at hc
  simp only [Option.some.injEq] at hc
  subst hc
  exact ho
def fpOf (v:Value) (x:Nat):Prop:=match v with
 | .pointer (some a)=>x=a.block
 | .slice (some a) _ _=>x=a.block
 |_=>False
theorem plain_fp {ρ:Env} {w:World} {v:Value} {F:Nat->Prop} {c:Chunk T O} (h:c.holds R ρ w v F) (hp:c.plain=true) (ho:c.owned=true): ∀x,F x↔fpOf v x:=by
 cases c with
 |cells cs t=>
  obtain ⟨b,rfl,_,_,hF⟩:=h
  intro x;rw [hF];rfl
 |arr e L t=>
  obtain ⟨b,rfl,_,hF⟩:=h
  intro x;rw [hF];rfl
 |ro e L=>cases ho
 |nest e L=>cases ho
 |mix cs e n L ds t=>
  obtain ⟨b,rfl,_,_,hF⟩:=h
  intro x;rw [hF];rfl
 |_=>cases hp
theorem plain_block {ρ ρ':Env} {w w':World} {v:Value} {F F':Nat->Prop} {c:Chunk T O} (h:c.holds R ρ w v F) (h':c.holds R ρ' w' v F') (hp:c.plain=true) (ho:c.owned=true) (hid: ∀id∈c.ids,ρ id=ρ' id): ∀x,F x->w'.heap[x]?=w.heap[x]?:=by
 cases c with
 |cells cs t=>
  obtain ⟨b,hb,hg,_,hF⟩:=h
  obtain ⟨b',hb',hg',_,_⟩:=h'
  rw [hb] at hb'
  simp only [Value.pointer.injEq,Option.some.injEq,Addr.mk.injEq,and_true] at hb'
  subst hb'
  intro x hx
  rw [(hF x).1 hx,hg,hg',denL_congr cs hid]
 |mix cs e n L ds t=>
  obtain ⟨b,hb,hg,_,hF⟩:=h
  obtain ⟨b',hb',hg',_,_⟩:=h'
  rw [hb] at hb'
  simp only [Value.pointer.injEq,Option.some.injEq,Addr.mk.injEq,and_true] at hb'
  subst hb'
  intro x hx
  rw [(hF x).1 hx,hg,hg',denL_congr cs (fun id hi=>hid id (List.mem_append_left _ hi)),denL_congr ds (fun id hi=>hid id (List.mem_append_right _ hi))]
 |arr e L t=>
  obtain ⟨b,hb,hg,hF⟩:=h
  obtain ⟨b',hb',hg',_⟩:=h'
  rw [hb] at hb'
  simp only [Value.pointer.injEq,Option.some.injEq,Addr.mk.injEq,and_true] at hb'
  subst hb'
  intro x hx
  rw [(hF x).1 hx,hg,hg']
 |ro=>cases ho
 |nest=>cases ho
 |_=>cases hp
theorem applyUpd_get (u:List (Nat×Option (Chunk T O))) (cs:List (Chunk T O)) (k:Nat):lookK k (applyUpd u (zipK 0 cs))=updH u (listG cs) k:=by
 rw [lookK_applyUpd]
 congr 1
 funext j
 simp [lookK_zipK,listG]
mutual
theorem SV.rn_self {π:List (Nat×Nat)}: ∀(v v':SV),(∀id∈v.ids,∀i,lookK id π=some i->i=id)->v.rn π=some v'->v'=v
 | .raw x,v',_,h=>by simp [SV.rn] at h;exact h.symm
 | .ptr k off,v',hi,h=>by
  simp only [SV.rn,Option.map_eq_some_iff] at h
  obtain ⟨k',hk,rfl⟩:=h
  rw [hi k (by simp [SV.ids]) k' hk]
 | .elt k i E j,v',hi,h=>by
  simp only [SV.rn,Option.map_eq_some_iff] at h
  obtain ⟨k',hk,rfl⟩:=h
  rw [hi k (by simp [SV.ids]) k' hk]
 | .own k,v',hi,h=>by
  simp only [SV.rn,Option.map_eq_some_iff] at h
  obtain ⟨k',hk,rfl⟩:=h
  rw [hi k (by simp [SV.ids]) k' hk]
 | .view k lo n E,v',hi,h=>by
  simp only [SV.rn,Option.map_eq_some_iff] at h
  obtain ⟨k',hk,rfl⟩:=h
  rw [hi k (by simp [SV.ids]) k' hk]
 | .aview k o n,v',hi,h=>by
  simp only [SV.rn,Option.map_eq_some_iff] at h
  obtain ⟨k',hk,rfl⟩:=h
  rw [hi k (by simp [SV.ids]) k' hk]
 | .agg cs,v',hi,h=>by
  simp only [SV.rn,Option.map_eq_some_iff] at h
  obtain ⟨k',hk,rfl⟩:=h
  rw [rnL_self cs k' (by simpa only [SV.ids] using hi) hk]
 | .tup cs,v',hi,h=>by
  simp only [SV.rn,Option.map_eq_some_iff] at h
  obtain ⟨k',hk,rfl⟩:=h
  rw [rnL_self cs k' (by simpa only [SV.ids] using hi) hk]
 | .iface t v,v',hi,h=>by
  simp only [SV.rn,Option.map_eq_some_iff] at h
  obtain ⟨k',hk,rfl⟩:=h
  rw [SV.rn_self v k' (by simpa only [SV.ids] using hi) hk]
 | .fn f cs,v',hi,h=>by
  simp only [SV.rn,Option.map_eq_some_iff] at h
  obtain ⟨k',hk,rfl⟩:=h
  rw [rnL_self cs k' (by simpa only [SV.ids] using hi) hk]
 | .bfn f cs,v',hi,h=>by
  simp only [SV.rn,Option.map_eq_some_iff] at h
  obtain ⟨k',hk,rfl⟩:=h
  rw [rnL_self cs k' (by simpa only [SV.ids] using hi) hk]
theorem rnL_self {π:List (Nat×Nat)}: ∀(l l':List SV),(∀id∈idsL l,∀i,lookK id π=some i->i=id)->rnL π l=some l'->l'=l
 |[],l',_,h=>by simp [rnL] at h;exact h
 |v::vs,l',hi,h=>by
  unfold rnL at h
  split at h
  ·rename_i x xs hx hxs
   simp only [Option.some.injEq] at h
   subst h
   rw [SV.rn_self v x (fun id hid=>hi id (by simp [idsL,hid])) hx,rnL_self vs xs (fun id hid=>hi id (by simp [idsL,hid])) hxs]
  ·cases h
end
theorem ends_sound {cs:List (Chunk T O)} {e:Eff T O} {v:SV} {S0:SS T O} (h:ends cs e v S0) {ρ0 ρ1:Env} {Fs0 Fs1:Nat->Nat->Prop} {w0 w:World} {a1:Act}
  (hp0:HeapOk R ρ0 (listG cs) Fs0 w0) (hids: ∀c∈cs,∀id∈c.ids,id<cs.length) (inv1:Inv R (fx0 cs ρ0 Fs0) w0 (mayOf cs Fs0) (· <S0.next) ρ1 Fs1 S0.tmps S0.get a1 w):
  ∃ρ' Fs',EffOk R ρ0 (listG cs) Fs0 w0 cs.length e (v.den ρ1) ρ' Fs' w:=by
 unfold ends at h
 split at h
 rotate_left
 ·exact h.elim
 rename_i u hu hok
 simp only [Bool.and_eq_true,List.all_eq_true,decide_eq_true_eq] at hok
 obtain ⟨hok,hvid⟩:=hok
 obtain ⟨hwf,hle⟩:=wfP_elim h
 have invV:Inv R (fx0 cs ρ0 Fs0) w0 (mayOf cs Fs0) (· <S0.next) ρ1 Fs1 [some v] S0.get { tmps:= #[v.den ρ1],defers:=[] } w:=
  ⟨rfl,inv1.fix,rfl,fun i x hx=>by
   cases i with
   |zero=>simp only [getT,Option.some.injEq] at hx;subst hx;rfl
   |succ i=>simp [getT] at hx,inv1.hp,fun i x hx id hid=>by
   cases i with
   |zero=>simp only [getT,Option.some.injEq] at hx;subst hx;exact hvid id hid
   |succ i=>simp [getT] at hx,inv1.ush,inv1.kept,inv1.own,inv1.share,inv1.fixF⟩
 unfold le at hle
 generalize hA:({ tmps:=[some v],heap:=S0.heap,next:=S0.next }:SS T O)=A at hle
 generalize hB:({ tmps:=[some u],heap:=applyUpd e.upd (zipK 0 cs),next:=cs.length+stride }:SS T O)=B at hle
 have invA:Inv R (fx0 cs ρ0 Fs0) w0 (mayOf cs Fs0) (· <A.next) ρ1 Fs1 A.tmps A.get { tmps:= #[v.den ρ1],defers:=[] } w:=by
  subst hA;exact invV
 obtain ⟨ρ2,Fs2,inv2⟩:=Pro.inv R (pro1_ok A B) invA
 obtain ⟨ρ3,Fs3,inv3⟩:=Pro.inv R (pro2_ok cs.length (pro1 A B) B) inv2
 obtain ⟨ρ,Fs,inv⟩:=Pro.inv R (pro3_ok cs.length (pro2 cs.length (pro1 A B) B) B) inv3
 change le0 cs.length (pro3 cs.length (pro2 cs.length (pro1 A B) B) B) _ at hle
 generalize pro3 cs.length (pro2 cs.length (pro1 A B) B) B=S at hle inv
 subst hB
 obtain ⟨π,hm⟩:=le_met hle
 unfold SS.wf at hwf
 simp only [Bool.and_eq_true,List.all_eq_true,decide_eq_true_eq] at hwf
 obtain ⟨⟨_,hwt⟩,hwh⟩:=hwf
 unfold updOk at hok
 simp only [Bool.and_eq_true,List.all_eq_true] at hok
 obtain ⟨hplain,hown⟩:=hok
 have hp:=Met.heapOk R hm inv.hp
 have hget: ∀k,SS.get { tmps:=[some u],heap:=applyUpd e.upd (zipK 0 cs),next:=cs.length+stride:SS T O } k=updH e.upd (listG cs) k:=applyUpd_get e.upd cs
 classical
 let inR:Nat->Prop:=fun j=>cs.length<=j/\ j<cs.length+stride
 let ρ':Env:=fun j=>if inR j then via (.bool true) π ρ j else ρ0 j
 let Fs':Nat->Nat->Prop:=fun k=>if k∈e.upd.map (·.1) then via (fun _=>False) π Fs k else Fs0 k
 --the values:those of the state at the end
 have vals: ∀id j,id<cs.length+stride->lookK id π=some j->ρ' id=via (.bool true) π ρ id:=by
  intro id j hid hj
  show (if _ then _ else _)=_
  split
  ·rfl
  ·rename_i hr
   have hlt:id<cs.length:=by
    rcases Nat.lt_or_ge id cs.length with h|h
    ·exact h
    ·exact absurd ⟨h,hid⟩ hr
   have:=hm.self id j hlt hj
   subst this
   rw [via_some hj,(inv.fix j hlt).2]
   rfl
 have keys: ∀k c,updH e.upd (listG cs) k=some c->k<cs.length+stride/\ (∀id∈c.ids,id<cs.length+stride):=by
  intro k c hk
  have:=hwh (k,c) (lookK_mem (by rw [←hk];exact hget k))
  exact ⟨this.1,this.2⟩
 --a chunk that is not changed is as it was
 have old: ∀k c,k∉e.upd.map (·.1)->listG cs k=some c->c.plain=true/\ lookK k π=some k/\ S.get k=some c/\ (∀x,Fs k x↔Fs0 k x):=by
  intro k c hk hc
  have hlt:k<cs.length:=(List.getElem?_eq_some_iff.1 hc).1
  have hpl:c.plain=true:=by
   have hz:(k,c)∈zipK 0 cs:=lookK_mem (by rw [lookK_zipK];simpa [listG] using hc)
   have:=hplain (k,c) hz
   simp only [Bool.or_eq_true,List.contains_iff_mem] at this
   exact this.resolve_right hk
  obtain ⟨j,c',h1,h2,h3⟩:=hm.heap k c (by rw [hget,updH_notin hk];exact hc)
  have hj:=hm.self k j hlt h1
  subst hj
  have hcc:c'=c:=by
   have h4:c.rn π=some c:=by
    have idr: ∀id∈c.ids,id<cs.length:=hids c (List.mem_of_getElem? hc)
    cases c with
    |cells l t=>
     simp only [Chunk.rn,Option.map_eq_some_iff] at h3 ⊢
     obtain ⟨l',hl,_⟩:=h3
     refine ⟨l',hl, ?_⟩
     rw [rnL_self l l' (fun id hid i hi=>hm.self id i (idr id hid) hi) hl]
    |mix l e n L d t=>
     simp only [Chunk.rn] at h3 ⊢
     split at h3
     ·rename_i l' d' hl hd
      have e1:=rnL_self l l' (fun id hid i hi=>hm.self id i (idr id (List.mem_append_left _ hid)) hi) hl
      have e2:=rnL_self d d' (fun id hid i hi=>hm.self id i (idr id (List.mem_append_right _ hid)) hi) hd
      rw [e1,e2]
     ·cases h3
    |tab l o n L hole d t=>cases hpl
    |_=>rfl
   rw [h3] at h4
   simpa using h4
  subst hcc
  refine ⟨hpl,h1,h2,fun x=> ?_⟩
  cases ho:c'.owned with
  |true=>
   rw [plain_fp R (inv.hp.holds j c' h2) hpl ho x,plain_fp R (hp0.holds j c' hc) hpl ho x,(inv.fix j hlt).2]
   rfl
  |false=>
   rw [(inv.fixF j hlt ⟨c',hc,ho⟩).1]
   exact Iff.rfl
 have fps: ∀k c,updH e.upd (listG cs) k=some c->Fs' k=via (fun _=>False) π Fs k:=by
  intro k c hk
  show (if _ then _ else _)=_
  split
  ·rfl
  ·rename_i hn
   rw [updH_notin hn] at hk
   obtain ⟨_,h1,_,h2⟩:=old k c hn hk
   rw [via_some h1]
   funext x
   exact propext (h2 x).symm
 have has: ∀k c,updH e.upd (listG cs) k=some c-> ∃j,lookK k π=some j/\ ∀id∈c.ids,∃j,lookK id π=some j:=by
  intro k c hk
  obtain ⟨j,c',h1,h2,h3⟩:=hm.heap k c (by rw [hget];exact hk)
  refine ⟨j,h1,fun id hid=> ?_⟩
  cases c with
  |cells l t=>
   simp only [Chunk.rn,Option.map_eq_some_iff] at h3
   obtain ⟨l',hl,_⟩:=h3
   exact rnL_has l l' hl id hid
  |mix l e n L d t=>
   simp only [Chunk.rn] at h3
   split at h3
   ·rename_i l' d' hl hd
    rcases List.mem_append.1 hid with hid|hid
    ·exact rnL_has l l' hl id hid
    ·exact rnL_has d d' hd id hid
   ·cases h3
  |tab l o n L hole d t=>
   obtain ⟨cs',ds',hole',g,g',hh,_⟩:=rn_tab h3
   simp only [Chunk.ids,List.mem_append] at hid
   rcases hid with (hid|hid)|hid
   ·exact rnL_has l cs' g id hid
   ·exact rnL_has d ds' g' id hid
   ·rcases hh with ⟨rfl,_⟩|⟨i0,k0,k1,rfl,_,hk⟩
    ·simp at hid
    ·simp only [List.mem_singleton] at hid
     subst hid
     exact ⟨k1,hk⟩
  |_=>simp [Chunk.ids] at hid
 --what was left alone
 have left: ∀x,x<w0.heap.size-> ¬(∃k∈e.upd.map (·.1),(∃c,listG cs k=some c/\ c.owned=true)/\ Fs0 k x)->w.heap[x]?=w0.heap[x]?:=by
  intro x hx hno
  by_cases hM:mayOf cs Fs0 x
  ·obtain ⟨k,c,hc,ho,hF⟩:=hM
   have hk:k∉e.upd.map (·.1):=fun hk=>hno ⟨k,hk,⟨c,hc,ho⟩,hF⟩
   have hlt:k<cs.length:=(List.getElem?_eq_some_iff.1 hc).1
   obtain ⟨hpl,h1,h2,_⟩:=old k c hk hc
   have hh:=inv.hp.holds k c h2
   rw [(inv.fix k hlt).2] at hh
   exact plain_block R (hp0.holds k c hc) hh hpl ho (fun id hid=>((inv.fix id (hids c (List.mem_of_getElem? hc) id hid)).2).symm) x hF
  ·exact inv.kept.block x hx hM
 refine ⟨ρ',Fs', ?_, ?_, ?_,⟨fun k=> ?_,fun k c hk=> ?_,fun k k' c c' hk hk' hne ho x hx=> ?_⟩, ?_, ?_, ?_⟩
 ·intro sv hsv
  rw [hu] at hsv
  simp only [Option.some.injEq] at hsv
  subst hsv
  obtain ⟨v',h1,h2⟩:=hm.tmps 0 u rfl
  have hvv:v.den ρ1=v'.den ρ:=by simpa using inv.slots 0 v' h1
  rw [hvv]
  refine (SV.rn_den (ρ:=fun k=>via (.bool true) π ρ k) (fun k j hk=>(via_some hk).symm) u v' h2).trans ?_
  ·refine SV.den_congr u fun id hid=> ?_
   obtain ⟨j,hj⟩:=SV.rn_has u v' h2 id hid
   exact (vals id j (of_decide_eq_true (List.all_eq_true.1 (hwt (some u) (by simp)) id hid)) hj).symm
 ·intro j hj
  show (if _ then _ else _)=_
  rw [if_neg hj]
 ·intro k hk
  show (if _ then _ else _)=_
  rw [if_neg hk]
 ·show (if _ then _ else _:Value).oneCell'=true
  split
  ·exact hp.one k
  ·exact hp0.one k
 ·have h1:=hp.holds k c (by rw [hget];exact hk)
  obtain ⟨j,hj,hall⟩:=has k c hk
  have hb:=keys k c hk
  rw [fps k c hk,vals k j hb.1 hj]
  refine Chunk.holds_congr R h1 fun id hid=> ?_
  obtain ⟨j',hj'⟩:=hall id hid
  exact (vals id j' (hb.2 id hid) hj').symm
 ·rw [fps k c hk] at hx
  rw [fps k' c' hk']
  exact hp.sep k k' c c' (by rw [hget];exact hk) (by rw [hget];exact hk') hne ho x hx
 ·exact ⟨inv.kept.os,inv.kept.tape,inv.kept.output,inv.kept.size,left⟩
 ·intro k hk c hc x hx
  rw [fps k c hc] at hx
  obtain ⟨j,c',h1,h2,h3⟩:=hm.heap k c (by rw [hget];exact hc)
  rw [via_some h1] at hx
  have named: ∀k' d,listG cs k'=some d->d.owned=true->Fs0 k' x->k'∈e.upd.map (·.1):=by
   intro k' d hd hdo hF
   by_cases hin:k'∈e.upd.map (·.1)
   ·exact hin
   ·exfalso
    obtain ⟨_,h4,h5,h6⟩:=old k' d hin hd
    have hne:k'≠j:=by
     intro e
     subst e
     have:=hm.inj k' k k' d h4 h1 (by rw [hget,updH_notin hin];exact hd) hdo
     subst this
     exact hin hk
    exact inv.hp.sep k' j d c' h5 h2 hne hdo x ((h6 x).2 hF) hx
  rcases Nat.lt_or_ge x w0.heap.size with hlt|hge
  ·right
   cases ho:c.owned with
   |true=>
    obtain ⟨k',d,hd,hdo,hF⟩:=inv.own j c' h2 (by rw [Chunk.rn_owned h3];exact ho) x hx hlt
    exact .inl ⟨k',named k' d hd hdo hF,⟨d,hd,hdo⟩,hF⟩
   |false=>
    rcases inv.share j c' h2 (by rw [Chunk.rn_owned h3];exact ho) x hx hlt with ⟨k',d,hd,hdo,hF⟩|⟨k',d,hd,hdo,hF⟩
    ·exact .inl ⟨k',named k' d hd hdo hF,⟨d,hd,hdo⟩,hF⟩
    ·exact .inr ⟨rfl,k',d,hd,hdo,hF⟩
  ·exact .inl hge
 ·intro k hk
  obtain ⟨p,hp1,rfl⟩:=List.mem_map.1 hk
  have hn: ∀(l:List (Chunk T O)) (n:Nat),nthC l n=l[n]?:=by
   intro l
   induction l with
   |nil=>intro n;simp [nthC]
   |cons c l ih=>intro n;cases n<;>simp [nthC,ih]
  have:=hown p hp1
  rw [hn] at this
  cases hc:cs[p.1]? with
  |some c=>rw [hc] at this;exact .inl ⟨c,hc,this⟩
  |none=>
   rw [hc] at this
   simp only [Bool.and_eq_true,decide_eq_true_eq] at this
   exact .inr this
theorem con_of_fn (hcon:Good R X) (hm:X.P.follows .mixedOrders=true) {f f':FuncId} {fn:Func} (henter: ∀(as:Array Value) (w:World),(callFunc f as).run X.P w= .ok (.enter f' as) w)
  (hf:X.P.funcs[f']?=some fn) (con:Con T O)
  (h: ∀args cs K,(con args cs).holds K-> ∃A K',(∀v S,K' v S-> ∃e,K e/\ ends cs e v S)/\ fnX X A fn args cs K'):ConOk R X.P f con:=by
 intro args cs K hK ha hc ρ Fs w hp
 refine ⟨f',henter, ?_⟩
 obtain ⟨A,K',hK',hx⟩:=h args cs K hK
 unfold fnX at hx
 split at hx
 ·exact hx.elim
 ·rename_i c hb
  obtain ⟨_,hx⟩:=wfP_elim hx
  refine calls_of_wp hf hb (wpIn_wide (n:=0).1 (wpIn_mono (exec_sound R X A (ro:=none) (n:=0) hcon hm (fx:=fx0 cs ρ Fs) rfl c _ _ hx (start_inv R ha hc hp)) ?_))
  rintro e a' w' ⟨S,ρ',Fs',hend,inv⟩
  have fin:(match resOf X S fn.results.toList with
   |some vs=>K' (tupOf vs) S
   |none=>False)->a'.defers=[]/\ ∃v,(results fn a'.tmps).run X.P w'= .ok v w'/\ ∃e v' ρ' Fs',K e/\ Ending.returned v= .returned v'/\ EffOk R ρ (listG cs) Fs w cs.length e v' ρ' Fs' w':=by
   intro hend
   split at hend
   ·rename_i vs hvs
    obtain ⟨e,hKe,he⟩:=hK' _ _ hend
    obtain ⟨ρ'',Fs'',hok⟩:=ends_sound R he hp hc inv
    exact ⟨inv.df,_,results_run R X inv hvs,e,_,ρ'',Fs'',hKe,rfl,hok⟩
   ·exact hend.elim
  cases e with
  |normal=>exact fin hend
  |ret=>exact fin hend
  |_=>exact hend.elim
abbrev Tab (T:Nat->Enc) (O:Nat->Type):=List (Nat×Con T O)
def conOf (tab:Tab T O) (f:FuncId):Con T O:=match lookK f tab with
 |some c=>c
 |none=>fun _ _=> .fail
def TabOk (P:Program) (tab:Tab T O):Prop:= ∀p∈tab,ConOk R P p.1 p.2
theorem TabOk.nil (P:Program):TabOk R P ([]:Tab T O):=fun _ h=>by cases h
theorem TabOk.cons {P:Program} {tab:Tab T O} {f:FuncId} {c:Con T O} (h:ConOk R P f c) (ht:TabOk R P tab):TabOk R P ((f,c)::tab):=by
 intro p hp
 rcases List.mem_cons.1 hp with rfl|hp
 ·exact h
 ·exact ht p hp
theorem TabOk.con {P:Program} {tab:Tab T O} (ht:TabOk R P tab) (f:FuncId):ConOk R P f (conOf tab f):=by
 unfold conOf
 split
 ·rename_i c hc
  exact ht (f,c) (lookK_mem hc)
 ·intro args cs K hK
  exact hK.elim
def noAnn:Ann T O:=⟨fun _=>none,fun _=>none,fun _=>0,fun _=>[],fun _=>false⟩
end
end Go.Sx