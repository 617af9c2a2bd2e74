/-
  Part of a proof over the seat YtlfjbnflfdnoaaaGreat: printed by a small program or typed by hand.
-/
import Derived.Test.YtlfjbnflfdnoaaaGreatSxCalls
/-
 Sx:one operation of a region,whatever it is.
-/
namespace Go.Sx
section
variable {T:Nat->Enc} {O:Nat->Type} (R:Objs O)
def Wd (ro:Option Nat):Fence:= { Fence.wide with round:=ro }
theorem callsIn_Wd {ro:Option Nat} {n:Nat} {P:Program} {f:FuncId} {args:Array Value} {w:World} {Q:Ending->World->Prop} (h:Calls P f args w Q):CallsIn (Wd ro) n P f args w Q:=by
 have:=(callsIn_wide (n:=n)).2 h
 exact ⟨trivial,fun cs _=>this.2 cs (room_wide _)⟩
section
variable {df:Fx} {w0:World} {M D:Nat->Prop} {ρ:Env} {Fs:Nat->Nat->Prop} {tm:List (Option SV)} {H:Nat->Option (Chunk T O)} {a:Act} {w:World} {fresh:Nat} {K:Eff T O->Prop} (X:Ctx T O)
 {ro:Option Nat} {n:Nat} {Q:Exit->Act->World->Prop} {o:Oper}
abbrev Next1 (ρ:Env) (H:Nat->Option (Chunk T O)) (Fs:Nat->Nat->Prop) (w:World) (fresh:Nat) (K:Eff T O->Prop) (dst:Option Tmp) (a:Act):Act->World->Prop:=
 fun a' w'=> ∃e v ρ' Fs',K e/\ EffOk R ρ H Fs w fresh e v ρ' Fs' w'/\ a'=a.put dst v
theorem upon_val {v:Value} {w':World} (hs: ∀c,o.op≠ .defer c) (hrun:(execOp a.eval o).run X.P w= .ok (.value v) w') (hok:OpOk R ρ H Fs w fresh K v w'):
  o.wpIn (Wd ro) n X.P a w (Next1 R ρ H Fs w fresh K o.dst a) Q:=by
 refine ⟨fun _ _=>trivial, ?_⟩
 rw [Oper.semAt_eq _ _ _ hs,hrun]
 obtain ⟨e,ρ',Fs',h1,h2⟩:=hok
 exact ⟨e,v,ρ',Fs',h1,h2,rfl⟩
theorem upon_skip {w':World} (hs: ∀c,o.op≠ .defer c) (hrun:(execOp a.eval o).run X.P w= .ok .skip w') (hok:OpOk R ρ H Fs w fresh K undef w'):
  o.wpIn (Wd ro) n X.P a w (Next1 R ρ H Fs w fresh K o.dst a) Q:=by
 refine ⟨fun _ _=>trivial, ?_⟩
 rw [Oper.semAt_eq _ _ _ hs,hrun]
 obtain ⟨e,ρ',Fs',h1,h2⟩:=hok
 exact ⟨e,undef,ρ',Fs',h1,h2,rfl⟩
theorem run_v {P:Program} {s:Sem Value} {v:Value} {w w':World} (h:s.run P w= .ok v w'):(do pure (Next.value (←s)):Sem Next).run P w= .ok (.value v) w':=by
 rw [Sem.run_bind,h];rfl
theorem run_u {P:Program} {s:Sem Unit} {w w':World} (h:s.run P w= .ok () w'):(do s;pure Next.skip:Sem Next).run P w= .ok .skip w':=by
 rw [Sem.run_bind,h];rfl
theorem holds_mapO {ε δ:Type} {f:ε->Option δ} {K:δ->Prop}: ∀ {t:Tree ε},(t.mapO f).holds K->t.holds fun e=> ∃d,f e=some d/\ K d
 | .ret e,h=>by
  unfold Tree.mapO at h
  split at h
  ·rename_i d hd;exact ⟨d,hd,h⟩
  ·exact h.elim
 | .fail,h=>h
 | .ite b t u,h=>by
  cases b
  ·exact holds_mapO (t:=u) h
  ·exact holds_mapO (t:=t) h
theorem allSome_eq: ∀ {l:List (Option SV)} {vs:List SV},allSome l=some vs->l=vs.map some
 |[],vs,h=>by simp [allSome] at h;subst h;rfl
 |none::l,vs,h=>by simp [allSome] at h
 |some v::l,vs,h=>by
  simp only [allSome,Option.map_eq_some_iff] at h
  obtain ⟨us,hus,rfl⟩:=h
  rw [allSome_eq hus];rfl
theorem eval_all (inv:Inv R df w0 M D ρ Fs tm H a w): ∀ {xs:List Operand} {vs:List SV},xs.map (opdT tm)=vs.map some->xs.map a.eval=denL ρ vs/\ ∀id∈idsL vs,D id
 |[],vs,h=>by
  cases vs with
  |nil=>exact ⟨rfl,by simp [idsL]⟩
  |cons=>simp at h
 |x::xs,vs,h=>by
  cases vs with
  |nil=>simp at h
  |cons v vs=>
   simp only [List.map_cons,List.cons.injEq] at h
   obtain ⟨h1,h2⟩:=eval_all inv h.2
   exact ⟨by simp only [List.map_cons,denL,h1,inv.opd R h.1],fun id hid=>by
    simp only [idsL,List.mem_append] at hid
    rcases hid with hid|hid
    ·exact inv.opd_ids R h.1 id hid
    ·exact h2 id hid⟩
theorem call_ok (hcon:Good R X) (inv:Inv R df w0 M D ρ Fs tm H a w) (hfree: ∀j,fresh<=j->j<fresh+stride-> ¬D j) {f:FuncId} {args:List SV}
  (h:(callT X fresh f args (reachIds H 4 (union [] (idsL args))) H).holds K):
  ∃f',(∀(as:Array Value) (w:World),(callFunc f as).run X.P w= .ok (.enter f' as) w)∧
   Calls X.P f' (denL ρ args).toArray w fun en w'=> ∃e v ρ' Fs',K e/\ en= .returned v/\ EffOk R ρ H Fs w fresh e v ρ' Fs' w':=by
 generalize hids:reachIds H 4 (union [] (idsL args))=ids at h
 have hnd:ids.Nodup:=by rw [←hids];exact reach_nodup 4 _ (union_nodup _ _ (by simp))
 unfold callT at h
 split at h
 ·rename_i args' cs ha hcs
  obtain ⟨hlen,hget⟩:=chunksAt_get hcs
  have h:=holds_mapO h
  let ρc:Env:=fun i=>match ids[i]? with
   |some k=>ρ k
   |none=> .nilFunc
  let Fc:Nat->Nat->Prop:=fun i=>match ids[i]? with
   |some k=>Fs k
   |none=>fun _=>False
  have hρ: ∀i k,ids[i]?=some k->ρc i=ρ k:=fun i k hi=>by simp only [ρc,hi]
  have hF: ∀i k,ids[i]?=some k->Fc i=Fs k:=fun i k hi=>by simp only [Fc,hi]
  have there: ∀k i,lookK k (number 0 ids)=some i->ρc i=ρ k:=by
   intro k i hk
   obtain ⟨t,h1,h2⟩:=lookK_number hk
   have:i=t:=by omega
   subst this
   exact hρ i k h1
  have inl: ∀k i,lookK k (number 0 ids)=some i->i<ids.length:=by
   intro k i hk
   obtain ⟨t,h1,h2⟩:=lookK_number hk
   have:=(List.getElem?_eq_some_iff.1 h1).1
   omega
  have hidsD: ∀k∈ids,D k:=by
   intro k hk
   obtain ⟨i,hil,hik⟩:=List.getElem_of_mem hk
   obtain ⟨c,d,h1,_⟩:=hget i k (by rw [List.getElem?_eq_getElem hil,hik])
   exact (inv.ush k c h1).1
  have hG: ∀i k,ids[i]?=some k-> ∃c d,H k=some c/\ listG cs i=some d/\ c.rn (number 0 ids)=some d:=hget
  have hGn: ∀i,ids.length<=i->listG cs i=none:=fun i hi=>by unfold listG;rw [List.getElem?_eq_none (by omega)]
  have hpc:HeapOk R ρc (listG cs) Fc w:=by
   have old: ∀i d,listG cs i=some d-> ∃k c,ids[i]?=some k/\ H k=some c/\ c.rn (number 0 ids)=some d:=by
    intro i d hd
    have hil:i<ids.length:=by
     rcases Nat.lt_or_ge i ids.length with h|h
     ·exact h
     ·rw [hGn i h] at hd;cases hd
    have hk:ids[i]?=some ids[i]:=List.getElem?_eq_getElem hil
    obtain ⟨c,d',h1,h2,h3⟩:=hG i _ hk
    rw [h2] at hd
    simp only [Option.some.injEq] at hd
    subst hd
    exact ⟨_,c,hk,h1,h3⟩
   refine ⟨fun i=> ?_,fun i d hd=> ?_,fun i i' d d' hd hd' hne ho x hx=> ?_⟩
   ·show (match ids[i]? with|some k=>ρ k|none=>Value.nilFunc).oneCell'=true
    cases ids[i]? with
    |none=>rfl
    |some k=>exact inv.hp.one k
   ·obtain ⟨k,c,h1,h2,h3⟩:=old i d hd
    rw [hρ i k h1,hF i k h1]
    exact (Chunk.rn_holds R there h3).2 (inv.hp.holds k c h2)
   ·obtain ⟨k,c,h1,h2,h3⟩:=old i d hd
    obtain ⟨k',c',h1',h2',h3'⟩:=old i' d' hd'
    rw [hF i k h1] at hx
    rw [hF i' k' h1']
    refine inv.hp.sep k k' c c' h2 h2' (fun e=>hne ?_) ((Chunk.rn_owned h3).symm.trans ho) x hx
    subst e
    obtain ⟨g1,g2⟩:=List.getElem?_eq_some_iff.1 h1
    obtain ⟨g1',g2'⟩:=List.getElem?_eq_some_iff.1 h1'
    exact (List.getElem_inj hnd).1 (g2.trans g2'.symm)
  have hids': ∀k∈ids,k<fresh \/fresh+stride<=k:=by
   intro k hk
   rcases Nat.lt_or_ge k fresh with h|h
   ·exact .inl h
   ·rcases Nat.lt_or_ge k (fresh+stride) with h'|h'
    ·exact absurd (hidsD k hk) (hfree k h h')
    ·exact .inr h'
  have hfr:Free H fresh:=fun j h1 h2=>by
   have hn:=hfree j h1 h2
   refine ⟨?_,fun k c hc hid=>hn ((inv.ush k c hc).2 j hid)⟩
   cases hj:H j with
   |none=>rfl
   |some c=>exact absurd (inv.ush j c hj).1 hn
  obtain ⟨f',hen,hcalls⟩:=hcon.con f args' cs _ h (fun id hid=>by obtain ⟨k,hk⟩:=rnL_ids args args' ha id hid;have:=inl k id hk;omega)
   (fun d hd id hid=>by
    obtain ⟨i,hil,hid'⟩:=List.getElem_of_mem hd
    obtain ⟨c,d',h1,h2,h3⟩:=hG i ids[i]! (by rw [List.getElem?_eq_getElem (by omega)];simp [getElem!_pos,show i<ids.length by omega])
    unfold listG at h2
    rw [List.getElem?_eq_getElem hil] at h2
    simp only [Option.some.injEq] at h2
    rw [hid'] at h2
    subst h2
    cases c with
    |cells cc t=>
     simp only [Chunk.rn,Option.map_eq_some_iff] at h3
     obtain ⟨cc',hcc,rfl⟩:=h3
     obtain ⟨k,hk⟩:=rnL_ids cc cc' hcc id hid
     have:=inl k id hk;omega
    |mix cc e n L dd t=>
     simp only [Chunk.rn] at h3
     split at h3
     ·rename_i cc' dd' hcc hdd
      simp only [Option.some.injEq] at h3
      subst h3
      rcases List.mem_append.1 hid with hid|hid
      ·obtain ⟨k,hk⟩:=rnL_ids cc cc' hcc id hid
       have:=inl k id hk;omega
      ·obtain ⟨k,hk⟩:=rnL_ids dd dd' hdd id hid
       have:=inl k id hk;omega
     ·cases h3
    |tab cc o n L hole dd t=>
     obtain ⟨cc',dd',hole',hcc,hdd,hh,rfl⟩:=rn_tab h3
     simp only [Chunk.ids,List.mem_append] at hid
     rcases hid with (hid|hid)|hid
     ·obtain ⟨k,hk⟩:=rnL_ids cc cc' hcc id hid
      have:=inl k id hk;omega
     ·obtain ⟨k,hk⟩:=rnL_ids dd dd' hdd id hid
      have:=inl k id hk;omega
     ·rcases hh with ⟨_,rfl⟩|⟨i0,k,k',_,rfl,hk⟩
      ·simp at hid
      ·simp only [List.mem_singleton] at hid
       subst hid
       have:=inl k id hk;omega
    |_=>simp only [Chunk.rn,Option.some.injEq] at h3;subst h3;simp [Chunk.ids] at hid) ρc Fc w hpc
  refine ⟨f',hen, ?_⟩
  rw [rnL_den there args args' ha] at hcalls
  refine hcalls.mono ?_
  rintro en w' ⟨e,v,ρc',Fc',⟨e',hr,hK⟩,hv,he⟩
  rw [hlen] at he
  obtain ⟨ρ',Fs',hb⟩:=EffOk.back R inv.hp hfr hnd hids' hρ hF hG hGn he hr
  exact ⟨e',v,ρ',Fs',hK,hv,hb⟩
 ·exact h.elim
theorem onHead_ok {g:Nat->Option (Chunk T O)} {x:SV} {f:Chunk T O->Tree (Eff T O)} (h:(onHead g x f).holds K): ∃k c,x.head=[k]/\ g k=some c/\ (f c).holds K:=by
 unfold onHead headC at h
 split at h
 ·rename_i c hc
  split at hc
  ·rename_i k hk
   exact ⟨k,c,hk,hc,h⟩
  ·cases hc
 ·exact h.elim
theorem op_sound (hcon:Good R X) (inv:Inv R df w0 M D ρ Fs tm H a w) (hfree: ∀j,fresh<=j->j<fresh+stride-> ¬D j)
  (h:(opRun X fresh o.op (o.op.operands.toList.map (opdT tm)) H (opFoot H o.op (o.op.operands.toList.map (opdT tm)))).holds K):
  o.wpIn (Wd ro) n X.P a w (Next1 R ρ H Fs w fresh K o.dst a) Q:=by
 have hfr:Free H fresh:=fun j h1 h2=>by
  have hn:=hfree j h1 h2
  refine ⟨?_,fun k c hc hid=>hn ((inv.ush k c hc).2 j hid)⟩
  cases hj:H j with
  |none=>rfl
  |some c=>exact absurd (inv.ush j c hj).1 hn
 have hids: ∀ {x:Operand} {v:SV},opdT tm x=some v-> ∀id∈v.ids,¬(fresh<=id/\ id<fresh+stride):=fun hx id hid hr=>hfree id hr.1 hr.2 (inv.opd_ids R hx id hid)
 have hp:=inv.hp
 cases hop:o.op with
 |move x=>
  simp only [hop,Op.operands,List.map_cons,List.map_nil] at h
  cases hx:opdT tm x with
  |none=>rw [hx] at h;exact False.elim h
  |some v=>
   rw [hx] at h
   exact upon_val R X (by rw [hop];intro c;simp) (by unfold execOp;rw [hop];rfl) (OpOk.pure R hp h (inv.opd R hx))
 |assign x=>
  simp only [hop,Op.operands,List.map_cons,List.map_nil] at h
  cases hx:opdT tm x with
  |none=>rw [hx] at h;exact False.elim h
  |some v=>
   rw [hx] at h
   exact upon_val R X (by rw [hop];intro c;simp) (by unfold execOp;rw [hop];rfl) (OpOk.pure R hp h (inv.opd R hx))
 |pick c x y=>
  simp only [hop,Op.operands,List.map_cons,List.map_nil] at h
  cases hc:opdT tm c with
  |none=>rw [hc] at h;exact False.elim h
  |some cv=>
   rw [hc] at h
   cases cv with
   |raw cvv=>
    cases cvv with
    |bool b=>
     have e:=inv.opd R hc
     simp only [SV.den] at e
     cases b
     ·cases hy:opdT tm y with
      |none=>rw [hy] at h;exact False.elim h
      |some v=>
       rw [hy] at h
       exact upon_val R X (by rw [hop];intro c;simp) (by unfold execOp;rw [hop];simp [e,asBool]) (OpOk.pure R hp h (inv.opd R hy))
     ·cases hx:opdT tm x with
      |none=>rw [hx] at h;exact False.elim h
      |some v=>
       rw [hx] at h
       exact upon_val R X (by rw [hop];intro c;simp) (by unfold execOp;rw [hop];simp [e,asBool]) (OpOk.pure R hp h (inv.opd R hx))
    |_=>exact False.elim h
   |_=>exact False.elim h
 |alloc t=>
  simp only [hop,Op.operands,List.map_nil] at h
  obtain ⟨v,w',hrun,hok⟩:=alloc_ok R X h hp hfr
  exact upon_val R X (by rw [hop];intro c;simp) (by unfold execOp;rw [hop];exact run_v hrun) hok
 |box t x=>
  simp only [hop,Op.operands,List.map_cons,List.map_nil] at h
  cases hx:opdT tm x with
  |none=>rw [hx] at h;exact False.elim h
  |some v=>
   rw [hx] at h
   obtain ⟨v',w',hrun,hok⟩:=box_ok R X h hp hfr (hids hx)
   exact upon_val R X (by rw [hop];intro c;simp) (by unfold execOp;rw [hop];exact run_v (by rw [inv.opd R hx];exact hrun)) hok
 |build t ps=>
  simp only [hop] at h
  have hparts: ∀l:List (Nat×Operand),PartsOk ρ ((l.map (·.1)).zip ((l.map (·.2)).map (opdT tm))) (l.map fun p=>(p.1,a.eval p.2)):=by
   intro l
   induction l with
   |nil=>trivial
   |cons p l ih=>exact ⟨rfl,fun s hs=>inv.opd R hs,ih⟩
  obtain ⟨v,hrun,hok⟩:=build_ok R X (vals:=ps.map fun (i,x)=>(i,a.eval x)) (t:=t) (w:=w) (by
   have:=hparts ps.toList
   simpa [Op.operands] using this) h hp
  exact upon_val R X (by rw [hop];intro c;simp) (by unfold execOp;rw [hop];exact run_v hrun) hok
 |load t x=>
  simp only [hop,Op.operands,List.map_cons,List.map_nil] at h
  cases hx:opdT tm x with
  |none=>rw [hx] at h;exact False.elim h
  |some v=>
   rw [hx] at h
   obtain ⟨k,c,hk,hc,h⟩:=onHead_ok h
   obtain ⟨v',hrun,hok⟩:=load_ok R X hcon.lay hk hc h hp hfr
   exact upon_val R X (by rw [hop];intro c;simp) (by unfold execOp;rw [hop];exact run_v (by rw [inv.opd R hx];exact hrun)) hok
 |store t x y=>
  simp only [hop,Op.operands,List.map_cons,List.map_nil] at h
  cases hx:opdT tm x with
  |none=>rw [hx] at h;exact False.elim h
  |some v=>
   cases hy:opdT tm y with
   |none=>rw [hx,hy] at h;exact False.elim h
   |some u=>
    rw [hx,hy] at h
    obtain ⟨k,c,hk,hc,h⟩:=onHead_ok h
    obtain ⟨w',hrun,hok⟩:=storeP_ok R X hcon.lay hk hc h hp
    exact upon_skip R X (by rw [hop];intro c;simp) (by unfold execOp;rw [hop];exact run_u (by rw [inv.opd R hx,inv.opd R hy];exact hrun)) hok
 |nilCheck x=>
  simp only [hop,Op.operands,List.map_cons,List.map_nil] at h
  cases hx:opdT tm x with
  |none=>rw [hx] at h;exact False.elim h
  |some v=>
   rw [hx] at h
   have e:=inv.opd R hx
   cases v with
   |ptr k off=>exact upon_val R X (by rw [hop];intro c;simp) (by unfold execOp;rw [hop];simp only [e,SV.den];rfl) (OpOk.pure R hp h rfl)
   |elt k i E j=>exact upon_val R X (by rw [hop];intro c;simp) (by unfold execOp;rw [hop];simp only [e,SV.den];rfl) (OpOk.pure R hp h rfl)
   |fn f c=>exact upon_val R X (by rw [hop];intro c;simp) (by unfold execOp;rw [hop];simp only [e,SV.den];rfl) (OpOk.pure R hp h rfl)
   |_=>exact False.elim h
 |binOp op t x y yt=>
  simp only [hop,Op.operands,List.map_cons,List.map_nil] at h
  cases hx:opdT tm x with
  |none=>rw [hx] at h;exact False.elim h
  |some v=>
   cases hy:opdT tm y with
   |none=>rw [hx,hy] at h;exact False.elim h
   |some u=>
    rw [hx,hy] at h
    obtain ⟨v',hrun,hok⟩:=binM_ok R X h hp x y
    exact upon_val R X (by rw [hop];intro c;simp) (by unfold execOp;rw [hop];exact run_v (by rw [inv.opd R hx,inv.opd R hy];exact hrun)) hok
 |unOp op t x=>
  simp only [hop,Op.operands,List.map_cons,List.map_nil] at h
  cases hx:opdT tm x with
  |none=>rw [hx] at h;exact False.elim h
  |some v=>
   rw [hx] at h
   obtain ⟨v',hrun,hok⟩:=un_ok R X h hp
   exact upon_val R X (by rw [hop];intro c;simp) (by unfold execOp;rw [hop];exact run_v (by rw [inv.opd R hx];exact hrun)) hok
 |convert s d x=>
  simp only [hop,Op.operands,List.map_cons,List.map_nil] at h
  cases hx:opdT tm x with
  |none=>rw [hx] at h;exact False.elim h
  |some v=>
   rw [hx] at h
   obtain ⟨v',hrun,hok⟩:=conv_ok R X h hp
   exact upon_val R X (by rw [hop];intro c;simp) (by unfold execOp;rw [hop];exact run_v (by rw [inv.opd R hx];exact hrun)) hok
 |makeInterface t x=>
  simp only [hop,Op.operands,List.map_cons,List.map_nil] at h
  cases hx:opdT tm x with
  |none=>rw [hx] at h;exact False.elim h
  |some v=>
   rw [hx] at h
   obtain ⟨v',hrun,hok⟩:=mkIface_ok R X h hp
   exact upon_val R X (by rw [hop];intro c;simp) (by unfold execOp;rw [hop];exact run_v (by rw [inv.opd R hx];exact hrun)) hok
 |makeFunc f first cap=>
  simp only [hop] at h
  cases f with
  |func f=>
   simp only [opRun,funcT] at h
   split at h
   ·rename_i hs
    have hfirst:first= #[]:=Array.eq_empty_of_size_eq_zero hs
    subst hfirst
    split at h
    ·rename_i vs hvs
     simp only [Op.operands,Array.empty_append] at hvs
     have:=(eval_all R inv (allSome_eq hvs)).1
     have hc:cap.map a.eval=(denL ρ vs).toArray:=by
      apply Array.ext'
      simpa using this
     exact upon_val R X (by rw [hop];intro c;simp) (by unfold execOp;rw [hop];simp [Instr.makeFunc,hc];rfl) (OpOk.pure R hp h (by simp [SV.den]))
    ·exact h.elim
   ·rename_i hs
    split at h
    ·rename_i vs hvs
     split at h
     ·rename_i hl
      have hall:=allSome_eq hvs
      simp only [Op.operands] at hall
      have hev:=(eval_all R inv hall).1
      have hcap:cap= #[]:=by
       have:=congrArg List.length hall
       simp at this
       exact Array.eq_empty_of_size_eq_zero (by omega)
      subst hcap
      have hc:first.map a.eval=(denL ρ vs).toArray:=by
       apply Array.ext'
       simpa using hev
      exact upon_val R X (by rw [hop];intro c;simp) (by unfold execOp;rw [hop];simp [Instr.makeFunc,hc];rfl) (OpOk.pure R hp h (by simp [SV.den]))
     ·exact h.elim
    ·exact h.elim
  |_=>exact False.elim h
 |fieldAddr t x f=>
  simp only [hop,Op.operands,List.map_cons,List.map_nil] at h
  cases hx:opdT tm x with
  |none=>rw [hx] at h;exact False.elim h
  |some v=>
   rw [hx] at h
   obtain ⟨v',hrun,hok⟩:=fieldAddr_ok R X h hp
   exact upon_val R X (by rw [hop];intro c;simp) (by unfold execOp;rw [hop];exact run_v (by rw [inv.opd R hx];exact hrun)) hok
 |field t x f=>
  simp only [hop,Op.operands,List.map_cons,List.map_nil] at h
  cases hx:opdT tm x with
  |none=>rw [hx] at h;exact False.elim h
  |some v=>
   rw [hx] at h
   obtain ⟨v',hrun,hok⟩:=field_ok R X h hp
   exact upon_val R X (by rw [hop];intro c;simp) (by unfold execOp;rw [hop];exact run_v (by rw [inv.opd R hx];exact hrun)) hok
 |buildSlice t n ps=>
  simp only [hop] at h
  have hparts: ∀l:List (Nat×Operand),PartsOk ρ ((l.map (·.1)).zip ((l.map (·.2)).map (opdT tm))) (l.map fun p=>(p.1,a.eval p.2)):=by
   intro l
   induction l with
   |nil=>trivial
   |cons p l ih=>exact ⟨rfl,fun s hs=>inv.opd R hs,ih⟩
  obtain ⟨v,w',hrun,hok⟩:=buildDeep_ok R X (vals:=ps.map fun (i,x)=>(i,a.eval x)) (t:=t) (n:=n) (w:=w) (by
   have:=hparts ps.toList
   simpa [Op.operands] using this) h hp hfr
  exact upon_val R X (by rw [hop];intro c;simp) (by unfold execOp;rw [hop];exact run_v hrun) hok
 |makeSlice t x y=>
  simp only [hop,Op.operands,List.map_cons,List.map_nil] at h
  cases hx:opdT tm x with
  |none=>rw [hx] at h;exact False.elim h
  |some v=>
   cases hy:opdT tm y with
   |none=>rw [hx,hy] at h;exact False.elim h
   |some u=>
    rw [hx,hy] at h
    obtain ⟨v',w',hrun,hok⟩:=makeSlice_ok R X h hp hfr
    exact upon_val R X (by rw [hop];intro c;simp) (by unfold execOp;rw [hop];exact run_v (by rw [inv.opd R hx,inv.opd R hy];exact hrun)) hok
 |makeMap t rs=>
  simp only [hop] at h
  obtain ⟨v',w',hrun,hok⟩:=makeMap_ok R X (ev:=a.eval) h hp hfr
  exact upon_val R X (by rw [hop];intro c;simp) (by unfold execOp;rw [hop];exact run_v hrun) hok
 |lookup t x y ok=>
  simp only [hop,Op.operands,List.map_cons,List.map_nil] at h
  cases hx:opdT tm x with
  |none=>rw [hx] at h;exact False.elim h
  |some v=>
   cases hy:opdT tm y with
   |none=>rw [hx,hy] at h;exact False.elim h
   |some u=>
    rw [hx,hy] at h
    obtain ⟨v',hrun,hok⟩:=lookup_ok R X h hp
    exact upon_val R X (by rw [hop];intro c;simp) (by unfold execOp;rw [hop];exact run_v (by rw [inv.opd R hx,inv.opd R hy];exact hrun)) hok
 |mapUpdate t x y z=>
  simp only [hop,Op.operands,List.map_cons,List.map_nil] at h
  cases hx:opdT tm x with
  |none=>rw [hx] at h;exact False.elim h
  |some v=>
   cases hy:opdT tm y with
   |none=>rw [hx,hy] at h;exact False.elim h
   |some u=>
    cases hz:opdT tm z with
    |none=>rw [hx,hy,hz] at h;exact False.elim h
    |some q=>
     rw [hx,hy,hz] at h
     obtain ⟨w',hrun,hok⟩:=mapUpdate_ok R X h hp
     exact upon_skip R X (by rw [hop];intro c;simp) (by unfold execOp;rw [hop];exact run_u (by rw [inv.opd R hx,inv.opd R hy,inv.opd R hz];exact hrun)) hok
 |index t x y=>
  simp only [hop,Op.operands,List.map_cons,List.map_nil] at h
  cases hx:opdT tm x with
  |none=>rw [hx] at h;exact False.elim h
  |some v=>
   cases hy:opdT tm y with
   |none=>rw [hx,hy] at h;exact False.elim h
   |some u=>
    rw [hx,hy] at h
    obtain ⟨v',hrun,hok⟩:=index_ok R X h hp
    exact upon_val R X (by rw [hop];intro c;simp) (by unfold execOp;rw [hop];exact run_v (by rw [inv.opd R hx,inv.opd R hy];exact hrun)) hok
 |slice t x lo hi mx=>
  have hops:(Op.slice t x lo hi mx).operands.toList=x::(lo.toList++(hi.toList++mx.toList)):=by
   cases lo<;>cases hi<;>cases mx<;>rfl
  simp only [hop] at h
  rw [hops] at h
  simp only [List.map_cons,List.map_append] at h
  cases hx:opdT tm x with
  |none=>rw [hx] at h;exact False.elim h
  |some v=>
   rw [hx] at h
   have h:(sliceA X fresh t lo.isSome hi.isSome mx.isSome (some v::(lo.toList.map (opdT tm)++(hi.toList.map (opdT tm)++mx.toList.map (opdT tm)))) (headC H)).holds K:=h
   have one: ∀(o:Option Operand) (rest l:List (Option SV)) (n:Option Int),takeI o.isSome (o.toList.map (opdT tm)++rest)=some (n,l)->l=rest/\ IntIs (o.map a.eval) n:=by
    intro o rest l n hh
    cases o with
    |none=>simp only [takeI,Option.isSome_none,Option.toList_none,List.map_nil,List.nil_append,Option.some.injEq,Prod.mk.injEq] at hh;exact ⟨hh.2.symm,by rw [←hh.1];trivial⟩
    |some y=>
     simp only [Option.isSome_some,Option.toList_some,List.map_cons,List.map_nil,List.cons_append,List.nil_append] at hh
     cases hy:opdT tm y with
     |none=>rw [hy] at hh;simp [takeI] at hh
     |some u=>
      rw [hy] at hh
      unfold takeI at hh
      split at hh
      ·cases ‹true=false›
      ·rename_i k n' l' _ e
       simp only [List.cons.injEq,Option.some.injEq] at e
       simp only [Option.some.injEq,Prod.mk.injEq] at hh
       refine ⟨by rw [←hh.2,e.2], ?_⟩
       have:=inv.opd R hy
       rw [e.1] at this
       simp only [Option.map_some,this,SV.den,←hh.1]
       rfl
      ·cases hh
   unfold sliceA at h
   simp only at h
   split at h
   ·rename_i n1 l1 h1
    obtain ⟨rfl,g1⟩:=one _ _ _ _ h1
    split at h
    ·rename_i n2 l2 h2
     obtain ⟨rfl,g2⟩:=one _ _ _ _ h2
     split at h
     ·rename_i n3 h3
      obtain ⟨_,g3⟩:=one mx [] [] n3 (by simpa using h3)
      obtain ⟨v',hrun,hok⟩:=slice_ok R X h hp hfr g1 g2 g3
      exact upon_val R X (by rw [hop];intro c;simp) (by unfold execOp;rw [hop];exact run_v (by rw [inv.opd R hx];exact hrun)) hok
     ·exact h.elim
    ·exact h.elim
   ·exact h.elim
 |indexAddr t x i=>
  simp only [hop,Op.operands,List.map_cons,List.map_nil] at h
  cases hx:opdT tm x with
  |none=>rw [hx] at h;exact False.elim h
  |some v=>
   cases hy:opdT tm i with
   |none=>rw [hx,hy] at h;exact False.elim h
   |some u=>
    rw [hx,hy] at h
    obtain ⟨k,c,hk,hc,h⟩:=onHead_ok h
    obtain ⟨v',hrun,hok⟩:=indexAddr_ok R X hk hc h hp
    exact upon_val R X (by rw [hop];intro c;simp) (by unfold execOp;rw [hop];exact run_v (by rw [inv.opd R hx,inv.opd R hy];exact hrun)) hok
 |typeAssert x xt at_ ok=>
  simp only [hop,Op.operands,List.map_cons,List.map_nil] at h
  cases hx:opdT tm x with
  |none=>rw [hx] at h;exact False.elim h
  |some v=>
   rw [hx] at h
   obtain ⟨v',hrun,hok⟩:=assert_ok R X (xt:=xt) h hp
   exact upon_val R X (by rw [hop];intro c;simp) (by unfold execOp;rw [hop];exact run_v (by rw [inv.opd R hx];exact hrun)) hok
 |extract x i=>
  simp only [hop,Op.operands,List.map_cons,List.map_nil] at h
  cases hx:opdT tm x with
  |none=>rw [hx] at h;exact False.elim h
  |some v=>
   rw [hx] at h
   obtain ⟨v',hrun,hok⟩:=extract_ok R X h hp
   exact upon_val R X (by rw [hop];intro c;simp) (by unfold execOp;rw [hop];exact run_v (by rw [inv.opd R hx];exact hrun)) hok
 |call c=>
  simp only [hop] at h
  obtain ⟨callee,args,argTypes⟩:=c
  cases callee with
  |value f=>
   have hops:(Op.call ⟨.value f,args,argTypes⟩).operands.toList=f::args.toList:=by simp [Op.operands,Call.operands]
   rw [hops] at h
   simp only [List.map_cons] at h
   cases hf:opdT tm f with
   |none=>rw [hf] at h;exact False.elim h
   |some fv=>
    rw [hf] at h
    cases fv with
    |fn g cap=>
     simp only [opRun,opFoot,callVT,footV] at h
     split at h
     ·rename_i vs hvs
      have hall:=allSome_eq hvs
      have hev:=(eval_all R inv hall).1
      obtain ⟨f',hen,hcalls⟩:=call_ok R X hcon inv hfree (args:=vs++cap) h
      refine ⟨fun _ _=>trivial, ?_⟩
      have hargs:args.map a.eval=(denL ρ vs).toArray:=by apply Array.ext';simpa using hev
      have hrun:(execOp a.eval o).run X.P w= .ok (.enter f' (denL ρ (vs++cap)).toArray) w:=by
       unfold execOp
       rw [hop]
       have e1:(denL ρ vs).toArray++(denL ρ cap).toArray=(denL ρ (vs++cap)).toArray:=by simp [denL_append]
       simp only [resolve,hargs,inv.opd R hf,SV.den,Deferred.ofValue,Sem.run_bind,Sem.run_pure,Result.andThen_ok,Array.empty_append,invoke,e1,hen]
      rw [Oper.semAt_eq _ _ _ (by rw [hop];intro c;simp),hrun]
      refine ⟨fun hd=>by simp [Wd,Fence.wide] at hd,callsIn_Wd (hcalls.mono ?_)⟩
      rintro en w' ⟨e,v,ρ',Fs',hK,rfl,he⟩
      exact ⟨e,v,ρ',Fs',hK,he,rfl⟩
     ·exact h.elim
    |bfn g first=>
     simp only [opRun,opFoot,callVT,footV] at h
     split at h
     ·rename_i vs hvs
      have hall:=allSome_eq hvs
      have hev:=(eval_all R inv hall).1
      obtain ⟨f',hen,hcalls⟩:=call_ok R X hcon inv hfree (args:=first++vs) h
      refine ⟨fun _ _=>trivial, ?_⟩
      have hargs:args.map a.eval=(denL ρ vs).toArray:=by apply Array.ext';simpa using hev
      have hrun:(execOp a.eval o).run X.P w= .ok (.enter f' (denL ρ (first++vs)).toArray) w:=by
       unfold execOp
       rw [hop]
       have e1:(denL ρ first).toArray++(denL ρ vs).toArray=(denL ρ (first++vs)).toArray:=by simp [denL_append]
       simp only [resolve,hargs,inv.opd R hf,SV.den,Deferred.ofValue,Sem.run_bind,Sem.run_pure,Result.andThen_ok,Array.append_empty,invoke,e1,hen]
      rw [Oper.semAt_eq _ _ _ (by rw [hop];intro c;simp),hrun]
      refine ⟨fun hd=>by simp [Wd,Fence.wide] at hd,callsIn_Wd (hcalls.mono ?_)⟩
      rintro en w' ⟨e,v,ρ',Fs',hK,rfl,he⟩
      exact ⟨e,v,ρ',Fs',hK,he,rfl⟩
     ·exact h.elim
    |_=>exact False.elim h
  |invoke recv m=>exact False.elim h
  |builtin b=>
   have hops:(Op.call ⟨.builtin b,args,argTypes⟩).operands.toList=args.toList:=by simp [Op.operands,Call.operands]
   rw [hops] at h
   cases b with
   |len=>
    match hargs:args.toList,h with
    |[x],h1=>
     simp only [List.map_cons,List.map_nil] at h1
     cases hx:opdT tm x with
     |none=>rw [hx] at h1;exact False.elim h1
     |some v=>
      rw [hx] at h1
      simp only [opRun,callBT,u1] at h1
      split at h1
      ·rename_i t ht
       have harr:args= #[x]:=by apply Array.ext';simpa using hargs
       subst harr
       obtain ⟨v',hrun,hok⟩:=len_ok R X (ty:=o.type) ht h1 hp
       refine upon_val R X (by rw [hop];intro c;simp) ?_ hok
       unfold execOp
       rw [hop]
       simp only [resolve,invoke,builtin,Sem.run_bind,Sem.run_pure,Result.andThen_ok,List.map_toArray,List.map_cons,List.map_nil,inv.opd R hx,hrun]
      ·exact h1.elim
    |[],h=>exact False.elim h
    |x::y::l,h=>
     simp only [List.map_cons] at h
     cases hx:opdT tm x<;>rw [hx] at h<;>exact False.elim h
   |max=>
    match hargs:args.toList,h with
    |[x,y],h1=>
     simp only [List.map_cons,List.map_nil] at h1
     cases hx:opdT tm x with
     |none=>rw [hx] at h1;exact False.elim h1
     |some v=>
      cases hy:opdT tm y with
      |none=>rw [hx,hy] at h1;exact False.elim h1
      |some u=>
       rw [hx,hy] at h1
       have harr:args= #[x,y]:=by apply Array.ext';simpa using hargs
       subst harr
       obtain ⟨v',hrun,hok⟩:=maxMin_ok R X (mx:=true) h1 hp
       refine upon_val R X (by rw [hop];intro c;simp) ?_ hok
       unfold execOp
       rw [hop]
       simp only [if_true] at hrun
       simp only [resolve,invoke,builtin,Builtin.max_,Sem.run_bind,Sem.run_pure,Result.andThen_ok,List.map_toArray,List.map_cons,List.map_nil,inv.opd R hx,inv.opd R hy,List.foldlM_cons,List.foldlM_nil,hrun]
    |[],h=>exact False.elim h
    |[x],h=>
     simp only [List.map_cons,List.map_nil] at h
     cases hx:opdT tm x<;>rw [hx] at h<;>exact False.elim h
    |x::y::z::l,h=>
     simp only [List.map_cons] at h
     cases hx:opdT tm x<;>cases hy:opdT tm y<;>rw [hx,hy] at h<;>exact False.elim h
   |min=>
    match hargs:args.toList,h with
    |[x,y],h1=>
     simp only [List.map_cons,List.map_nil] at h1
     cases hx:opdT tm x with
     |none=>rw [hx] at h1;exact False.elim h1
     |some v=>
      cases hy:opdT tm y with
      |none=>rw [hx,hy] at h1;exact False.elim h1
      |some u=>
       rw [hx,hy] at h1
       have harr:args= #[x,y]:=by apply Array.ext';simpa using hargs
       subst harr
       obtain ⟨v',hrun,hok⟩:=maxMin_ok R X (mx:=false) h1 hp
       refine upon_val R X (by rw [hop];intro c;simp) ?_ hok
       unfold execOp
       rw [hop]
       simp only [Bool.false_eq_true,if_false] at hrun
       simp only [resolve,invoke,builtin,Builtin.min_,Sem.run_bind,Sem.run_pure,Result.andThen_ok,List.map_toArray,List.map_cons,List.map_nil,inv.opd R hx,inv.opd R hy,List.foldlM_cons,List.foldlM_nil,hrun]
    |[],h=>exact False.elim h
    |[x],h=>
     simp only [List.map_cons,List.map_nil] at h
     cases hx:opdT tm x<;>rw [hx] at h<;>exact False.elim h
    |x::y::z::l,h=>
     simp only [List.map_cons] at h
     cases hx:opdT tm x<;>cases hy:opdT tm y<;>rw [hx,hy] at h<;>exact False.elim h
   |append=>
    match hargs:args.toList,h with
    |[x,y],h1=>
     simp only [List.map_cons,List.map_nil] at h1
     cases hx:opdT tm x with
     |none=>rw [hx] at h1;exact False.elim h1
     |some v=>
      cases hy:opdT tm y with
      |none=>rw [hx,hy] at h1;exact False.elim h1
      |some u=>
       rw [hx,hy] at h1
       have harr:args= #[x,y]:=by apply Array.ext';simpa using hargs
       subst harr
       simp only [opRun,callBT,u2] at h1
       split at h1
       ·rename_i t t' ht ht'
        split at h1
        ·rename_i heq
         obtain ⟨rfl,hsz⟩:=heq
         have htys:argTypes= #[t,t]:=by
          apply Array.ext
          ·simpa using hsz
          ·intro i hi1 hi2
           have h2:i<2:=by simpa using hi2
           match i,h2 with
           |0,_=>simpa using (Array.getElem?_eq_some_iff.1 ht).2
           |1,_=>simpa using (Array.getElem?_eq_some_iff.1 ht').2
         subst htys
         obtain ⟨v',w',hrun,hok⟩:=append_ok R X (ty:=o.type) h1 hp hfr
         refine upon_val R X (by rw [hop];intro c;simp) ?_ hok
         unfold execOp
         rw [hop]
         simp only [resolve,invoke,builtin,Sem.run_bind,Sem.run_pure,Result.andThen_ok,List.map_toArray,List.map_cons,List.map_nil,inv.opd R hx,inv.opd R hy,hrun]
        ·exact h1.elim
       ·exact h1.elim
    |[],h=>exact False.elim h
    |[x],h=>
     simp only [List.map_cons,List.map_nil] at h
     cases hx:opdT tm x<;>rw [hx] at h<;>exact False.elim h
    |x::y::z::l,h=>
     simp only [List.map_cons] at h
     cases hx:opdT tm x<;>cases hy:opdT tm y<;>rw [hx,hy] at h<;>exact False.elim h
   |copy=>
    match hargs:args.toList,h with
    |[x,y],h1=>
     simp only [List.map_cons,List.map_nil] at h1
     cases hx:opdT tm x with
     |none=>rw [hx] at h1;exact False.elim h1
     |some v=>
      cases hy:opdT tm y with
      |none=>rw [hx,hy] at h1;exact False.elim h1
      |some u=>
       rw [hx,hy] at h1
       have harr:args= #[x,y]:=by apply Array.ext';simpa using hargs
       subst harr
       simp only [opRun,callBT,u2] at h1
       split at h1
       ·rename_i t t' ht ht'
        split at h1
        ·rename_i heq
         obtain ⟨rfl,hsz⟩:=heq
         have htys:argTypes= #[t,t]:=by
          apply Array.ext
          ·simpa using hsz
          ·intro i hi1 hi2
           have h2:i<2:=by simpa using hi2
           match i,h2 with
           |0,_=>simpa using (Array.getElem?_eq_some_iff.1 ht).2
           |1,_=>simpa using (Array.getElem?_eq_some_iff.1 ht').2
         subst htys
         obtain ⟨v',w',hrun,hok⟩:=copy_ok R X (ty:=o.type) h1 hp
         refine upon_val R X (by rw [hop];intro c;simp) ?_ hok
         unfold execOp
         rw [hop]
         simp only [resolve,invoke,builtin,Sem.run_bind,Sem.run_pure,Result.andThen_ok,List.map_toArray,List.map_cons,List.map_nil,inv.opd R hx,inv.opd R hy,hrun]
        ·exact h1.elim
       ·exact h1.elim
    |[],h=>exact False.elim h
    |[x],h=>
     simp only [List.map_cons,List.map_nil] at h
     cases hx:opdT tm x<;>rw [hx] at h<;>exact False.elim h
    |x::y::z::l,h=>
     simp only [List.map_cons] at h
     cases hx:opdT tm x<;>cases hy:opdT tm y<;>rw [hx,hy] at h<;>exact False.elim h
   |delete=>
    match hargs:args.toList,h with
    |[x,y],h1=>
     simp only [List.map_cons,List.map_nil] at h1
     cases hx:opdT tm x with
     |none=>rw [hx] at h1;exact False.elim h1
     |some v=>
      cases hy:opdT tm y with
      |none=>rw [hx,hy] at h1;exact False.elim h1
      |some u=>
       rw [hx,hy] at h1
       have harr:args= #[x,y]:=by apply Array.ext';simpa using hargs
       subst harr
       simp only [opRun,callBT,u2] at h1
       split at h1
       ·rename_i t ht
        obtain ⟨w',hrun,hok⟩:=delete_ok R X (t2:=t) (ty:=o.type) h1 hp ht
        refine upon_val R X (by rw [hop];intro c;simp) ?_ hok
        unfold execOp
        rw [hop]
        simp only [resolve,invoke,builtin,Sem.run_bind,Sem.run_pure,Result.andThen_ok,List.map_toArray,List.map_cons,List.map_nil,inv.opd R hx,inv.opd R hy,hrun]
       ·exact h1.elim
    |[],h=>exact False.elim h
    |[x],h=>
     simp only [List.map_cons,List.map_nil] at h
     cases hx:opdT tm x<;>rw [hx] at h<;>exact False.elim h
    |x::y::z::l,h=>
     simp only [List.map_cons] at h
     cases hx:opdT tm x<;>cases hy:opdT tm y<;>rw [hx,hy] at h<;>exact False.elim h
   |clear=>
    match hargs:args.toList,h with
    |[x],h1=>
     simp only [List.map_cons,List.map_nil] at h1
     cases hx:opdT tm x with
     |none=>rw [hx] at h1;exact False.elim h1
     |some v=>
      rw [hx] at h1
      simp only [opRun,callBT,u1] at h1
      split at h1
      ·rename_i t ht
       have harr:args= #[x]:=by apply Array.ext';simpa using hargs
       subst harr
       obtain ⟨w',hrun,hok⟩:=clear_ok R X (ty:=o.type) h1 hp ht
       refine upon_val R X (by rw [hop];intro c;simp) ?_ hok
       unfold execOp
       rw [hop]
       simp only [resolve,invoke,builtin,Sem.run_bind,Sem.run_pure,Result.andThen_ok,List.map_toArray,List.map_cons,List.map_nil,inv.opd R hx,hrun]
      ·exact h1.elim
    |[],h=>exact False.elim h
    |x::y::l,h=>
     simp only [List.map_cons] at h
     cases hx:opdT tm x<;>rw [hx] at h<;>exact False.elim h
   |_=>exact False.elim h
 |_=>rw [hop] at h;exact False.elim h
end
end
end Go.Sx