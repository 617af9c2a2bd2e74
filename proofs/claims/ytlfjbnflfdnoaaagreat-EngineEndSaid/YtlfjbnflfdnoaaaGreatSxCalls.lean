/-
  Part of a proof over the seat YtlfjbnflfdnoaaaGreat: printed by a small program or typed by hand.
-/
import Derived.Test.YtlfjbnflfdnoaaaGreatSxOps7
/-
 Sx:a call by a contract:the chunks' numbers are turned into the contract's,and back.
-/
namespace Go.Sx
section
variable {T:Nat->Enc} {O:Nat->Type} (R:Objs O)
def listG (cs:List (Chunk T O)):Nat->Option (Chunk T O):=fun i=>cs[i]?
def ConOk (P:Program) (f:FuncId) (con:Con T O):Prop:=
 ∀(args:List SV) (cs:List (Chunk T O)) (K:Eff T O->Prop),(con args cs).holds K->(∀id∈idsL args,id<cs.length)->(∀c∈cs,∀id∈c.ids,id<cs.length)→
  ∀(ρ:Env) (Fs:Nat->Nat->Prop) (w:World),HeapOk R ρ (listG cs) Fs w→
   ∃f',(∀(as:Array Value) (w:World),(callFunc f as).run P w= .ok (.enter f' as) w)∧
    Calls P f' (denL ρ args).toArray w fun en w'=> ∃e v ρ' Fs',K e/\ en= .returned v/\ EffOk R ρ (listG cs) Fs w cs.length e v ρ' Fs' w'
structure Good (X:Ctx T O):Prop where
 con: ∀f,ConOk R X.P f (X.con f)
 lay:LayOk R X
theorem lookK_numberBack {t j:Nat}: ∀ {i:Nat} {ids:List Nat},lookK t (numberBack i ids)=some j-> ∃s,t=i+s/\ ids[s]?=some j
 |i,[],h=>by simp [numberBack,lookK] at h
 |i,x::ids,h=>by
  simp only [numberBack,lookK] at h
  split at h
  ·rename_i hx
   simp only [Option.some.injEq] at h
   exact ⟨0,by omega,by simp [h]⟩
  ·obtain ⟨s,h1,h2⟩:=lookK_numberBack h
   exact ⟨s+1,by omega,by simpa using h2⟩
theorem lookK_newIds {n fresh t j:Nat}: ∀ {m:Nat},lookK t (newIds n fresh m)=some j-> ∃s,s<m/\ t=n+s/\ j=fresh+s
 |0,h=>by simp [newIds,lookK] at h
 |m+1,h=>by
  simp only [newIds,lookK] at h
  split at h
  ·rename_i hx
   simp only [Option.some.injEq] at h
   exact ⟨m,by omega,by omega,by omega⟩
  ·obtain ⟨s,h1,h2,h3⟩:=lookK_newIds h
   exact ⟨s,by omega,h2,h3⟩
theorem lookK_append {α:Type} {k:Nat} {a:α}: ∀ {l m:List (Nat×α)},lookK k (l++m)=some a->lookK k l=some a \/lookK k m=some a
 |[],m,h=> .inr h
 |(j,b)::l,m,h=>by
  simp only [List.cons_append,lookK] at h ⊢
  split at h
  ·rename_i hj;rw [if_pos hj];exact .inl h
  ·rename_i hj;rw [if_neg hj];exact lookK_append h
theorem lookK_back {ids:List Nat} {fresh t j:Nat} (h:lookK t (numberBack 0 ids++newIds ids.length fresh stride)=some j):
  (t<ids.length/\ ids[t]?=some j) \/ ∃s,s<stride/\ t=ids.length+s/\ j=fresh+s:=by
 rcases lookK_append h with h|h
 ·obtain ⟨s,h1,h2⟩:=lookK_numberBack h
  have:t=s:=by omega
  subst this
  exact .inl ⟨(List.getElem?_eq_some_iff.1 h2).1,h2⟩
 ·exact .inr (lookK_newIds h)
def RelC (π:List (Nat×Nat)) (a b:Option (Chunk T O)):Prop:=(a=none/\ b=none) \/ ∃d d',a=some d/\ b=some d'/\ d.rn π=some d'
theorem rnU_keys {π:List (Nat×Nat)}: ∀ {u u':List (Nat×Option (Chunk T O))},rnU π u=some u'-> ∀k'∈u'.map (·.1),∃k∈u.map (·.1),lookK k π=some k'
 |[],u',h,k',hk'=>by simp [rnU] at h;subst h;simp at hk'
 |(k,none)::u,u',h,k',hk'=>by
  unfold rnU at h
  split at h
  ·rename_i j l hj hl
   simp only [Option.some.injEq] at h
   subst h
   simp only [List.map_cons,List.mem_cons] at hk'
   rcases hk' with rfl|hk'
   ·exact ⟨k,by simp,hj⟩
   ·obtain ⟨i,hi,hl'⟩:=rnU_keys hl k' hk'
    exact ⟨i,by simp only [List.map_cons,List.mem_cons];exact .inr hi,hl'⟩
  ·cases h
 |(k,some c)::u,u',h,k',hk'=>by
  unfold rnU at h
  split at h
  ·rename_i j d l hj hd hl
   simp only [Option.some.injEq] at h
   subst h
   simp only [List.map_cons,List.mem_cons] at hk'
   rcases hk' with rfl|hk'
   ·exact ⟨k,by simp,hj⟩
   ·obtain ⟨i,hi,hl'⟩:=rnU_keys hl k' hk'
    exact ⟨i,by simp only [List.map_cons,List.mem_cons];exact .inr hi,hl'⟩
  ·cases h
theorem rnU_keys' {π:List (Nat×Nat)}: ∀ {u u':List (Nat×Option (Chunk T O))},rnU π u=some u'-> ∀k∈u.map (·.1),∃k'∈u'.map (·.1),lookK k π=some k'
 |[],u',h,k',hk'=>by simp at hk'
 |(k,none)::u,u',h,k',hk'=>by
  unfold rnU at h
  split at h
  ·rename_i j l hj hl
   simp only [Option.some.injEq] at h
   subst h
   simp only [List.map_cons,List.mem_cons] at hk'
   rcases hk' with rfl|hk'
   ·exact ⟨j,by simp,hj⟩
   ·obtain ⟨i,hi,hl'⟩:=rnU_keys' hl k' hk'
    exact ⟨i,by simp only [List.map_cons,List.mem_cons];exact .inr hi,hl'⟩
  ·cases h
 |(k,some c)::u,u',h,k',hk'=>by
  unfold rnU at h
  split at h
  ·rename_i j d l hj hd hl
   simp only [Option.some.injEq] at h
   subst h
   simp only [List.map_cons,List.mem_cons] at hk'
   rcases hk' with rfl|hk'
   ·exact ⟨j,by simp,hj⟩
   ·obtain ⟨i,hi,hl'⟩:=rnU_keys' hl k' hk'
    exact ⟨i,by simp only [List.map_cons,List.mem_cons];exact .inr hi,hl'⟩
  ·cases h
theorem rnU_rel {π:List (Nat×Nat)} (hinj: ∀i i' j,lookK i π=some j->lookK i' π=some j->i=i') {i j:Nat} (hij:lookK i π=some j):
  ∀ {u u':List (Nat×Option (Chunk T O))},rnU π u=some u'-> ∀ {G H:Nat->Option (Chunk T O)},(i∈u.map (·.1) \/RelC π (G i) (H j))->RelC π (updH u G i) (updH u' H j)
 |[],u',h,G,H,hr=>by
  simp [rnU] at h;subst h
  rcases hr with hr|hr
  ·simp at hr
  ·exact hr
 |(k,none)::u,u',h,G,H,hr=>by
  unfold rnU at h
  split at h
  ·rename_i k' l hk hl
   simp only [Option.some.injEq] at h
   subst h
   refine rnU_rel hinj hij hl ?_
   by_cases hik:i=k
   ·subst hik
    rw [hij] at hk
    simp only [Option.some.injEq] at hk
    subst hk
    exact .inr (by rw [if_pos rfl,if_pos rfl];exact .inl ⟨rfl,rfl⟩)
   ·have hjk:j≠k':=fun e=>hik (hinj i k j hij (by rw [hk,e]))
    rcases hr with hr|hr
    ·simp only [List.map_cons,List.mem_cons] at hr
     exact .inl (hr.resolve_left hik)
    ·exact .inr (by rw [if_neg hik,if_neg hjk];exact hr)
  ·cases h
 |(k,some c)::u,u',h,G,H,hr=>by
  unfold rnU at h
  split at h
  ·rename_i k' d l hk hd hl
   simp only [Option.some.injEq] at h
   subst h
   refine rnU_rel hinj hij hl ?_
   by_cases hik:i=k
   ·subst hik
    rw [hij] at hk
    simp only [Option.some.injEq] at hk
    subst hk
    exact .inr (by rw [if_pos rfl,if_pos rfl];exact .inr ⟨c,d,rfl,rfl,hd⟩)
   ·have hjk:j≠k':=fun e=>hik (hinj i k j hij (by rw [hk,e]))
    rcases hr with hr|hr
    ·simp only [List.map_cons,List.mem_cons] at hr
     exact .inl (hr.resolve_left hik)
    ·exact .inr (by rw [if_neg hik,if_neg hjk];exact hr)
  ·cases h
theorem EffOk.back {ρ ρc ρc':Env} {H G:Nat->Option (Chunk T O)} {Fs Fc Fc':Nat->Nat->Prop} {w w':World} {fresh:Nat} {ids:List Nat} {e e':Eff T O} {v:Value}
  (hp:HeapOk R ρ H Fs w) (hf:Free H fresh) (hnd:ids.Nodup) (hids: ∀k∈ids,k<fresh \/fresh+stride<=k)
  (hρ: ∀i k,ids[i]?=some k->ρc i=ρ k) (hF: ∀i k,ids[i]?=some k->Fc i=Fs k)
  (hG: ∀i k,ids[i]?=some k-> ∃c d,H k=some c/\ G i=some d/\ c.rn (number 0 ids)=some d) (hGn: ∀i,ids.length<=i->G i=none)
  (he:EffOk R ρc G Fc w ids.length e v ρc' Fc' w') (hr:e.rn (numberBack 0 ids++newIds ids.length fresh stride)=some e'):
  ∃ρ' Fs',EffOk R ρ H Fs w fresh e' v ρ' Fs' w':=by
 --the ways there and back
 have inj: ∀i i' k,ids[i]?=some k->ids[i']?=some k->i=i':=fun i i' k h h'=>by
  obtain ⟨h1,h2⟩:=List.getElem?_eq_some_iff.1 h
  obtain ⟨h1',h2'⟩:=List.getElem?_eq_some_iff.1 h'
  exact (List.getElem_inj hnd).1 (h2.trans h2'.symm)
 have hinj: ∀i i' j,lookK i (numberBack 0 ids++newIds ids.length fresh stride)=some j->lookK i' (numberBack 0 ids++newIds ids.length fresh stride)=some j->i=i':=by
  intro i i' j h h'
  rcases lookK_back h with ⟨h1,h2⟩|⟨s,h1,h2,h3⟩<;>rcases lookK_back h' with ⟨h1',h2'⟩|⟨s',h1',h2',h3'⟩
  ·exact inj i i' j h2 h2'
  ·have:=hids j (List.mem_of_getElem? h2);omega
  ·have:=hids j (List.mem_of_getElem? h2');omega
  ·omega
 classical
 let ρ':Env:=fun j=>if fresh<=j/\ j<fresh+stride then ρc' (ids.length+(j-fresh)) else ρ j
 let pos:Nat->Option Nat:=fun j=>ids.findIdx? (· ==j)
 have posS: ∀i k,ids[i]?=some k->pos k=some i:=by
  intro i k h
  obtain ⟨h1,h2⟩:=List.getElem?_eq_some_iff.1 h
  have hs:(ids.findIdx? (· ==k)).isSome:=by rw [List.findIdx?_isSome];exact List.any_eq_true.2 ⟨k,List.mem_of_getElem? h,by simp⟩
  obtain ⟨i',hi'⟩:=Option.isSome_iff_exists.1 hs
  have hi2:=List.findIdx?_eq_some_iff_getElem.1 hi'
  obtain ⟨hl,hk,_⟩:=hi2
  have:i'=i:=inj i' i k (by rw [List.getElem?_eq_getElem hl];simpa using hk) h
  rw [←this];exact hi'
 have posN: ∀k,k∉ids->pos k=none:=by
  intro k hk
  exact List.findIdx?_eq_none_iff.2 fun x hx=>by simp;exact fun e=>hk (by rw [←e];exact hx)
 let Fs':Nat->Nat->Prop:=fun j=>if fresh<=j/\ j<fresh+stride then (if ids.length+(j-fresh)∈e.upd.map (·.1) then Fc' (ids.length+(j-fresh)) else Fs j) else match pos j with
  |some i=>Fc' i
  |none=>Fs j
 have notin: ∀ {k},k∈ids-> ¬(fresh<=k/\ k<fresh+stride):=fun {k} hk=>by have:=hids k hk;omega
 have ρold: ∀i k,ids[i]?=some k->ρ' k=ρc' i:=by
  intro i k h
  have hk:=notin (List.mem_of_getElem? h)
  show (if _ then _ else _)=_
  rw [if_neg hk,he.env i (by have:=(List.getElem?_eq_some_iff.1 h).1;omega),hρ i k h]
 have ρnew: ∀s,s<stride->ρ' (fresh+s)=ρc' (ids.length+s):=by
  intro s hs
  show (if _ then _ else _)=_
  rw [if_pos (by omega)]
  congr 1;omega
 have Fold: ∀i k,ids[i]?=some k->Fs' k=Fc' i:=by
  intro i k h
  have hk:=notin (List.mem_of_getElem? h)
  show (if _ then _ else _)=_
  rw [if_neg hk,posS i k h]
 have Fnew: ∀s,s<stride->ids.length+s∈e.upd.map (·.1)->Fs' (fresh+s)=Fc' (ids.length+s):=by
  intro s hs hin
  have e1:ids.length+(fresh+s-fresh)=ids.length+s:=by omega
  show (if _ then _ else _)=_
  rw [if_pos (by omega),e1,if_pos hin]
 have Fnone: ∀s,s<stride->ids.length+s∉e.upd.map (·.1)->Fs' (fresh+s)=Fs (fresh+s):=by
  intro s hs hin
  have e1:ids.length+(fresh+s-fresh)=ids.length+s:=by omega
  show (if _ then _ else _)=_
  rw [if_pos (by omega),e1,if_neg hin]
 have Foth: ∀j,j∉ids-> ¬(fresh<=j/\ j<fresh+stride)->Fs' j=Fs j:=by
  intro j hj hn
  show (if _ then _ else _)=_
  rw [if_neg hn,posN j hj]
 have back: ∀i j,lookK i (numberBack 0 ids++newIds ids.length fresh stride)=some j->ρ' j=ρc' i:=by
  intro i j h
  rcases lookK_back h with ⟨h1,h2⟩|⟨s,h1,h2,h3⟩
  ·exact ρold i j h2
  ·subst h2;subst h3;exact ρnew s h1
 have backF: ∀i j,lookK i (numberBack 0 ids++newIds ids.length fresh stride)=some j->(i∈e.upd.map (·.1) \/ ∃d,updH e.upd G i=some d)->Fs' j=Fc' i:=by
  intro i j h hi
  rcases lookK_back h with ⟨h1,h2⟩|⟨s,h1,h2,h3⟩
  ·exact Fold i j h2
  ·subst h2;subst h3
   refine Fnew s h1 ?_
   rcases hi with hi|⟨d,hd⟩
   ·exact hi
   ·by_cases hin:ids.length+s∈e.upd.map (·.1)
    ·exact hin
    ·rw [updH_notin hin,hGn _ (by omega)] at hd;cases hd
 have there: ∀k i,lookK k (number 0 ids)=some i->ρc' i=ρ' k:=by
  intro k i h
  obtain ⟨t,h1,h2⟩:=lookK_number h
  have:i=t:=by omega
  subst this
  exact (ρold i k h1).symm
 --the effects
 obtain ⟨hv,hu⟩:(∀sv',e'.val=some sv'-> ∃sv,e.val=some sv/\ sv.rn (numberBack 0 ids++newIds ids.length fresh stride)=some sv')/\ rnU (numberBack 0 ids++newIds ids.length fresh stride) e.upd=some e'.upd:=by
  unfold Eff.rn at hr
  split at hr
  ·rename_i hn
   simp only [Option.map_eq_some_iff] at hr
   obtain ⟨u,hu,rfl⟩:=hr
   exact ⟨fun sv' h=>by simp at h,hu⟩
  ·rename_i sv hs
   split at hr
   ·rename_i sv' u hsv hu
    simp only [Option.some.injEq] at hr
    subst hr
    exact ⟨fun x hx=>by simp only [Option.some.injEq] at hx;subst hx;exact ⟨sv,hs,hsv⟩,hu⟩
   ·cases hr
 have keyB:=rnU_keys hu
 have keyF:=rnU_keys' hu
 --the chunk at j behind the call,by kinds
 have kind: ∀j c',updH e'.upd H j=some c'->(∃i d,lookK i (numberBack 0 ids++newIds ids.length fresh stride)=some j/\ updH e.upd G i=some d/\ (d.owned=c'.owned)/\ (d.holds R ρc' w' (ρc' i) (Fc' i)->c'.holds R ρ' w' (ρ' j) (Fs' j))/\ (j∈e'.upd.map (·.1)->i∈e.upd.map (·.1)))∨
   (j∉ids/\ ¬(fresh<=j/\ j<fresh+stride)/\ H j=some c'):=by
  intro j c' hj
  by_cases hin:j∈e'.upd.map (·.1)
  ·obtain ⟨i,hi,hij⟩:=keyB j hin
   rcases rnU_rel hinj hij hu (G:=G) (H:=H) (.inl hi) with ⟨_,hn⟩|⟨d,d',h1,h2,h3⟩
   ·rw [hn] at hj;cases hj
   ·rw [h2] at hj
    simp only [Option.some.injEq] at hj
    subst hj
    refine .inl ⟨i,d,hij,h1,(Chunk.rn_owned h3).symm,fun hd=> ?_,fun _=>hi⟩
    rw [back i j hij,backF i j hij (.inl hi)]
    exact (Chunk.rn_holds R back h3).2 hd
  ·rw [updH_notin hin] at hj
   by_cases hm:j∈ids
   ·obtain ⟨i,hil,hij⟩:=List.getElem_of_mem hm
    have hi:ids[i]?=some j:=by rw [List.getElem?_eq_getElem hil,hij]
    have hlb:lookK i (numberBack 0 ids++newIds ids.length fresh stride)=some j:=by
     have: ∀(l:List Nat) (b i:Nat) (m:List (Nat×Nat)),l[i]?=some j->lookK (b+i) (numberBack b l++m)=some j:=by
      intro l
      induction l with
      |nil=>intro b i m h;simp at h
      |cons x l ih=>
       intro b i m h
       simp only [numberBack,List.cons_append,lookK]
       cases i with
       |zero=>simp at h;simp [h]
       |succ i=>
        rw [if_neg (by omega)]
        have:=ih (b+1) i m (by simpa using h)
        rwa [show b+1+i=b+(i+1) by omega] at this
     simpa using this ids 0 i _ hi
    obtain ⟨c,d,h1,h2,h3⟩:=hG i j hi
    rw [h1] at hj
    simp only [Option.some.injEq] at hj
    subst hj
    have hiu:i∉e.upd.map (·.1):=fun h=>by
     obtain ⟨k',hk',hl⟩:=keyF i h
     rw [hlb] at hl
     simp only [Option.some.injEq] at hl
     exact hin (by rw [hl];exact hk')
    refine .inl ⟨i,d,hlb,by rw [updH_notin hiu];exact h2,Chunk.rn_owned h3,fun hd=> ?_,fun h=>absurd h hin⟩
    rw [ρold i j hi,Fold i j hi]
    exact (Chunk.rn_holds R there h3).1 hd
   ·refine .inr ⟨hm,fun hr=> ?_,hj⟩
    rw [(hf j hr.1 hr.2).1] at hj
    cases hj
 --what is changed belongs to chunks that were there
 have modOld: ∀i,i∈e.upd.map (·.1)-> ∀d,G i=some d-> ∃k c,ids[i]?=some k/\ H k=some c/\ c.owned=d.owned/\ k∈e'.upd.map (·.1):=by
  intro i hi d hd
  have hil:i<ids.length:=by
   rcases Nat.lt_or_ge i ids.length with h|h
   ·exact h
   ·rw [hGn i h] at hd;cases hd
  have hk:ids[i]?=some ids[i]:=List.getElem?_eq_getElem hil
  obtain ⟨c,d',h1,h2,h3⟩:=hG i _ hk
  rw [h2] at hd
  simp only [Option.some.injEq] at hd
  subst hd
  obtain ⟨k',hk',hl⟩:=keyF i hi
  rcases lookK_back hl with ⟨_,h5⟩|⟨s,h4,h5,_⟩
  ·rw [hk] at h5
   simp only [Option.some.injEq] at h5
   exact ⟨_,c,hk,h1,(Chunk.rn_owned h3).symm,by rw [h5];exact hk'⟩
  ·omega
 have mod: ∀x,(∃k∈e.upd.map (·.1),(∃c,G k=some c/\ c.owned=true)/\ Fc k x)-> ∃k∈e'.upd.map (·.1),(∃c,H k=some c/\ c.owned=true)/\ Fs k x:=by
  rintro x ⟨i,hi,⟨d,hd,hdo⟩,hx⟩
  obtain ⟨k,c,h1,h2,h3,h4⟩:=modOld i hi d hd
  exact ⟨k,h4,⟨c,h2,h3.trans hdo⟩,by rw [←hF i k h1];exact hx⟩
 have roOld: ∀x,(∃k c,G k=some c/\ c.owned=false/\ Fc k x)-> ∃k c,H k=some c/\ c.owned=false/\ Fs k x:=by
  rintro x ⟨i,d,hd,hdo,hx⟩
  have hil:i<ids.length:=by
   rcases Nat.lt_or_ge i ids.length with h|h
   ·exact h
   ·rw [hGn i h] at hd;cases hd
  have hk:ids[i]?=some ids[i]:=List.getElem?_eq_getElem hil
  obtain ⟨c,d',h1,h2,h3⟩:=hG i _ hk
  rw [h2] at hd
  simp only [Option.some.injEq] at hd
  subst hd
  exact ⟨_,c,h1,by rw [←Chunk.rn_owned h3];exact hdo,by rw [←hF i _ hk];exact hx⟩
 refine ⟨ρ',Fs',⟨?_, ?_, ?_,⟨?_, ?_, ?_⟩, ?_, ?_, ?_⟩⟩
 ·intro sv' h
  obtain ⟨sv,h1,h2⟩:=hv sv' h
  rw [he.val sv h1]
  exact (SV.rn_den back sv sv' h2).symm
 ·intro j hj
  show (if _ then _ else _)=_
  rw [if_neg hj]
 ·intro j hj
  by_cases hr:fresh<=j/\ j<fresh+stride
  ·obtain ⟨s,rfl⟩: ∃s,j=fresh+s:=⟨j-fresh,by omega⟩
   refine Fnone s (by omega) ?_
   have hi:ids.length+s∉e.upd.map (·.1):=fun h=>by
    obtain ⟨k',hk',hl⟩:=keyF _ h
    rcases lookK_back hl with ⟨h4,_⟩|⟨s',h4,h5,h6⟩
    ·omega
    ·have:s'=s:=by omega
     subst this;subst h6
     exact hj hk'
   exact hi
  ·by_cases hm:j∈ids
   ·obtain ⟨i,hil,hij⟩:=List.getElem_of_mem hm
    have hi:ids[i]?=some j:=by rw [List.getElem?_eq_getElem hil,hij]
    rw [Fold i j hi,he.fp i ?_,hF i j hi]
    intro h
    obtain ⟨k',hk',hl⟩:=keyF i h
    rcases lookK_back hl with ⟨_,h5⟩|⟨s,_,h5,_⟩
    ·rw [hi] at h5;simp only [Option.some.injEq] at h5;exact hj (by rw [h5];exact hk')
    ·omega
   ·exact Foth j hm hr
 ·intro j
  by_cases hr:fresh<=j/\ j<fresh+stride
  ·show (if _ then _ else _:Value).oneCell'=true
   rw [if_pos hr];exact he.hp.one _
  ·show (if _ then _ else _:Value).oneCell'=true
   rw [if_neg hr];exact hp.one _
 ·intro j c' hj
  rcases kind j c' hj with ⟨i,d,h1,h2,h3,h4,_⟩|⟨h1,h2,h3⟩
  ·exact h4 (he.hp.holds i d h2)
  ·rw [Foth j h1 h2]
   have:ρ' j=ρ j:=by show (if _ then _ else _)=_;rw [if_neg h2]
   rw [this]
   refine Chunk.holds_congr R (Chunk.holds_stable R (hp.holds j c' h3) (fun x hx=> ?_) he.kept.size) (fun id hid=> ?_)
   ·refine he.kept.block x (hp.lt R h3 x hx) (fun hM=> ?_)
    obtain ⟨k,hk,⟨c,hc,hco⟩,hxk⟩:=mod x hM
    refine hp.sep k j c c' hc h3 (fun e=> ?_) hco x hxk hx
    subst e
    obtain ⟨i,_,hi⟩:=keyB k hk
    rcases lookK_back hi with ⟨_,h5⟩|⟨s,h5,_,h6⟩
    ·exact h1 (List.mem_of_getElem? h5)
    ·exact h2 ⟨by omega,by omega⟩
   ·show _=(if _ then _ else _)
    rw [if_neg (fun hr=>(hf id hr.1 hr.2).2 j c' h3 hid)]
 ·intro j j' c c' hj hj' hne ho x hx
  have own: ∀i d,updH e.upd G i=some d-> ∀x,Fc' i x->(i∉e.upd.map (·.1)/\ Fc i x) \/(w.heap.size<=x \/(∃k∈e'.upd.map (·.1),(∃c,H k=some c/\ c.owned=true)/\ Fs k x) \/(d.owned=false/\ ∃k c,H k=some c/\ c.owned=false/\ Fs k x)):=by
   intro i d hd x hx
   by_cases hi:i∈e.upd.map (·.1)
   ·rcases he.new i hi d hd x hx with h|h|⟨h,h'⟩
    ·exact .inr (.inl h)
    ·exact .inr (.inr (.inl (mod x h)))
    ·exact .inr (.inr (.inr ⟨h,roOld x h'⟩))
   ·rw [he.fp i hi] at hx
    exact .inl ⟨hi,hx⟩
  --one of the callee's against one of the others
  have cross: ∀i d j1 c1,lookK i (numberBack 0 ids++newIds ids.length fresh stride)=some j1->updH e.upd G i=some d-> ∀j2 c2,j2∉ids-> ¬(fresh<=j2/\ j2<fresh+stride)->H j2=some c2->(d.owned=c1)->(c1=true \/c2.owned=true)-> ∀x,Fc' i x-> ¬Fs j2 x:=by
   intro i d j1 c1 hi hd j2 c2 hn2 hr2 hc2 hdo hown x hx hx2
   have hlt:=hp.lt R hc2 x hx2
   rcases own i d hd x hx with ⟨hiu,hxi⟩|hge|⟨k,hk,⟨c,hc,hco⟩,hxk⟩|⟨hno,k,c,hc,hcn,hxk⟩
   ·rw [updH_notin hiu] at hd
    have hil:i<ids.length:=by
     rcases Nat.lt_or_ge i ids.length with h|h
     ·exact h
     ·rw [hGn i h] at hd;cases hd
    have hk:ids[i]?=some ids[i]:=List.getElem?_eq_getElem hil
    obtain ⟨c,d',h1,h2,h3⟩:=hG i _ hk
    rw [h2] at hd
    simp only [Option.some.injEq] at hd
    subst hd
    rw [hF i _ hk] at hxi
    have hne:ids[i]≠j2:=fun e=>hn2 (by rw [←e];exact List.getElem_mem hil)
    rcases hown with h|h
    ·exact hp.sep _ _ c c2 h1 hc2 hne (by rw [←Chunk.rn_owned h3,hdo];exact h) x hxi hx2
    ·exact hp.sep _ _ c2 c hc2 h1 (fun e=>hne e.symm) h x hx2 hxi
   ·omega
   ·have hne:k≠j2:=fun e=>by
     subst e
     obtain ⟨i',_,hi'⟩:=keyB k hk
     rcases lookK_back hi' with ⟨_,h5⟩|⟨s,h5,_,h6⟩
     ·exact hn2 (List.mem_of_getElem? h5)
     ·exact hr2 ⟨by omega,by omega⟩
    exact hp.sep k j2 c c2 hc hc2 hne hco x hxk hx2
   ·rcases hown with h|h
    ·rw [hno] at hdo;rw [←hdo] at h;cases h
    ·by_cases e:j2=k
     ·subst e
      rw [hc] at hc2
      simp only [Option.some.injEq] at hc2
      subst hc2
      rw [hcn] at h;cases h
     ·exact hp.sep j2 k c2 c hc2 hc e h x hx2 hxk
  rcases kind j c hj with ⟨i,d,h1,h2,h3,_,_⟩|⟨h1,h2,h3⟩<;>rcases kind j' c' hj' with ⟨i',d',h1',h2',h3',_,_⟩|⟨h1',h2',h3'⟩
  ·rw [backF i j h1 (.inr ⟨d,h2⟩)] at hx
   rw [backF i' j' h1' (.inr ⟨d',h2'⟩)]
   refine he.hp.sep i i' d d' h2 h2' (fun e=>hne ?_) (h3.trans ho) x hx
   subst e
   rw [h1] at h1'
   simpa using h1'
  ·rw [backF i j h1 (.inr ⟨d,h2⟩)] at hx
   rw [Foth j' h1' h2']
   exact cross i d j c.owned h1 h2 j' c' h1' h2' h3' h3 (.inl ho) x hx
  ·rw [Foth j h1 h2] at hx
   rw [backF i' j' h1' (.inr ⟨d',h2'⟩)]
   intro hx'
   exact cross i' d' j' c'.owned h1' h2' j c h1 h2 h3 h3' (.inr ho) x hx' hx
  ·rw [Foth j h1 h2] at hx
   rw [Foth j' h1' h2']
   exact hp.sep j j' c c' h3 h3' hne ho x hx
 ·exact he.kept.mono fun x _ hx=>mod x hx
 ·intro k hk c hc x hx
  rcases kind k c hc with ⟨i,d,h1,h2,h3,_,h5⟩|⟨h1,h2,h3⟩
  ·rw [backF i k h1 (.inr ⟨d,h2⟩)] at hx
   rcases he.new i (h5 hk) d h2 x hx with h|h|⟨h,h'⟩
   ·exact .inl h
   ·exact .inr (.inl (mod x h))
   ·exact .inr (.inr ⟨h3▸h,roOld x h'⟩)
  ·obtain ⟨i',_,hi'⟩:=keyB k hk
   rcases lookK_back hi' with ⟨_,h5⟩|⟨s,h5,_,h6⟩
   ·exact absurd (List.mem_of_getElem? h5) h1
   ·exact absurd ⟨by omega,by omega⟩ h2
 ·intro k hk
  obtain ⟨i,hi,hik⟩:=keyB k hk
  rcases lookK_back hik with ⟨h4,h5⟩|⟨s,h4,h5,h6⟩
  ·rcases he.mod i hi with ⟨d,hd,hdo⟩|⟨h6,h7⟩
   ·obtain ⟨k',c,g1,g2,g3,_⟩:=modOld i hi d hd
    rw [h5] at g1
    simp only [Option.some.injEq] at g1
    subst g1
    exact .inl ⟨c,g2,g3.trans hdo⟩
   ·omega
  ·exact .inr ⟨by omega,by omega⟩
end
end Go.Sx