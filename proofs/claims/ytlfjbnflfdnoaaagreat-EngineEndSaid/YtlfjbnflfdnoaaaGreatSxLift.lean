/-
  Part of a proof over the seat YtlfjbnflfdnoaaaGreat: printed by a small program or typed by hand.
-/
import Derived.Test.YtlfjbnflfdnoaaaGreatSxArith
import Derived.ProofKit
/-
 Sx:from a contract to a row:a law that answers true and turns nothing that was there.
-/
namespace Go.Sx
open Go.RowKit
theorem Kept.below {W W':World} (h:Kept (fun _=>False) W W'):Below W.heap.size W W':=⟨h.os,h.tape,h.output,h.size,fun k hk=>h.block k hk id⟩
section
variable {H:Type} {enc:TypeId×Value->H} {P:Program}
theorem below_trodAll (hl:laidOutB P=true) {W W':World} (hb:Below W.heap.size W W'): ∀ {ts:List TypeId} {vs:List Value} {ds:List (DataW H)} {ps:List MemPlace},(∀t∈ts,P.readableRec t=true/\ t<P.types.size)→
  DataW.TrodAll enc P W 0 (fun _=>true) true ts vs ds ps->(∀p∈ps,p.block<W.heap.size)-> ∀sp:Nat->Bool,(∀p∈ps,sp p.block=true)->DataW.TrodAll enc P W' 0 sp true ts vs ds ps
 |[],[],[],ps,_,h,_,_,_=>h
 |[],[],_::_,_,_,h,_,_,_=>h.elim
 |[],_::_,_,_,_,h,_,_,_=>h.elim
 |_::_,[],_,_,_,h,_,_,_=>h.elim
 |_::_,_::_,[],_,_,h,_,_,_=>h.elim
 |t::ts,v::vs,d::ds,ps,hts,h,hlt,sp,hsp=>by
  obtain ⟨p,q,h1,h2,rfl⟩:=h
  obtain ⟨hr,hrow⟩:=hts t (by simp)
  refine ⟨p,q, ?_,below_trodAll hl hb (fun u hu=>hts u (by simp [hu])) h2 (fun x hx=>hlt x (by simp [hx])) sp (fun x hx=>hsp x (by simp [hx])),rfl⟩
  exact WideElems.Trod_stays hl hr hrow h1 (fun x hx=>hb.same (hlt x (by simp [hx]))) (fun x hx=>hsp x (by simp [hx]))
theorem trodAll_length {W:World} {base:Nat} {sp:Nat->Bool} {held:Bool}: ∀ {ts:List TypeId} {vs:List Value} {ds:List (DataW H)} {ps:List MemPlace},DataW.TrodAll enc P W base sp held ts vs ds ps->vs.length=ts.length/\ ds.length=ts.length
 |[],[],[],_,_=>⟨rfl,rfl⟩
 |[],[],_::_,_,h=>h.elim
 |[],_::_,_,_,h=>h.elim
 |_::_,[],_,_,h=>h.elim
 |_::_,_::_,[],_,h=>h.elim
 |_::_,_::_,_::_,_,h=>by
  obtain ⟨p,q,_,h2,_⟩:=h
  obtain ⟨a,b⟩:=trodAll_length h2
  simp [a,b]
theorem post_law {f:Func} {s:ChangeSpec} {apart fresh handsOn again:Bool} {W W':World} {args:Array Value} {ds gs:List (DataW H)} {before:List MemPlace} {tb:TypeId} (hl:laidOutB P=true)
  (hts: ∀t∈f.params.toList,P.readableRec t=true/\ t<P.types.size) (hres:f.resultTypes= #[tb]) (htb:P.underlying tb=some .bool) (hvars:s.vars=[])
  (hfn: ∀l:List (DataW H),l.length=f.params.toList.length->s.fn H l= { results:=[.lit (.bool true)],args:=l,vars:=[] })
  (hW:DataW.Whole enc P f.params.toList s.vars apart W args.toList ds gs before) (hb:Below W.heap.size W W'):s.post enc P f apart fresh handsOn again W args (.bool true) W':=by
 have hlt: ∀p∈before,p.block<W.heap.size:=hW.lt
 have hW':=hW
 obtain ⟨p,q,hA,hV,rfl,hz,hn⟩:=hW
 rw [hvars] at hV
 obtain ⟨rfl,rfl⟩:gs=[]/\ q=[]:=by
  cases gs with
  |nil=>exact ⟨rfl,hV⟩
  |cons g gs=>exact hV.elim
 obtain ⟨_,hlen⟩:=trodAll_length hA
 have hf:=hfn ds hlen
 have hargs: ∀sp:Nat->Bool,(∀x∈p,sp x.block=true)->DataW.TrodAll enc P W' 0 sp true f.params.toList args.toList ds p:=below_trodAll hl hb hts hA (fun x hx=>hlt x (by simp [hx]))
 have hr: ∀(b:Nat) (sp:Nat->Bool) (hd:Bool),DataW.TrodAll enc P W' b sp hd f.resultTypes.toList ((Value.bool true).resultList f.resultTypes.size) [.lit (.bool true)] []:=by
  intro b sp hd
  rw [hres]
  exact ChangeShapes.trodAll_mk1 (shut_bool htb true)
 refine ⟨ds,[],p++[],[],p,[],hW', ?_, ?_, ?_,hb.frame _,fun _=>⟨?_, ?_⟩⟩
 ·rw [List.append_nil,hf];exact hr _ _ _
 ·rw [List.append_nil,hf]
  exact hargs _ (fun x hx=>by simpa using hlt x (by simp [hx]))
 ·rw [List.append_nil,hf,hvars];rfl
 ·exact ok_one hres rfl (okWide_bool_mk htb true)
 ·refine ⟨_,[],([]++p)++[],⟨[]++p,[],ChangeShapes.trodAll_append (hargs _ (fun _ _=>rfl)) (hr 0 _ true),by rw [hvars];rfl,rfl, ?_, ?_⟩, ?_⟩
  ·intro b off hp
   have hp':MemPlace.cell b off∈p++[]:=by simpa using hp
   have:=hlt _ hp'
   rw [hb.frozen (p:=⟨b,off,none⟩) this]
   exact hz b off hp'
  ·intro ha
   simpa using hn ha
  ·intro x hx _
   simpa using hx
end
section
variable {T:Nat->Enc} {O:Nat->Type} (R:Objs O)
theorem law_calls {P:Program} {f:FuncId} {con:Con T O} (h:ConOk R P f con) (henter: ∀(as:Array Value) (w:World),(callFunc f as).run P w= .ok (.enter f as) w) {args:List SV} {cs:List (Chunk T O)}
  (hK:(con args cs).holds (· = { val:=some (.raw (.bool true)) })) (ha: ∀id∈idsL args,id<cs.length) (hc: ∀c∈cs,∀id∈c.ids,id<cs.length) {ρ:Env} {Fs:Nat->Nat->Prop} {W:World} (hp:HeapOk R ρ (listG cs) Fs W):
  Calls P f (denL ρ args).toArray W fun en W'=>en= .returned (.bool true)/\ Below W.heap.size W W':=by
 obtain ⟨f',he,hcalls⟩:=h args cs _ hK ha hc ρ Fs W hp
 have hf:f'=f:=by
  have:=(he #[] W).symm.trans (henter #[] W)
  simp only [Result.ok.injEq,Next.enter.injEq] at this
  exact this.1.1
 subst hf
 refine hcalls.mono ?_
 rintro en W' ⟨e,v,ρ',Fs',rfl,rfl,hok⟩
 refine ⟨by rw [hok.val _ rfl];rfl,Kept.below (hok.kept.mono ?_)⟩
 rintro x _ ⟨k,hk,_⟩
 simp at hk
theorem heapOk_nil (W:World):HeapOk R (fun _=> .bool true) (listG ([]:List (Chunk T O))) (fun _ _=>False) W:=
 ⟨fun _=>rfl,fun k c h=>by simp [listG] at h,fun k _ c _ h=>by simp [listG] at h⟩
end
theorem cell_int {P:Program} {w:World} {r:Reach} {base:Nat} {t:TypeId} {v:Value} {k:IntKind} (ht:P.underlying t=some (.int k)) (h:Cell.okWide P w r base t v): ∃n,v= .int k n/\ k.has n:=by
 unfold Cell.okWide at h
 rw [ht] at h
 simp only at h
 unfold Cell.ok at h
 rw [ht] at h
 cases v<;>simp only at h<;>try exact h.elim
 exact ⟨_,by rw [h.1],h.2⟩
theorem val_int {P:Program} {w:World} {r:Reach} {base:Nat} {t:TypeId} {v:Value} {k:IntKind} (ht:P.underlying t=some (.int k)) (h:Value.okWide P w r base t v): ∃n,v= .int k n/\ k.has n:=by
 unfold Value.okWide at h
 rw [ht] at h
 exact cell_int ht h
theorem arr3 {α:Type} {a:Array α} (h:a.toList.length=3): ∃x y z,a= #[x,y,z]:=by
 obtain ⟨l⟩:=a
 match l,h with
 |[x,y,z],_=>exact ⟨x,y,z,rfl⟩
end Go.Sx