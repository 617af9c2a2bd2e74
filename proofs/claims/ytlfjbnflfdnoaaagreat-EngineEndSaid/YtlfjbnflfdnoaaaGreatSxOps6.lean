/-
  Part of a proof over the seat YtlfjbnflfdnoaaaGreat: printed by a small program or typed by hand.
-/
import Derived.Test.YtlfjbnflfdnoaaaGreatSxOps5
/-
 Sx:maps;rows that are made.
-/
namespace Go.Sx
section
variable {T:Nat->Enc} {O:Nat->Type} (R:Objs O)
def ents (E:Enc) (es:List MapEntry) (L:List (Int×E.α)):Prop:=es.map (fun m=>(m.key,m.val))=L.map fun p=>(kval E.skey p.1,E.val p.2)
theorem oneB_inj {k j:Int} (hk:0<=k/\ k<256) (hj:0<=j/\ j<256) (h:oneB k=oneB j):k=j:=by
 unfold oneB at h
 have h2:UInt8.ofNat k.toNat=UInt8.ofNat j.toNat:=by
  have:=congrArg (fun b:ByteArray=>b.data.toList) h
  simpa using this
 have h3:=congrArg UInt8.toNat h2
 simp only [UInt8.toNat_ofNat'] at h3
 omega
theorem oneB_beq (k j:Int):(oneB k==oneB j)=(UInt8.ofNat k.toNat==UInt8.ofNat j.toNat):=by
 show ((#[UInt8.ofNat k.toNat]:Array UInt8)== #[UInt8.ofNat j.toNat])=_
 simp
theorem kval_inj {s:Bool} {k j:Int} (hk:kok s k) (hj:kok s j) (h:kval s k=kval s j):k=j:=by
 cases s with
 |false=>simpa [kval] using h
 |true=>exact oneB_inj (hk rfl) (hj rfl) (by simpa [kval] using h)
theorem sameNow_k {s:Bool} {k j:Int} (hk:kok s k) (hj:kok s j):Instr.sameNow (kdesc s) (kval s k) (kval s j)=some (k==j):=by
 cases s with
 |false=>simp [Instr.sameNow,kdesc,kval]
 |true=>
  simp only [Instr.sameNow,kdesc,kval,Option.some.injEq]
  rw [oneB_beq,Bool.eq_iff_iff,beq_iff_eq,beq_iff_eq]
  exact ⟨fun e=>oneB_inj (hk rfl) (hj rfl) (by unfold oneB;rw [e]),fun e=>by rw [e]⟩
theorem findNow_ents {E:Enc} (k:Int) (hk0:kok E.skey k): ∀(es:List MapEntry) (L:List (Int×E.α)) (i:Nat),(∀p∈L,kok E.skey p.1)->ents E es L→
  Instr.findNow (kdesc E.skey) (kval E.skey k) es i=some (match L.findIdx? (fun p=>p.1==k) with
   |some j=>some (i+j,match mget k L with
    |some a=>E.val a
    |none=>undef)
   |none=>none)
 |[],[],i,_,_=>rfl
 |[],_::_,i,_,h=>by simp [ents] at h
 |_::_,[],i,_,h=>by simp [ents] at h
 |m::es,(j,a)::L,i,hok,h=>by
  simp only [ents,List.map_cons,List.cons.injEq,Prod.mk.injEq] at h
  obtain ⟨⟨h1,h2⟩,h3⟩:=h
  have ih:=findNow_ents k hk0 es L (i+1) (fun p hp=>hok p (List.mem_cons_of_mem _ hp)) h3
  unfold Instr.findNow
  rw [h1,sameNow_k hk0 (hok (j,a) (by simp))]
  simp only
  by_cases hk:j=k
  ·subst hk
   simp [List.findIdx?_cons,mget,h2]
  ·have hk':(k==j)=false:=by simpa using fun e=>hk e.symm
   have hk2:(j==k)=false:=by simpa using hk
   rw [hk']
   simp only
   rw [ih]
   simp only [List.findIdx?_cons,hk2,mget,if_neg hk]
   cases L.findIdx? (fun p=>p.1==k) with
   |none=>rfl
   |some q=>simp [Nat.add_comm 1 q,Nat.add_assoc]
theorem mget_none {α:Type} {k:Int}: ∀ {L:List (Int×α)},mget k L=none↔k∉L.map (·.1)
 |[]=>by simp [mget]
 |(j,a)::L=>by
  simp only [mget]
  by_cases h:j=k
  ·simp [h]
  ·rw [if_neg h,mget_none (L:=L)]
   simp [show ¬k=j from fun e=>h e.symm]
theorem findIdx_none {α:Type} {k:Int} {L:List (Int×α)}:L.findIdx? (fun p=>p.1==k)=none↔mget k L=none:=by
 rw [mget_none,List.findIdx?_eq_none_iff]
 simp only [beq_eq_false_iff_ne,List.mem_map,not_exists,not_and]
theorem mput_keys {α:Type} (k:Int) (a:α): ∀L:List (Int×α),(mput k a L).map (·.1)=if k∈L.map (·.1) then L.map (·.1) else L.map (·.1)++[k]
 |[]=>by simp [mput]
 |(j,b)::L=>by
  simp only [mput]
  by_cases h:j=k
  ·subst h;simp
  ·rw [if_neg h]
   simp only [List.map_cons,mput_keys k a L,List.mem_cons,show ¬k=j from fun e=>h e.symm,false_or]
   split<;>simp
theorem mput_nodup {α:Type} (k:Int) (a:α) (L:List (Int×α)) (h:(L.map (·.1)).Nodup):((mput k a L).map (·.1)).Nodup:=by
 rw [mput_keys]
 split
 ·exact h
 ·rename_i hk
  rw [List.nodup_append]
  exact ⟨h,by simp,fun x hx y hy=>by simp at hy;subst hy;rintro rfl;exact hk hx⟩
theorem mput_ok {α:Type} {s:Bool} {k:Int} {a:α} {L:List (Int×α)} (h: ∀p∈L,kok s p.1) (hk:kok s k): ∀p∈mput k a L,kok s p.1:=by
 intro p hp
 have h1:p.1∈(mput k a L).map (·.1):=List.mem_map.2 ⟨p,hp,rfl⟩
 rw [mput_keys] at h1
 split at h1
 ·obtain ⟨q,hq,e⟩:=List.mem_map.1 h1
  rw [←e];exact h q hq
 ·rcases List.mem_append.1 h1 with h1|h1
  ·obtain ⟨q,hq,e⟩:=List.mem_map.1 h1
   rw [←e];exact h q hq
  ·rw [List.mem_singleton.1 h1];exact hk
theorem mdel_sub {α:Type} (k:Int): ∀L:List (Int×α),(mdel k L).Sublist L
 |[]=>by simp [mdel]
 |(j,b)::L=>by
  simp only [mdel]
  split
  ·exact List.sublist_cons_self _ _
  ·exact (mdel_sub k L).cons_cons _
theorem mdel_nodup {α:Type} (k:Int) (L:List (Int×α)) (h:(L.map (·.1)).Nodup):((mdel k L).map (·.1)).Nodup:=h.sublist ((mdel_sub k L).map _)
theorem ents_put {E:Enc} (k:Int) (a:E.α): ∀(es:List MapEntry) (L:List (Int×E.α)) (j:Nat),ents E es L->L.findIdx? (fun p=>p.1==k)=some j→
  ents E (es.modify j fun e=> { e with key:=kval E.skey k,val:=E.val a }) (mput k a L)
 |[],[],j,_,h=>by simp at h
 |[],_::_,_,h,_=>by simp [ents] at h
 |_::_,[],_,h,_=>by simp [ents] at h
 |m::es,(i,b)::L,j,h,hj=>by
  simp only [ents,List.map_cons,List.cons.injEq,Prod.mk.injEq] at h
  obtain ⟨⟨h1,h2⟩,h3⟩:=h
  rw [List.findIdx?_cons] at hj
  by_cases hk:i=k
  ·subst hk
   simp at hj
   subst hj
   simp only [ents,mput,if_true,List.map_cons,List.modify_zero_cons]
   rw [h3]
  ·have hk2:(i==k)=false:=by simpa using hk
   rw [hk2] at hj
   simp only [Bool.false_eq_true,if_false,Option.map_eq_some_iff] at hj
   obtain ⟨q,hq,rfl⟩:=hj
   have ih:=ents_put k a es L q h3 hq
   simp only [ents,mput,if_neg hk,List.modify_succ_cons,List.map_cons,h1,h2]
   rw [ih]
theorem ents_del {E:Enc} (k:Int): ∀(es:List MapEntry) (L:List (Int×E.α)) (j:Nat),ents E es L->L.findIdx? (fun p=>p.1==k)=some j->ents E (es.eraseIdx j) (mdel k L)
 |[],[],j,_,h=>by simp at h
 |[],_::_,_,h,_=>by simp [ents] at h
 |_::_,[],_,h,_=>by simp [ents] at h
 |m::es,(i,b)::L,j,h,hj=>by
  simp only [ents,List.map_cons,List.cons.injEq,Prod.mk.injEq] at h
  obtain ⟨⟨h1,h2⟩,h3⟩:=h
  rw [List.findIdx?_cons] at hj
  by_cases hk:i=k
  ·subst hk
   simp at hj
   subst hj
   simp only [ents,mdel,if_true,List.eraseIdx_cons_zero]
   exact h3
  ·have hk2:(i==k)=false:=by simpa using hk
   rw [hk2] at hj
   simp only [Bool.false_eq_true,if_false,Option.map_eq_some_iff] at hj
   obtain ⟨q,hq,rfl⟩:=hj
   have ih:=ents_del k es L q h3 hq
   simp only [ents,mdel,if_neg hk,List.eraseIdx_cons_succ,List.map_cons,h1,h2]
   rw [ih]
theorem mput_new {α:Type} (k:Int) (a:α): ∀L:List (Int×α),mget k L=none->mput k a L=L++[(k,a)]
 |[],_=>rfl
 |(j,b)::L,h=>by
  simp only [mget] at h
  split at h
  ·cases h
  ·rename_i hj
   simp only [mput,if_neg hj,List.cons_append,mput_new k a L h]
theorem mdel_none {α:Type} (k:Int): ∀L:List (Int×α),mget k L=none->mdel k L=L
 |[],_=>rfl
 |(j,b)::L,h=>by
  simp only [mget] at h
  split at h
  ·cases h
  ·rename_i hj
   simp only [mdel,if_neg hj,mdel_none k L h]
theorem ents_key {E:Enc} {k:Int}: ∀ {es:List MapEntry} {L:List (Int×E.α)} {j:Nat},ents E es L->L.findIdx? (fun p=>p.1==k)=some j-> ∃m,es[j]?=some m/\ m.key=kval E.skey k
 |[],[],j,_,h=>by simp at h
 |[],_::_,_,h,_=>by simp [ents] at h
 |_::_,[],_,h,_=>by simp [ents] at h
 |m::es,(i,b)::L,j,h,hj=>by
  simp only [ents,List.map_cons,List.cons.injEq,Prod.mk.injEq] at h
  obtain ⟨⟨h1,h2⟩,h3⟩:=h
  rw [List.findIdx?_cons] at hj
  by_cases hk:i=k
  ·subst hk
   simp at hj
   subst hj
   exact ⟨m,rfl,h1⟩
  ·have hk2:(i==k)=false:=by simpa using hk
   rw [hk2] at hj
   simp only [Bool.false_eq_true,if_false,Option.map_eq_some_iff] at hj
   obtain ⟨q,hq,rfl⟩:=hj
   simpa using ents_key h3 hq
section
variable {ρ:Env} {H:Nat->Option (Chunk T O)} {Fs:Nat->Nat->Prop} {w w':World} {fresh:Nat} {K:Eff T O->Prop} (X:Ctx T O)
theorem run_findKey {P:Program} {E:Enc} {kt:TypeId} {k:Int} (hk0:kok E.skey k) {es:Array MapEntry} {L:List (Int×E.α)} (hok: ∀p∈L,kok E.skey p.1) (hu:P.underlying kt=some (kdesc E.skey)) (h:ents E es.toList L):
  (Instr.findKey kt (kval E.skey k) es.toList).run P w= .ok (match L.findIdx? (fun p=>p.1==k) with
   |some j=>some (j,match mget k L with
    |some a=>E.val a
    |none=>undef)
   |none=>none) w:=by
 simp only [Instr.findKey,Sem.run_bind,run_underlying hu,Result.andThen_ok,findNow_ents k hk0 es.toList L 0 hok h,Sem.run_pure,Nat.zero_add]
theorem run_checkKey {P:Program} {s:Bool} {kt:TypeId} {k:Int} (em:Bool) (hu:P.underlying kt=some (kdesc s)):(Instr.checkKey em 10000 kt (kval s k)).run P w= .ok () w:=by
 rw [show (10000:Nat)=9999+1 from rfl]
 unfold Instr.checkKey
 simp only [Sem.run_bind,run_underlying hu,Result.andThen_ok]
 cases s<;>rfl
theorem stays_same {s:Bool} {n:Int}:Instr.keyThatStays (kval s n) (kval s n)=pure (kval s n):=by
 cases s<;>simp [kval,Instr.keyThatStays,Instr.sameBits,oneB_beq]
theorem valT_den {e:Nat} {a:(T e).α} {v:SV} (h:valT e a=some v):v.den ρ=(T e).val a:=by
 unfold valT at h
 unfold Enc.val
 split at h
 ·rename_i ha
  simp only [Option.some.injEq] at h
  subst h
  rw [ha]
  simp [SV.den,enc_den]
 ·rename_i ha
  rw [ha]
  split at h
  ·rename_i u hu
   simp only [Option.some.injEq] at h
   subst h
   simp only
   rw [←enc_den (T e) ρ a,hu]
   rfl
  ·cases h
theorem decV_den {e:Nat} {a:(T e).α} {v:SV} (h:decV e v=some a):v.den ρ=(T e).val a:=by
 unfold decV at h
 unfold Enc.val
 split at h
 ·rename_i ha
  rw [ha]
  split at h
  ·rename_i cs
   simp only [SV.den]
   rw [←enc_den (T e) ρ a,(T e).back _ _ h]
  ·cases h
 ·rename_i ha
  rw [ha]
  simp only
  rw [←enc_den (T e) ρ a,(T e).back _ _ h]
  rfl
theorem zeroE_run {el:TypeId} {e:Nat} {z:(T e).α} (h:zeroE X el e=some z):(zeroValue el).run X.P w= .ok ((T e).val z) w:=by
 unfold zeroE at h
 split at h
 ·rename_i i hi
  split at h
  ·rename_i zv hz
   have:=decV_den (ρ:=fun _=> .nilFunc) h
   rw [svOf_den] at this
   simp [zeroValue,typeInfo,hi,hz,this]
  ·cases h
 ·cases h
theorem oneB_code (c:UInt8):oneB (c.toNat:Int)=⟨#[c]⟩:=by
 unfold oneB
 rw [Int.toNat_natCast,UInt8.ofNat_toNat]
theorem keyI_elim {s:Bool} {kt:TypeId} {key:SV} {n:Int} (h:keyI X s kt key=some n):X.P.underlying kt=some (kdesc s)/\ key= .raw (kval s n)/\ kok s n:=by
 unfold keyI at h
 split at h
 ·split at h
  ·rename_i hu
   simp only [Option.some.injEq] at h
   exact ⟨hu,by rw [h];rfl,fun e=>by cases e⟩
  ·cases h
 ·split at h
  ·rename_i b hu
   split at h
   ·rename_i c hc
    simp only [Option.some.injEq] at h
    subst h
    have hb:b=⟨#[c]⟩:=by
     obtain ⟨d⟩:=b
     have:d= #[c]:=by
      apply Array.toList_inj.1
      simpa using hc
     rw [this]
    have hc:=c.toNat_lt
    exact ⟨hu,by rw [hb,←oneB_code];rfl,fun _=>⟨by omega,by omega⟩⟩
   ·cases h
  ·cases h
theorem lookE_ok {kt el:TypeId} {e:Nat} {n:Int} {L:List (Int×(T e).α)} {ok:Bool} (h:(lookE X el e n L ok:Tree (Eff T O)).holds K) (hp:HeapOk R ρ H Fs w) {m:Value} {t:TypeId} (hu:X.P.underlying t=some (.map kt el))
  (hk:X.P.underlying kt=some (kdesc (T e).skey)) (hk0:kok (T e).skey n) (hok: ∀p∈L,kok (T e).skey p.1) {es:Array MapEntry} (hes:ents (T e) es.toList L) (hm:(m= .map none/\ es= #[]) \/ ∃b clock,m= .map (some b)/\ w.heap[b]?=some (.map es clock)):
  ∃v,(Instr.lookup t m (kval (T e).skey n) ok).run X.P w= .ok v w/\ OpOk R ρ H Fs w fresh K v w:=by
 unfold lookE at h
 split at h
 ·rename_i z hz
  split at h
  ·rename_i v hv
   have hrun:(Instr.lookup t m (kval (T e).skey n) ok).run X.P w= .ok (if ok then .tuple #[v.den ρ, .bool (mget n L).isSome] else v.den ρ) w:=by
    have hvd:=valT_den (ρ:=ρ) hv
    have fin:(do
      match←Instr.findKey kt (kval (T e).skey n) es.toList with
      |some (_,v)=>do
       let x←pure (v,true)
       pure (if ok then Value.tuple #[x.1, .bool x.2] else x.1)
      |none=>do
       let x←do pure (←zeroValue el,false)
       pure (if ok then Value.tuple #[x.1, .bool x.2] else x.1):Sem Value).run X.P w= .ok (if ok then .tuple #[v.den ρ, .bool (mget n L).isSome] else v.den ρ) w:=by
     simp only [Sem.run_bind,run_findKey (w:=w) hk0 hok hk hes,Result.andThen_ok]
     cases hf:L.findIdx? (fun p=>p.1==n) with
     |none=>
      have hg:=findIdx_none.1 hf
      simp only [Sem.run_bind,zeroE_run (w:=w) X hz,Result.andThen_ok,Sem.run_pure]
      rw [hvd,hg]
      rfl
     |some j=>
      cases hg:mget n L with
      |none=>rw [findIdx_none.2 hg] at hf;cases hf
      |some a=>
       simp only [Sem.run_pure,Result.andThen_ok]
       rw [hvd,hg]
       rfl
    rcases hm with ⟨rfl,rfl⟩|⟨b,clock,rfl,hb⟩
    ·unfold Instr.lookup
     simp only [Sem.run_bind,run_underlying hu,Result.andThen_ok,Sem.run_pure,run_checkKey (w:=w) _ hk] at fin ⊢
     exact fin
    ·have hget:(getObj b).run X.P w= .ok (.map es clock) w:=by simp [getObj,Sem.run,hb]
     unfold Instr.lookup
     simp only [Sem.run_bind,run_underlying hu,Result.andThen_ok,hget,Sem.run_pure,run_checkKey (w:=w) _ hk] at fin ⊢
     exact fin
   refine ⟨_,hrun,OpOk.pure R hp h ?_⟩
   cases ok<;>simp [SV.den,denL]
  ·exact h.elim
 ·exact h.elim
theorem map_ents {E:Enc} {es:Array MapEntry} {L:List (Int×E.α)} (h:es.toList.map (fun m=>(m.key,m.val))=L.map (fun p=>(kval E.skey p.1,E.val p.2))):ents E es.toList L:=h
theorem lookup_ok {t:TypeId} {m key:SV} {ok:Bool} (h:(lookupT X t m key ok (headC H m):Tree (Eff T O)).holds K) (hp:HeapOk R ρ H Fs w):
  ∃v,(Instr.lookup t (m.den ρ) (key.den ρ) ok).run X.P w= .ok v w/\ OpOk R ρ H Fs w fresh K v w:=by
 unfold lookupT at h
 split at h
 ·rename_i kt el hu
  split at h
  ·rename_i k e L hc
   split at h
   ·rename_i n hk
    obtain ⟨hkt,rfl,hk0⟩:=keyI_elim X hk
    simp only [headC,SV.head] at hc
    obtain ⟨b,es,clock,hv,hb,hes,hnd,_⟩:=hp.holds k _ hc
    exact lookE_ok R X h hp hu hkt hk0 hnd.2.1 (map_ents hes) (.inr ⟨b,clock,by simp [SV.den,hv],hb⟩)
   ·exact h.elim
  ·split at h
   ·rename_i e he
    split at h
    ·rename_i n hk
     obtain ⟨hkt,rfl,hk0⟩:=keyI_elim X hk
     exact lookE_ok R X h hp hu hkt hk0 (by simp) (es:= #[]) (L:=[]) rfl (.inl ⟨rfl,rfl⟩)
    ·exact h.elim
   ·exact h.elim
  ·exact h.elim
 ·exact h.elim
theorem kept_setBlock {b:Nat} {o:Obj} {M:Nat->Prop} (hM:M b):Kept M w { w with heap:=w.heap.setIfInBounds b o }:=by
 refine ⟨rfl,rfl,rfl,by simp,fun j hj hn=> ?_⟩
 have:j≠b:=fun e=>hn (by rw [e];exact hM)
 show (w.heap.setIfInBounds b o)[j]?=_
 rw [Array.getElem?_setIfInBounds,if_neg (fun e=>this e.symm)]
theorem run_setObj {P:Program} {b:Nat} {es:Array MapEntry} {clock:Nat} (hb:w.heap[b]?=some (.map es clock)) (o:Obj):(setObj b o).run P w= .ok () { w with heap:=w.heap.setIfInBounds b o }:=by
 simp [setObj,Sem.run,hb]
theorem mapUpdate_ok {t:TypeId} {m key v:SV} (h:(mapUpdateT X t m key v (headC H m):Tree (Eff T O)).holds K) (hp:HeapOk R ρ H Fs w):
  ∃w',(Instr.mapUpdate t (m.den ρ) (key.den ρ) (v.den ρ)).run X.P w= .ok () w'/\ OpOk R ρ H Fs w fresh K undef w':=by
 unfold mapUpdateT at h
 split at h
 ·rename_i kt el hu
  split at h
  ·rename_i k e L hc
   simp only [headC,SV.head] at hc
   obtain ⟨b,es,clock,hv,hb,hes,⟨hnd,hok,hst⟩,hF⟩:=hp.holds k _ hc
   split at h
   ·rename_i n a hk ha
    obtain ⟨hkt,rfl,hk0⟩:=keyI_elim X hk
    have hvd:=decV_den (ρ:=ρ) ha
    have hlt:b<w.heap.size:=(Array.getElem?_eq_some_iff.1 hb).1
    have key: ∃es' clock',(Instr.mapUpdate t (.map (some b)) (kval (T e).skey n) (v.den ρ)).run X.P w= .ok () { w with heap:=w.heap.setIfInBounds b (.map es' clock') }/\ ents (T e) es'.toList (mput n a L)/\ MapKept.Stamped es' clock':=by
     have hget:(getObj b).run X.P w= .ok (.map es clock) w:=by simp [getObj,Sem.run,hb]
     unfold Instr.mapUpdate
     simp only [Sem.run_bind,run_underlying hu,Result.andThen_ok,hget,run_checkKey (w:=w) _ hkt,run_findKey (w:=w) hk0 hok hkt (map_ents hes)]
     cases hf:L.findIdx? (fun p=>p.1==n) with
     |none=>
      have hg:=findIdx_none.1 hf
      refine ⟨es.push { key:=kval (T e).skey n,val:=v.den ρ,born:=clock },clock+1,run_setObj hb _, ?_, ?_⟩
      ·rw [mput_new n a L hg]
       simp only [ents,Array.toList_push,List.map_append,List.map_cons,List.map_nil,hvd]
       rw [hes]
      ·refine MapKept.stamped_push hst ?_
       intro x hx e'
       have h1:(x.key,x.val)∈es.toList.map (fun m=>(m.key,m.val)):=List.mem_map.2 ⟨x,hx,rfl⟩
       rw [hes] at h1
       obtain ⟨p,hp1,hp2⟩:=List.mem_map.1 h1
       simp only [Prod.mk.injEq] at hp2
       have:=kval_inj (hok p hp1) hk0 (hp2.1.trans e')
       exact mget_none.1 hg (List.mem_map.2 ⟨p,hp1,this⟩)
     |some j=>
      obtain ⟨me,hme,hkey⟩:=ents_key (map_ents hes) hf
      have hme':es[j]?=some me:=by simpa using hme
      refine ⟨es.modify j fun e'=> { e' with key:=kval (T e).skey n,val:=v.den ρ },clock, ?_, ?_, ?_⟩
      ·simp only [hme',Option.map_some,Option.getD_some,hkey]
       rw [stays_same]
       simp [run_setObj hb,Sem.run_bind]
      ·rw [hvd,Array.toList_modify]
       exact ents_put n a es.toList L j (map_ents hes) hf
      ·refine MapKept.stamped_modify hst j _ (fun _ _=>rfl) (fun e' _ he'=> ?_)
       rw [hme'] at he'
       simp only [Option.some.injEq] at he'
       rw [←he',hkey]
    obtain ⟨es',clock',hrun,hes',hst'⟩:=key
    refine ⟨_,by rw [show SV.den ρ (SV.own k)= .map (some b) from hv];exact hrun,_,ρ,Fs,h,EffOk.change R hp fresh (c':= .map e (mput n a L)) hc rfl (kept_setBlock ((hF b).2 rfl)) ⟨b,es',clock',hv, ?_,hes',⟨mput_nodup n a L hnd,mput_ok hok hk0,hst'⟩,hF⟩ none undef (fun s hs=>by cases hs)⟩
    simp [hlt]
   ·exact h.elim
  ·exact h.elim
 ·exact h.elim
theorem delete_ok {t t2 ty:TypeId} {m key:SV} (h:(deleteT X t m key (headC H m):Tree (Eff T O)).holds K) (hp:HeapOk R ρ H Fs w) {tys:Array TypeId} (ht:tys[0]?=some t):
  ∃w',(Builtin.delete_ tys ty #[m.den ρ,key.den ρ]).run X.P w= .ok (.tuple #[]) w'/\ OpOk R ρ H Fs w fresh K (.tuple #[]) w':=by
 unfold deleteT at h
 split at h
 ·rename_i kt el hu
  split at h
  ·rename_i k e L hc
   split at h
   case h_2=>exact h.elim
   rename_i n hk
   obtain ⟨hkt,rfl,hk0⟩:=keyI_elim X hk
   simp only [headC,SV.head] at hc
   obtain ⟨b,es,clock,hv,hb,hes,⟨hnd,hok,hst⟩,hF⟩:=hp.holds k _ hc
   have hlt:b<w.heap.size:=(Array.getElem?_eq_some_iff.1 hb).1
   have key: ∃es',(Builtin.delete_ tys ty #[.map (some b),kval (T e).skey n]).run X.P w= .ok (.tuple #[]) { w with heap:=w.heap.setIfInBounds b (.map es' clock) }/\ ents (T e) es'.toList (mdel n L)/\ MapKept.Stamped es' clock:=by
    have hget:(getObj b).run X.P w= .ok (.map es clock) w:=by simp [getObj,Sem.run,hb]
    unfold Builtin.delete_
    simp only [ht,List.getElem?_toArray,List.getElem?_cons_zero,List.getElem?_cons_succ,Sem.run_bind,run_underlying hu,Result.andThen_ok,hget,run_checkKey (w:=w) _ hkt,run_findKey (w:=w) hk0 hok hkt (map_ents hes)]
    cases hf:L.findIdx? (fun p=>p.1==n) with
    |none=>
     have hg:=findIdx_none.1 hf
     exact ⟨es,by simp only [Sem.run_bind,run_setObj hb,Result.andThen_ok,Sem.run_pure],by rw [mdel_none n L hg];exact hes,hst⟩
    |some j=>
     obtain ⟨me,hme,hkey⟩:=ents_key (map_ents hes) hf
     have hj:j<es.size:=by
      have:=(List.getElem?_eq_some_iff.1 hme).1
      simpa using this
     refine ⟨es.eraseIdxIfInBounds j,by simp only [Sem.run_bind,run_setObj hb,Result.andThen_ok,Sem.run_pure], ?_,MapKept.stamped_erase hst j⟩
     have:(es.eraseIdxIfInBounds j).toList=es.toList.eraseIdx j:=by simp [Array.eraseIdxIfInBounds,hj]
     rw [this]
     exact ents_del n es.toList L j (map_ents hes) hf
   obtain ⟨es',hrun,hes',hst'⟩:=key
   refine ⟨_,by rw [show SV.den ρ (SV.own k)= .map (some b) from hv];exact hrun,_,ρ,Fs,h,EffOk.change R hp fresh (c':= .map e (mdel n L)) hc rfl (kept_setBlock ((hF b).2 rfl)) ⟨b,es',clock,hv, ?_,hes',⟨mdel_nodup n L hnd,fun p hp=>hok p ((mdel_sub n L).subset hp),hst'⟩,hF⟩ _ _ (fun s hs=>by simp only [Option.some.injEq] at hs;subst hs;rfl)⟩
   simp [hlt]
  ·exact h.elim
 ·exact h.elim
theorem clear_ok {t ty:TypeId} {m:SV} (h:(clearT X t m (headC H m):Tree (Eff T O)).holds K) (hp:HeapOk R ρ H Fs w) {tys:Array TypeId} (ht:tys[0]?=some t):
  ∃w',(Builtin.clear_ tys ty #[m.den ρ]).run X.P w= .ok (.tuple #[]) w'/\ OpOk R ρ H Fs w fresh K (.tuple #[]) w':=by
 unfold clearT at h
 split at h
 ·rename_i kt el k e L hu hc
  simp only [headC,SV.head] at hc
  obtain ⟨b,es,clock,hv,hb,hes,hnd,hF⟩:=hp.holds k _ hc
  have hlt:b<w.heap.size:=(Array.getElem?_eq_some_iff.1 hb).1
  have hget:(getObj b).run X.P w= .ok (.map es clock) w:=by simp [getObj,Sem.run,hb]
  refine ⟨{ w with heap:=w.heap.setIfInBounds b (.map #[] clock) }, ?_,_,ρ,Fs,h,EffOk.change R hp fresh (c':= .map e []) hc rfl (kept_setBlock ((hF b).2 rfl)) ⟨b, #[],clock,hv,by simp [hlt],rfl,⟨by simp,by simp,MapKept.stamped_empty _⟩,hF⟩ _ _ (fun s hs=>by simp only [Option.some.injEq] at hs;subst hs;rfl)⟩
  rw [show SV.den ρ (SV.own k)= .map (some b) from hv]
  unfold Builtin.clear_
  simp only [ht,List.getElem?_toArray,List.getElem?_cons_zero,Sem.run_bind,run_underlying hu,Result.andThen_ok,hget,run_setObj hb,Sem.run_pure]
 ·exact h.elim
theorem makeMap_ok {t:TypeId} {rs:Option Operand} {ev:Operand->Value} (h:(makeMapT X fresh t rs:Tree (Eff T O)).holds K) (hp:HeapOk R ρ H Fs w) (hf:Free H fresh):
  ∃v w',(Instr.makeMap t (rs.map ev)).run X.P w= .ok v w'/\ OpOk R ρ H Fs w fresh K v w':=by
 have f0:H fresh=none/\ ∀k c,H k=some c->k≠fresh/\ ∀id∈c.ids,id≠fresh:=by simpa using hf.at (i:=0) (by unfold stride;omega)
 unfold makeMapT at h
 split at h
 ·rename_i kt el hu
  split at h
  ·rename_i e he
   refine ⟨.map (some w.heap.size),w.alloc (.map #[] 0),by simp [Instr.makeMap],_,_,_,h,EffOk.alloc R hp f0.1 f0.2 (kept_alloc w _) (.map e []) (.map (some w.heap.size)) _ (fun x=>x=w.heap.size) _ rfl ⟨w.heap.size, #[],0,rfl,heap_alloc_new w _,rfl,⟨by simp,by simp,MapKept.stamped_empty _⟩,fun _=>Iff.rfl⟩ (fun x hx=>by omega) ?_⟩
   intro s hs
   simp only [Option.some.injEq] at hs
   subst hs
   simp [SV.den,setF_same]
  ·exact h.elim
 ·exact h.elim
theorem made_vals (E:Enc) (a:E.α) (z:Array Value) (hz:z.toList=E.vals a): ∀n:Nat,(madeCells z (n*E.n)).toList=valsL E (List.replicate n a)
 |0=>by simp [madeCells,valsL,Array.range_zero']
 |n+1=>by
  have ih:=made_vals E a z hz n
  have hs:z.size=E.n:=by rw [←Array.length_toList,hz,vals_len]
  have e1: ∀m,(madeCells z m).toList=(List.range m).map fun i=>z[i%z.size]! :=fun m=>by simp [madeCells]
  rw [e1] at ih ⊢
  rw [Nat.add_mul,Nat.one_mul,List.range_add,List.map_append,ih,List.replicate_succ']
  have e2:valsL E (List.replicate n a++[a])=valsL E (List.replicate n a)++E.vals a:=by simp [valsL,List.flatMap_append]
  rw [e2]
  congr 1
  rw [List.map_map,←hz]
  apply List.ext_getElem
  ·simp [hs]
  ·intro i h1 h2
   have hi:i<E.n:=by simpa using h1
   have:(n*E.n+i)%z.size=i:=by rw [hs,Nat.mul_comm,Nat.mul_add_mod,Nat.mod_eq_of_lt hi]
   simp only [List.getElem_map,List.getElem_range,Function.comp_apply,this]
   rw [getElem!_pos z i (by omega)]
   simp
theorem makeSlice_ok {t:TypeId} {l c:SV} (h:(makeSliceT X fresh t l c:Tree (Eff T O)).holds K) (hp:HeapOk R ρ H Fs w) (hf:Free H fresh):
  ∃v w',(Instr.makeSlice t (l.den ρ) (c.den ρ)).run X.P w= .ok v w'/\ OpOk R ρ H Fs w fresh K v w':=by
 have f0:H fresh=none/\ ∀k c,H k=some c->k≠fresh/\ ∀id∈c.ids,id≠fresh:=by simpa using hf.at (i:=0) (by unfold stride;omega)
 unfold makeSliceT at h
 split at h
 ·rename_i el kl n kc m hu
  split at h
  ·rename_i e i he hi
   split at h
   ·rename_i hz
    obtain ⟨z,hz1,hz2,hz3,hz4,hz5⟩:=zeroOk_elim hz
    split at h
    ·rename_i a ha
     rw [Tree.holds_chk] at h
     obtain ⟨hb,h⟩:=h
     simp only [Bool.and_eq_true,decide_eq_true_eq,roomy] at hb
     obtain ⟨⟨hn,rfl⟩,hroom⟩:=hb
     have hmax:=maxLen_of_roomy hz5 hroom
     simp only [maxLen] at hmax
     rw [hz1] at ha
     simp only [Option.bind_some] at ha
     have hza:z.cells.toList=(T e).vals a:=by
      rw [←enc_den (T e) (fun _=> .nilFunc) a,(T e).back _ _ ha]
      cases z with
      |agg cs=>
       have:denL (fun _=>Value.nilFunc) (List.map SV.raw cs.toList)=cs.toList:=by
        rw [denL_eq_map,List.map_map]
        have e:(SV.den (fun _=>Value.nilFunc)∘SV.raw)=id:=rfl
        rw [e,List.map_id]
       exact this.symm
      |_=>rfl
     have hrun:=run_make (P:=X.P) w t el i z hu hi hz1 kl kc n n hn (Int.le_refl _) (by
      have:((n.toNat*i.bytes:Nat):Int)<=140737488355328:=by omega
      rw [Int.natCast_mul,Int.toNat_of_nonneg hn,Int.mul_comm] at this
      omega) (by omega)
     refine ⟨_,_,hrun,_,_,_,h,EffOk.alloc R hp f0.1 f0.2 (kept_alloc w _) (.vec e (List.replicate n.toNat a) el) (.slice (some ⟨w.heap.size,0,none⟩) n.toNat n.toNat) _ (fun x=>x=w.heap.size) _ rfl ⟨⟨by rw [valsL_len], .inr ⟨w.heap.size,n.toNat,_,by simp,Nat.zero_le _,heap_alloc_new w _,by simp,by simp only [maxLen];omega, ?_, ?_⟩⟩, ?_⟩ (fun x hx=>by omega) ?_⟩
     ·rw [size_madeCells,hz3]
     ·rw [hz3,made_vals (T e) a z.cells hza]
      rw [List.take_of_length_le (by rw [valsL_len];exact Nat.le_refl _)]
     ·intro x;simp [Value.ownBlock,eq_comm]
     ·intro s hs
      simp only [Option.some.injEq] at hs
      subst hs
      simp [SV.den,setF_same]
    ·exact h.elim
   ·exact h.elim
  ·exact h.elim
 ·exact h.elim
end
end
end Go.Sx