/-
  Part of a proof over the seat YtlfjbnflfdnoaaaGreat: printed by a small program or typed by hand.
-/
import Derived.Test.YtlfjbnflfdnoaaaGreatSxTab
/-
 Sx:loads,stores,addresses of elements,lengths.
-/
namespace Go.Sx
section
variable {T:Nat->Enc} {O:Nat->Type} (R:Objs O)
section
variable {ρ:Env} {H:Nat->Option (Chunk T O)} {Fs:Nat->Nat->Prop} {w:World} {fresh:Nat} {K:Eff T O->Prop} (X:Ctx T O)
theorem build_ok {t:TypeId} {parts:List (Nat×Option SV)} {vals:Array (Nat×Value)} (hv':PartsOk ρ parts vals.toList)
  (h:(buildT X t parts:Tree (Eff T O)).holds K) (hp:HeapOk R ρ H Fs w): ∃v,(Instr.build t vals).run X.P w= .ok v w/\ OpOk R ρ H Fs w fresh K v w:=by
 have zero: ∀ {z:List SV},zeroT X t=some z-> ∃it zv,X.P.info? t=some it/\ it.zero=some zv/\ zv.cells=(denL ρ z).toArray:=by
  intro z hz
  obtain ⟨v,hrun,hc,_⟩:=zeroT_run (ρ:=ρ) (w:=w) X hz
  unfold zeroT at hz
  split at hz
  ·rename_i it hi
   split at hz
   ·rename_i zv hzv
    refine ⟨it,zv,hi,hzv, ?_⟩
    simp [zeroValue,typeInfo,hi,hzv] at hrun
    rw [hrun];exact hc
   ·cases hz
  ·cases hz
 unfold buildT at h
 split at h
 ·rename_i fs z hu hz
  obtain ⟨it,zv,hi,hzv,hcells⟩:=zero hz
  split at h
  ·rename_i places hpl
   split at h
   ·rename_i cs hcs
    refine ⟨.agg (denL ρ cs).toArray,run_build (P:=X.P) w t vals _ ?_,OpOk.pure R hp h rfl⟩
    have hpl':fs.toList.mapM (fun f=>(X.P.info? f.type).map fun i=>(f.offset,i.size))=some places:=by
     rw [←hpl]
     congr 1
     funext f
     unfold sizeT
     cases X.P.info? f.type<;>rfl
    simp only [Program.built,hi,hu,hzv,hpl',hcells]
    exact fill_ok hp.one _ parts vals.toList z cs hv' hcs
   ·exact h.elim
  ·exact h.elim
 ·rename_i n el z hu hz
  obtain ⟨it,zv,hi,hzv,hcells⟩:=zero hz
  split at h
  ·rename_i n' hn
   split at h
   ·rename_i cs hcs
    refine ⟨.agg (denL ρ cs).toArray,run_build (P:=X.P) w t vals _ ?_,OpOk.pure R hp h rfl⟩
    unfold sizeT at hn
    cases hie:X.P.info? el with
    |none=>simp [hie] at hn
    |some ie=>
     have:ie.size=n':=by simpa [hie] using hn
     simp only [Program.built,hi,hu,hzv,hie,hcells,this]
     exact fill_ok hp.one _ parts vals.toList z cs hv' hcs
   ·exact h.elim
  ·exact h.elim
 ·exact h.elim
theorem valsL_split (E:Enc) (L:List E.α) (i:Nat) (hi:i<L.length):valsL E L=valsL E (L.take i)++(E.vals L[i]++valsL E (L.drop (i+1))):=by
 have e:L=L.take i++(L[i]::L.drop (i+1)):=by rw [←List.drop_eq_getElem_cons hi,List.take_append_drop]
 have e2:valsL E L=valsL E (L.take i++(L[i]::L.drop (i+1))):=congrArg (valsL E) e
 rw [e2]
 unfold valsL
 rw [List.flatMap_append,List.flatMap_cons]
theorem at_eq {α:Type} (z:α) (L:List α) (i:Int) (h:inb i L.length=true): ∃hi:i.toNat<L.length,at' z L i=L[i.toNat]:=by
 simp only [inb,Bool.and_eq_true,decide_eq_true_eq] at h
 have hi:i.toNat<L.length:=by omega
 exact ⟨hi,by simp [at',List.getD,List.getElem?_eq_getElem hi]⟩
theorem valsL_get (E:Enc) (L:List E.α) (i:Nat) (hi:i<L.length) (j:Nat) (u:Value) (h:(E.vals L[i])[j]?=some u):(valsL E L)[i*E.n+j]?=some u:=by
 have hj:j<(E.vals L[i]).length:=(List.getElem?_eq_some_iff.1 h).1
 have hl:(valsL E (L.take i)).length=i*E.n:=by rw [valsL_len];simp [Nat.min_eq_left (Nat.le_of_lt hi)]
 rw [valsL_split E L i hi,List.getElem?_append_right (by omega),hl]
 have:i*E.n+j-i*E.n=j:=by omega
 rw [this,List.getElem?_append_left hj]
 exact h
theorem valsL_set (E:Enc) (L:List E.α) (i:Nat) (hi:i<L.length) (a:E.α) (j:Nat) (new:List Value) (hnew:j+new.length<=E.n)
  (ha:E.vals a=(E.vals L[i]).take j++new++(E.vals L[i]).drop (j+new.length)):
  valsL E (L.set i a)=(valsL E L).take (i*E.n+j)++new++(valsL E L).drop (i*E.n+j+new.length):=by
 have hl:(valsL E (L.take i)).length=i*E.n:=by rw [valsL_len];simp [Nat.min_eq_left (Nat.le_of_lt hi)]
 have hv:(E.vals L[i]).length=E.n:=vals_len E _
 have hset:valsL E (L.set i a)=valsL E (L.take i)++(E.vals a++valsL E (L.drop (i+1))):=by
  rw [valsL_split E (L.set i a) i (by simpa using hi),List.take_set_of_le (Nat.le_refl i),List.drop_set_of_lt (by omega),List.getElem_set_self]
 rw [hset,ha,valsL_split E L i hi]
 rw [List.take_append,List.drop_append,hl]
 have e1:(valsL E (L.take i)).take (i*E.n+j)=valsL E (L.take i):=List.take_of_length_le (by omega)
 have e2:(valsL E (L.take i)).drop (i*E.n+j+new.length)=[]:=List.drop_of_length_le (by omega)
 rw [e1,e2]
 have e3:i*E.n+j-i*E.n=j:=by omega
 have e4:i*E.n+j+new.length-i*E.n=j+new.length:=by omega
 rw [e3,e4,List.take_append_of_le_length (by omega),List.drop_append_of_le_length (by omega)]
 simp [List.append_assoc]
theorem elt_range {E:Enc} {L:List E.α} {i:Int} (h:inb i L.length=true) {b o:Nat} (hc: ∀j u,(valsL E L)[j]?=some u->w.cell? ⟨b,o+j,none⟩=some u):
  w.rangeAt b (o+i.toNat*E.n) (denL ρ (E.enc (at' E.zero L i))):=by
 obtain ⟨hi,ha⟩:=at_eq E.zero L i h
 intro j u hj
 rw [ha,enc_den] at hj
 have:=hc _ _ (valsL_get E L i.toNat hi j u hj)
 rwa [←Nat.add_assoc] at this
theorem elts_ok {EE:Nat} {t:TypeId} {i:Int} {j e:Nat} {L:List (T e).α} (h:(eltsT X EE t i j e L:Tree (Eff T O)).holds K) (hp:HeapOk R ρ H Fs w) {b o:Nat}
  (hc: ∀j u,(valsL (T e) L)[j]?=some u->w.cell? ⟨b,o+j,none⟩=some u):
  ∃v,(Instr.loadAt t (.pointer (some ((⟨b,o,none⟩:Addr).add (i.toNat*EE+j))))).run X.P w= .ok v w/\ OpOk R ρ H Fs w fresh K v w:=by
 unfold eltsT at h
 split at h
 ·rename_i hE
  rw [Tree.holds_chk] at h
  obtain ⟨hin,h⟩:=h
  split at h
  ·rename_i v hv
   refine ⟨v.den ρ, ?_,OpOk.pure R hp h rfl⟩
   rw [Addr.add_lit,←hE,←Nat.add_assoc]
   exact run_load_part X rfl hv (elt_range hin hc)
  ·exact h.elim
 ·exact h.elim
theorem mix_pre {b:Nat} {cs ds:List SV} {M:List Value} {t:TypeId} (hg:w.heap[b]?=some (.cells (denL ρ cs++M++denL ρ ds).toArray t (0,0))):w.rangeAt b 0 (denL ρ cs):=by
 intro j u hj
 rw [Nat.zero_add,cell_of_row w b j _ t (0,0) hg]
 rw [List.append_assoc]
 simpa using List.getElem?_append_left (l₂:=M++denL ρ ds) (List.getElem?_eq_some_iff.1 hj).1▸hj
theorem mix_mid {b:Nat} {cs ds:List SV} {M:List Value} {t:TypeId} (hg:w.heap[b]?=some (.cells (denL ρ cs++M++denL ρ ds).toArray t (0,0))): ∀j u,M[j]?=some u->w.cell? ⟨b,cs.length+j,none⟩=some u:=by
 intro j u hj
 rw [cell_of_row w b _ _ t (0,0) hg]
 have hl:=(List.getElem?_eq_some_iff.1 hj).1
 have l1:(denL ρ cs).length=cs.length:=length_denL ρ cs
 rw [List.getElem?_toArray,List.getElem?_append_left (by rw [List.length_append];omega),List.getElem?_append_right (by rw [l1];exact Nat.le_add_right _ _)]
 simpa [length_denL] using hj
theorem mix_post {b:Nat} {cs ds:List SV} {M:List Value} {t:TypeId} (hg:w.heap[b]?=some (.cells (denL ρ cs++M++denL ρ ds).toArray t (0,0))):w.rangeAt b (cs.length+M.length) (denL ρ ds):=by
 intro j u hj
 rw [cell_of_row w b _ _ t (0,0) hg]
 have l1:(denL ρ cs).length=cs.length:=length_denL ρ cs
 rw [List.getElem?_toArray,List.getElem?_append_right (by rw [List.length_append,l1];exact Nat.le_add_right _ _)]
 have:cs.length+M.length+j-(denL ρ cs++M).length=j:=by rw [List.length_append,l1];omega
 rw [this];exact hj
theorem que_cell {g off N:Nat} {cur:Array Value} {t:TypeId} {V:List Value} (hg:w.heap[g]?=some (.cells cur t (0,0))) (ht:(cur.toList.drop off).take N=V) {j:Nat} {u:Value} (hj:V[j]?=some u):w.cell? ⟨g,off+j,none⟩=some u:=by
 rw [cell_of_row w g _ _ t (0,0) hg]
 rw [←ht,List.getElem?_take] at hj
 split at hj
 ·rw [List.getElem?_drop] at hj;simpa using hj
 ·cases hj
theorem deepVals_get (E:Enc) {β:Type}: ∀ {L:List (E.α×β)} {us:List Value} {i:Nat} {p:E.α×β} {u:Value} {j:Nat} {v:Value},L[i]?=some p->us[i]?=some u->(E.vals p.1++[u])[j]?=some v->(deepVals E L us)[i*(E.n+1)+j]?=some v
 |[],us,i,p,u,j,v,h,_,_=>by simp at h
 |q::L,[],i,p,u,j,v,_,h,_=>by simp at h
 |q::L,u'::us,0,p,u,j,v,h1,h2,h3=>by
  simp only [List.getElem?_cons_zero,Option.some.injEq] at h1 h2
  subst h1;subst h2
  have hj:=(List.getElem?_eq_some_iff.1 h3).1
  rw [show deepVals E (q::L) (u'::us)=(E.vals q.1++[u'])++deepVals E L us by simp [deepVals],Nat.zero_mul,Nat.zero_add,List.getElem?_append_left hj]
  exact h3
 |q::L,u'::us,i+1,p,u,j,v,h1,h2,h3=>by
  have ih:=deepVals_get E (L:=L) (us:=us) (i:=i) (by simpa using h1) (by simpa using h2) h3
  have hl:(E.vals q.1++[u']).length=E.n+1:=by simp [vals_len]
  rw [show deepVals E (q::L) (u'::us)=(E.vals q.1++[u'])++deepVals E L us by simp [deepVals],show (i+1)*(E.n+1)+j=(E.vals q.1++[u']).length+(i*(E.n+1)+j) by rw [hl,Nat.add_mul];omega,List.getElem?_append_right (by omega),Nat.add_sub_cancel_left]
  exact ih
theorem load_ok (hL:LayOk R X) {t:TypeId} {x:SV} {k:Nat} {c:Chunk T O} (hk:x.head=[k]) (hc:H k=some c) (h:(loadT X fresh t x c:Tree (Eff T O)).holds K) (hp:HeapOk R ρ H Fs w) (hf:Free H fresh):
  ∃v,(Instr.loadAt t (x.den ρ)).run X.P w= .ok v w/\ OpOk R ρ H Fs w fresh K v w:=by
 have hh:=hp.holds k c hc
 unfold loadT at h
 split at h
 ·rename_i k' off cs ty
  simp only [SV.head,List.cons.injEq,and_true] at hk
  subst hk
  obtain ⟨b,hb,hg,_,_⟩:=hh
  split at h
  ·rename_i v hv
   refine ⟨v.den ρ, ?_,OpOk.pure R hp h rfl⟩
   have hr:w.rangeAt b 0 (denL ρ cs):=by
    intro j u hj
    rw [Nat.zero_add,cell_of_row w b j _ ty (0,0) hg]
    simpa using hj
   have:=run_load_part X rfl hv hr
   simp only [SV.den,hb,addrOf,Addr.add_lit]
   exact this
  ·exact h.elim
 ·rename_i k' off cs e n L ds ty
  simp only [SV.head,List.cons.injEq,and_true] at hk
  subst hk
  obtain ⟨b,hb,hg,⟨_,_,hn⟩,_⟩:=hh
  split at h
  ·split at h
   ·rename_i v hv
    refine ⟨v.den ρ, ?_,OpOk.pure R hp h rfl⟩
    have:=run_load_part X rfl hv (mix_pre hg)
    simp only [SV.den,hb,addrOf,Addr.add_lit]
    exact this
   ·exact h.elim
  ·split at h
   ·rename_i hoff
    split at h
    ·rename_i v hv
     refine ⟨v.den ρ, ?_,OpOk.pure R hp h rfl⟩
     have:=run_load_part X rfl hv (mix_post hg)
     rw [valsL_len,hn] at this
     simp only [SV.den,hb,addrOf,Addr.add_lit]
     rw [show cs.length+n*(T e).n+(off-(cs.length+n*(T e).n))=0+off by omega] at this
     exact this
    ·exact h.elim
   ·exact h.elim
 ·rename_i k' off cs o n L hole ds ty
  simp only [SV.head,List.cons.injEq,and_true] at hk
  subst hk
  obtain ⟨b,ptrs,hb,hg,⟨_,_,_,hn⟩,_⟩:=hh
  split at h
  ·split at h
   ·rename_i v hv
    refine ⟨v.den ρ, ?_,OpOk.pure R hp h rfl⟩
    have:=run_load_part X rfl hv (mix_pre hg)
    simp only [SV.den,hb,addrOf,Addr.add_lit]
    exact this
   ·exact h.elim
  ·split at h
   ·rename_i hoff
    split at h
    ·rename_i v hv
     refine ⟨v.den ρ, ?_,OpOk.pure R hp h rfl⟩
     have:=run_load_part X rfl hv (mix_post hg)
     rw [hn] at this
     simp only [SV.den,hb,addrOf,Addr.add_lit]
     rw [show cs.length+n+(off-(cs.length+n))=0+off by omega] at this
     exact this
    ·exact h.elim
   ·exact h.elim
 ·rename_i k' i EE j cs o n L hole ds ty
  simp only [SV.head,List.cons.injEq,and_true] at hk
  subst hk
  split at h
  ·rename_i sz ℓ ha hs hl
   split at h
   ·rename_i hE
    obtain ⟨rfl,rfl⟩:=hE
    rw [Tree.holds_chk] at h
    obtain ⟨hin,h⟩:=h
    have hin':0<=i/\ i<(n:Int):=by simpa [inb] using hin
    have run: ∀(b:Nat) (p:Value),w.cell? ⟨b,cs.length+i.toNat,none⟩=some p->ρ k'= .pointer (some ⟨b,0,none⟩)->(Instr.loadAt t (SV.den ρ (.elt k' i 1 cs.length))).run X.P w= .ok p w:=by
     intro b p hcl hb
     simp only [SV.den,hb,addrOf,Addr.add_lit]
     have hpt:partT X t [SV.raw p] 0=some (.raw p):=by unfold partT;rw [ha,hs];rfl
     rw [show 0+(i.toNat*1+cs.length)=cs.length+i.toNat+0 by omega]
     refine run_load_part (ρ:=ρ) X rfl hpt (b:=b) (o:=cs.length+i.toNat) ?_
     intro j u hj
     cases j with
     |zero=>simp [denL,SV.den] at hj;subst hj;exact hcl
     |succ j=>simp [denL] at hj
    cases hd:atO L i with
    |none=>
     rw [hd] at h
     have h:(retv (.raw (.pointer none)):Tree (Eff T O)).holds K:=h
     obtain ⟨b,ptrs,hb,hg,⟨_,_,hLn,hpn⟩,Fi,h4,_⟩:=hh
     have hi:i.toNat<ptrs.length:=by omega
     have h5:=h4 i.toNat ptrs[i.toNat] (List.getElem?_eq_getElem hi)
     rw [show L.getD i.toNat none=none from hd] at h5
     refine ⟨.pointer none,run b _ ?_ hb,OpOk.pure R hp h rfl⟩
     have:=mix_mid hg i.toNat ptrs[i.toNat] (List.getElem?_eq_getElem hi)
     have h6:ptrs[i.toNat]= .pointer none:=h5.1
     rw [h6] at this
     exact this
    |some d=>
     rw [hd] at h
     have h:(match pullU fresh (ℓ.lay d) with
      |some u=>Tree.ret { val:=some (.ptr fresh 0),upd:=(k',some (.tab cs o n L (some (i,fresh)) ds ty))::u }
      |none=>Tree.fail:Tree (Eff T O)).holds K:=h
     split at h
     ·rename_i u hu
      obtain ⟨b,p,ρ',Fs',hb,hcl,hp',he⟩:=EffOk.pull R X hL hp hf hc hl hin' hd hu
      exact ⟨p,run b p hcl hb,_,ρ',Fs',h,he⟩
     ·exact h.elim
   ·exact h.elim
  ·rename_i i0 k0 sz ℓ ha hs hl
   split at h
   ·rename_i hE
    obtain ⟨rfl,rfl⟩:=hE
    rw [Tree.holds_chk] at h
    obtain ⟨hin,h⟩:=h
    simp only [Bool.and_eq_true,decide_eq_true_eq] at hin
    obtain ⟨hin,rfl⟩:=hin
    have hin':0<=i0/\ i0<(n:Int):=by simpa [inb] using hin
    obtain ⟨b,ptrs,hb,hg,⟨_,_,hLn,hpn⟩,Fi,h4,_⟩:=hh
    have hi:i0.toNat<ptrs.length:=by omega
    have h5:=h4 i0.toNat ptrs[i0.toNat] (List.getElem?_eq_getElem hi)
    have e:holeAt (some (i0,k0)) i0.toNat=some k0:=by simp [holeAt]
    rw [e] at h5
    obtain ⟨h6,⟨b2,h7⟩,_⟩:=h5
    have hcl:=mix_mid hg i0.toNat ptrs[i0.toNat] (List.getElem?_eq_getElem hi)
    have hv:ptrs[i0.toNat]=SV.den ρ (.ptr k0 0):=by
     simp only [SV.den,←h6,h7,addrOf];rfl
    refine ⟨ptrs[i0.toNat], ?_,OpOk.pure R hp h hv⟩
    simp only [SV.den,hb,addrOf,Addr.add_lit]
    have hpt:partT X t [SV.raw ptrs[i0.toNat]] 0=some (.raw ptrs[i0.toNat]):=by unfold partT;rw [ha,hs];rfl
    rw [show 0+(i0.toNat*1+cs.length)=cs.length+i0.toNat+0 by omega]
    refine run_load_part (ρ:=ρ) X rfl hpt (b:=b) (o:=cs.length+i0.toNat) ?_
    intro j u hj
    cases j with
    |zero=>simp [denL,SV.den] at hj;subst hj;exact hcl
    |succ j=>simp [denL] at hj
   ·exact h.elim
  ·exact h.elim
 ·rename_i k' i EE j cs e n L ds ty
  simp only [SV.head,List.cons.injEq,and_true] at hk
  subst hk
  obtain ⟨b,hb,hg,_,_⟩:=hh
  split at h
  ·rename_i hj
   have:=elts_ok R X (fresh:=fresh) h hp (b:=b) (o:=cs.length) (mix_mid hg)
   simp only [Addr.add_lit] at this
   simp only [SV.den,hb,addrOf,Addr.add_lit]
   rw [show cs.length+(i.toNat*EE+(j-cs.length))=0+(i.toNat*EE+j) by omega] at this
   exact this
  ·exact h.elim
 ·rename_i k' i EE j e L ty
  simp only [SV.head,List.cons.injEq,and_true] at hk
  subst hk
  obtain ⟨b,hb,hg,_⟩:=hh
  simp only [SV.den,hb,addrOf]
  exact elts_ok R X h hp (fun j u hj=>by rw [Nat.zero_add,cell_of_row w b j _ ty (0,0) hg];simpa using hj)
 ·rename_i k' i EE j e L ty
  simp only [SV.head,List.cons.injEq,and_true] at hk
  subst hk
  obtain ⟨hown,_⟩:=hh
  have hown':=hown
  rcases hown.2 with ⟨hv,hn⟩|⟨g,cap,cur,hv,_⟩
  ·unfold eltsT at h
   split at h
   ·rw [Tree.holds_chk] at h
    exfalso
    have:=h.1
    simp [inb,hn] at this
    omega
   ·exact h.elim
  ·simp only [SV.den,hv,addrOf]
   refine elts_ok R X h hp (fun j u hj=> ?_)
   have:=hown'.cells (g:=g) (by rw [hv];rfl) j u hj
   rwa [Addr.add_lit] at this
 ·rename_i k' i EE j e L
  simp only [SV.head,List.cons.injEq,and_true] at hk
  subst hk
  rcases hh with ⟨hv,hn,_⟩|⟨a,cap,hv,_,hs,_,hcell,_⟩
  ·unfold eltsT at h
   split at h
   ·rw [Tree.holds_chk] at h
    exfalso
    have:=h.1
    simp [inb,hn] at this
    omega
   ·exact h.elim
  ·obtain ⟨ab,ao,as⟩:=a
   simp only at hs
   subst hs
   simp only [SV.den,hv,addrOf]
   refine elts_ok R X h hp (fun j u hj=> ?_)
   have:=hcell j u hj
   rwa [Addr.add_lit] at this
 ·rename_i k' i EE j e L ty
  simp only [SV.head,List.cons.injEq,and_true] at hk
  subst hk
  rcases hh with ⟨hv,hn,_⟩|⟨g,off,cap,cur,hv,_,_,hg,_,htake,_⟩
  ·unfold eltsT at h
   split at h
   ·rw [Tree.holds_chk] at h
    exfalso
    have:=h.1
    simp [inb,hn] at this
    omega
   ·exact h.elim
  ·simp only [SV.den,hv,addrOf]
   exact elts_ok R X h hp (fun j u hj=>que_cell hg htake hj)
 ·rename_i k' i EE j e1 e L
  simp only [SV.head,List.cons.injEq,and_true] at hk
  subst hk
  obtain ⟨us,Fi,⟨hlen,hinn⟩,hsub,hrow,hlt⟩:=hh
  split at h
  ·rename_i hE
   subst hE
   have key:inb i L.length=true-> ∃(b o:Nat) (u:Value),addrOf (ρ k')=⟨b,o,none⟩/\ u.oneCell'=true/\ roHolds (T e) w u (at' ((T e1).zero,[]) L i).2 (Fi i.toNat)∧
     w.rangeAt b (o+i.toNat*((T e1).n+1)) (denL ρ ((T e1).enc (at' ((T e1).zero,[]) L i).1++[.raw u])):=by
    intro hi
    obtain ⟨hi',hat⟩:=at_eq ((T e1).zero,[]) L i hi
    rw [hat]
    rcases hrow with ⟨_,hn⟩|⟨a,cap,hv,hsp,hcell,_⟩
    ·rw [hn] at hi';simp at hi'
    ·obtain ⟨ab,ao,as⟩:=a
     simp only at hsp
     subst hsp
     have hu:us[i.toNat]?=some us[i.toNat]:=List.getElem?_eq_getElem (by omega)
     have hro:=hinn i.toNat _ L[i.toNat] hu (List.getElem?_eq_getElem hi')
     refine ⟨ab,ao,us[i.toNat],by rw [hv];rfl, ?_,hro, ?_⟩
     ·rcases hro with ⟨⟨_,h1⟩,_⟩|⟨a,cap,h1,_⟩<;>rw [h1]<;>rfl
     ·intro j v hj
      rw [denL_append,enc_den] at hj
      have:=hcell _ _ (deepVals_get (T e1) (List.getElem?_eq_getElem hi') hu (by simpa [denL,SV.den] using hj))
      rwa [Addr.add_lit,←Nat.add_assoc] at this
   split at h
   ·rename_i n ha hs
    split at h
    ·rename_i hb
     obtain ⟨rfl,rfl⟩:=hb
     rw [Tree.holds_chk] at h
     obtain ⟨hi,h⟩:=h
     obtain ⟨b,o,u,hb,hone,hro,hr⟩:=key hi
     generalize at' ((T e1).zero,[]) L i=p at h hro hr
     refine ⟨.agg (denL ρ ((T e1).enc p.1++[.raw u])).toArray, ?_,_,_,_,h,EffOk.shared R hp hf hc rfl (.ro e p.2) rfl u _ (Fi i.toNat) _ hone hro (fun x hx=>hsub _ x hx) ?_⟩
     ·have hpt:partT X t ((T e1).enc p.1++[.raw u]) 0=some (.agg ((T e1).enc p.1++[.raw u])):=by
       unfold partT
       rw [ha,hs]
       have hl:((T e1).enc p.1++[SV.raw u]).length=(T e1).n+1:=by simp [(T e1).len]
       show (if 0+((T e1).n+1)<=_ then some (SV.agg ((List.drop 0 _).take ((T e1).n+1))) else none)=_
       rw [if_pos (by omega),List.drop_zero,List.take_of_length_le (by omega)]
      have:=run_load_part X rfl hpt hr
      simp only [SV.den,hb,Addr.add_lit]
      exact this
     ·intro s hs'
      simp only [Option.some.injEq] at hs'
      subst hs'
      simp only [SV.den,denL_append,enc_den,denL,setF_same]
    ·exact h.elim
   ·rename_i n ha hs
    split at h
    ·rename_i hb
     have hb:=of_decide_eq_true hb
     subst hb
     rw [Tree.holds_chk] at h
     obtain ⟨hi,h⟩:=h
     obtain ⟨b,o,u,hb,hone,hro,hr⟩:=key hi
     generalize at' ((T e1).zero,[]) L i=p at h hro hr
     refine ⟨u, ?_,_,_,_,h,EffOk.shared R hp hf hc rfl (.ro e p.2) rfl u u (Fi i.toNat) _ hone hro (fun x hx=>hsub _ x hx) ?_⟩
     ·have hpt:partT X t ((T e1).enc p.1++[.raw u]) (T e1).n=some (.raw u):=by
       unfold partT
       rw [ha,hs]
       show ((T e1).enc p.1++[SV.raw u])[(T e1).n]?=_
       rw [List.getElem?_append_right (by rw [(T e1).len];exact Nat.le_refl _),(T e1).len]
       simp
      have:=run_load_part X rfl hpt hr
      simp only [SV.den,hb,Addr.add_lit]
      rw [←Nat.add_assoc]
      exact this
     ·intro s hs'
      simp only [Option.some.injEq] at hs'
      subst hs'
      simp only [SV.den,setF_same]
    ·rw [Tree.holds_chk] at h
     obtain ⟨hi,h⟩:=h
     split at h
     ·rename_i v hv
      obtain ⟨b,o,u,hb,hone,hro,hr⟩:=key hi
      generalize at' ((T e1).zero,[]) L i=p at hv hro hr
      refine ⟨v.den ρ, ?_,OpOk.pure R hp h rfl⟩
      have hpt:partT X t ((T e1).enc p.1++[.raw u]) j=some v:=by
       unfold partT at hv ⊢
       rw [ha,hs] at hv ⊢
       have hv:((T e1).enc p.1)[j]?=some v:=hv
       show ((T e1).enc p.1++[SV.raw u])[j]?=_
       rw [List.getElem?_append_left (List.getElem?_eq_some_iff.1 hv).1]
       exact hv
      have:=run_load_part X rfl hpt hr
      simp only [SV.den,hb,Addr.add_lit]
      rw [←Nat.add_assoc]
      exact this
     ·exact h.elim
   ·exact h.elim
  ·exact h.elim
 ·rename_i k' i EE j e LL
  simp only [SV.head,List.cons.injEq,and_true] at hk
  subst hk
  obtain ⟨us,hrow,hlen,hin,hF,hlt⟩:=hh
  split at h
  ·rename_i s ha hs
   split at h
   ·rename_i hb
    simp only [Bool.and_eq_true,decide_eq_true_eq] at hb
    obtain ⟨rfl,rfl⟩:=hb
    rw [Tree.holds_chk] at h
    obtain ⟨hi,h⟩:=h
    obtain ⟨hi',hat⟩:=at_eq [] LL i hi
    rcases hrow with ⟨hv,hn⟩|⟨a,cap,hv,_,hsp,hcell⟩
    ·rw [hn] at hlen;simp at hlen;omega
    ·obtain ⟨ab,ao,as⟩:=a
     simp only at hsp
     subst hsp
     have hu:us[i.toNat]?=some us[i.toNat]:=List.getElem?_eq_getElem (by omega)
     obtain ⟨F',hro,hsub⟩:=hin i.toNat _ LL[i.toNat] hu (List.getElem?_eq_getElem hi')
     have hone:(us[i.toNat]).oneCell'=true:=by
      rcases hro with ⟨⟨_,h1⟩,_⟩|⟨a,cap,h1,_⟩<;>rw [h1]<;>rfl
     refine ⟨us[i.toNat], ?_,_,_,_,h,EffOk.shared R hp hf hc rfl (.ro e (at' [] LL i)) rfl us[i.toNat] us[i.toNat] F' _ hone (by rw [hat];exact hro) hsub ?_⟩
     ·have hcl:=hcell i.toNat _ hu
      rw [Addr.add_lit] at hcl
      simp only [SV.den,hv,addrOf,Addr.add_lit,Nat.mul_one,Nat.add_zero]
      have hpt:partT X t [SV.raw us[i.toNat]] 0=some (.raw us[i.toNat]):=by
       unfold partT;rw [ha,hs];rfl
      refine run_load_part (ρ:=ρ) X rfl hpt (b:=ab) (o:=ao+i.toNat) ?_
      intro j u hj
      cases j with
      |zero=>simp [denL,SV.den] at hj;subst hj;exact hcl
      |succ j=>simp [denL] at hj
     ·intro s hs
      simp only [Option.some.injEq] at hs
      subst hs
      simp [SV.den,setF_same]
   ·exact h.elim
  ·exact h.elim
 ·exact h.elim
theorem kept_setRow (w:World) (g:Nat) (cs:Array Value) {M:Nat->Prop} (hM:M g):Kept M w (w.setRow g cs):=
 ⟨rfl,rfl,rfl,by simp,fun b _ hb=>setRow_other w g b cs (fun e=>hb (by rw [e];exact hM))⟩
theorem run_storeAt_row {P:Program} {t:TypeId} {v:Value} {n:Nat} (hi:(P.info? t).map (·.size)=some n) (hn:v.cells.size=n) (h1: ∀u∈v.cells.toList,u.oneCell'=true) {g o:Nat} {cur:Array Value} {ty:TypeId}
  (hg:w.heap[g]?=some (.cells cur ty (0,0))) (hle:o+n<=cur.size):
  (Instr.storeAt t (.pointer (some ⟨g,o,none⟩)) v).run P w= .ok () (w.setRow g (cur.toList.take o++v.cells.toList++cur.toList.drop (o+n)).toArray):=by
 have hst:=run_storeCells_at P g o ty v.cells.toList 0 cur w hg (by simp;omega) h1
 cases hq:P.info? t with
 |none=>simp [hq] at hi
 |some i=>
  have hs:i.size=n:=by simpa [hq] using hi
  simp only [Nat.add_zero,Array.length_toList,hn] at hst
  simp only [Instr.storeAt,Instr.sureAddr,Sem.run_bind,Sem.run_pure,Result.andThen_ok,storeVar,sizeOf,typeInfo,run_program,hq,hs,hn,ne_eq,not_true_eq_false,if_false,hst]
theorem setElt_ok {EE:Nat} {i:Int} {j:Nat} {new:List SV} {e:Nat} {L:List (T e).α} {f:List (T e).α->Tree (Eff T O)} (h:(setElt EE i j new e L f).holds K):
  ∃a,(T e).n=EE/\ j+new.length<=EE/\ inb i L.length=true/\ (T e).dec (splice ((T e).enc (at' (T e).zero L i)) j new)=some a/\ (f (L.set i.toNat a)).holds K:=by
 unfold setElt at h
 split at h
 ·rename_i hb
  simp only [Bool.and_eq_true,decide_eq_true_eq] at hb
  rw [Tree.holds_chk] at h
  split at h
  ·rename_i a ha
   exact ⟨a,hb.1,hb.2,h.1,ha,h.2⟩
  ·exact h.2.elim
 ·exact h.elim
theorem set_vals {e:Nat} {L:List (T e).α} {i:Int} {j:Nat} {new:List SV} {a:(T e).α} (hj:j+new.length<=(T e).n) (hin:inb i L.length=true)
  (ha:(T e).dec (splice ((T e).enc (at' (T e).zero L i)) j new)=some a):
  valsL (T e) (L.set i.toNat a)=(valsL (T e) L).take (i.toNat*(T e).n+j)++denL ρ new++(valsL (T e) L).drop (i.toNat*(T e).n+j+new.length):=by
 obtain ⟨hi,hat⟩:=at_eq (T e).zero L i hin
 have:=valsL_set (T e) L i.toNat hi a j (denL ρ new) (by rw [length_denL];exact hj) (by
  rw [←enc_den (T e) ρ a,(T e).back _ _ ha,denL_splice,hat,enc_den,length_denL])
 rwa [length_denL] at this
theorem seg_take {α:Type} (cur V:List α) (p n:Nat) (h:p+V.length<=n) (hn:n<=cur.length):
  (cur.take p++V++cur.drop (p+V.length)).take n=(cur.take n).take p++V++(cur.take n).drop (p+V.length):=by
 rw [List.take_append,List.take_of_length_le (l:=cur.take p++V) (by simp;omega),List.take_take,Nat.min_eq_left (by omega),List.drop_take]
 congr 2
 simp;omega
theorem seat_row {α:Type} (A P D:List α) (i:Nat) (hi:i<P.length) (p:α):(A++P++D).take (i+A.length)++[p]++(A++P++D).drop (i+A.length+1)=A++P.set i p++D:=by
 have e1:(A++P++D).take (i+A.length)=A++P.take i:=by
  rw [List.append_assoc,Nat.add_comm,List.take_length_add_append,List.take_append_of_le_length (by omega)]
 have e2:(A++P++D).drop (i+A.length+1)=P.drop (i+1)++D:=by
  rw [List.append_assoc,show i+A.length+1=A.length+(i+1) by omega,List.drop_length_add_append,List.drop_append_of_le_length (by omega)]
 rw [e1,e2,List.set_eq_take_append_cons_drop,if_pos hi]
 simp
theorem seat_store {t:TypeId} {k:Nat} {cs ds:List SV} {o n:Nat} {L:List (Option (O o))} {hole:Option (Int×Nat)} {ty:TypeId} (hc:H k=some (.tab cs o n L hole ds ty)) (hp:HeapOk R ρ H Fs w) {i:Int} (hhole: ∀m,m≠i.toNat->holeAt hole m=none) (hin:inb i n=true) {d:Option (O o)} {p:Value}
  (hsz:sizeT X t=some 1) (hpc:p.cells= #[p]) (hone:p.oneCell'=true) {ids:List Nat} (hids: ∀id∈ids,∃c,H id=some c/\ c.owned=true) (hk:k∉ids)
  (hs: ∀w',(∀x,(∃id∈ids,Fs id x)->w'.heap[x]?=w.heap[x]?)->seatOk R ρ w' none d p (fun x=> ∃id∈ids,Fs id x))
  (h:K ⟨none,(k,some (.tab cs o n (L.set i.toNat d) none ds ty))::goneU ids⟩):
  ∃w',(Instr.storeAt t ((SV.elt k i 1 cs.length).den ρ) p).run X.P w= .ok () w'/\ OpOk R ρ H Fs w fresh K undef w':=by
 have hh:=hp.holds k _ hc
 obtain ⟨b,ptrs,hbv,hg,⟨hall,hall2,hLn,hvl⟩,Fi,h4,h5,h6,h7⟩:=hh
 have hin':0<=i/\ i<(n:Int):=by simpa [inb] using hin
 have hi:i.toNat<ptrs.length:=by omega
 have hrun:=run_storeAt_row (w:=w) (P:=X.P) (t:=t) (v:=p) hsz (by rw [hpc];rfl) (by rw [hpc];simpa using hone) hg (o:=i.toNat*1+cs.length) (by simp [length_denL];omega)
 have bk:Fs k b:=(h7 b).2 (.inl rfl)
 obtain ⟨Fs',he⟩:=EffOk.seat R hp fresh hc (i:=i.toNat) hhole (d:=d) (p:=p) (ids:=ids) hids hk hbv hg (w':=w.setRow b ((denL ρ cs++ptrs++denL ρ ds).toArray.toList.take (i.toNat*1+cs.length)++p.cells.toList++(denL ρ cs++ptrs++denL ρ ds).toArray.toList.drop (i.toNat*1+cs.length+1)).toArray)
  (by
   rw [setRow_heap w b _ _ ty (0,0) hg,hpc]
   have:=seat_row (denL ρ cs) ptrs (denL ρ ds) i.toNat hi p
   rw [length_denL] at this
   rw [Nat.mul_one]
   rw [←this])
  (kept_setRow w b _ rfl) (G:=fun x=> ∃id∈ids,Fs id x) (fun _=>hs _ (by
   rintro x ⟨id,hid,hx⟩
   refine setRow_other w b x _ ?_
   rintro rfl
   obtain ⟨c,h1,h2⟩:=hids id hid
   exact hp.sep id k c _ h1 hc (fun e=>hk (e▸hid)) h2 _ hx bk)) (fun x h=>⟨by omega,h⟩) undef
 exact ⟨_,by simp only [SV.den,hbv,addrOf,Addr.add_lit,Nat.zero_add];exact hrun,_,ρ,Fs',h,he⟩
theorem store_ok {t:TypeId} {x v:SV} {k:Nat} {c:Chunk T O} (hk:x.head=[k]) (hc:H k=some c) (h:(storeT X t x v c:Tree (Eff T O)).holds K) (hp:HeapOk R ρ H Fs w):
  ∃w',(Instr.storeAt t (x.den ρ) (v.den ρ)).run X.P w= .ok () w'/\ OpOk R ρ H Fs w fresh K undef w':=by
 have hh:=hp.holds k c hc
 unfold storeT at h
 split at h
 ·rename_i hb
  simp only [Bool.and_eq_true,decide_eq_true_eq] at hb
  obtain ⟨hsz,hcell⟩:=hb
  have hcells:=cells_den hp.one hcell
  have h1: ∀u∈(SV.den ρ v).cells.toList,u.oneCell'=true:=by rw [hcells];exact all_cell_den hp.one hcell
  have hn:(SV.den ρ v).cells.size=v.cells.length:=by rw [hcells];simp [length_denL]
  split at h
  ·rename_i k' off cs ty
   simp only [SV.head,List.cons.injEq,and_true] at hk
   subst hk
   obtain ⟨b,hbv,hg,hall,hF⟩:=hh
   split at h
   ·rename_i hle
    have hrun:=run_storeAt_row (w:=w) hsz hn h1 hg (o:=off) (by simp [length_denL];exact hle)
    refine ⟨_,by simp only [SV.den,hbv,addrOf,Addr.add_lit,Nat.zero_add];exact hrun,_,ρ,Fs,h, ?_⟩
    refine EffOk.change R hp fresh (c':= .cells (splice cs off v.cells) ty) hc rfl (kept_setRow w b _ ((hF b).2 rfl)) ?_ none undef (fun s hs=>by cases hs)
    refine ⟨b,hbv, ?_, ?_,hF⟩
    ·rw [setRow_heap w b _ _ ty (0,0) hg,denL_splice,hcells]
    ·simp only [splice,List.all_append,hcell,Bool.and_true]
     rw [List.all_eq_true] at hall
     simp only [Bool.and_eq_true,List.all_eq_true]
     exact ⟨fun y hy=>hall y (List.mem_of_mem_take hy),fun y hy=>hall y (List.mem_of_mem_drop hy)⟩
   ·exact h.elim
  ·rename_i k' off cs o n L hole ds ty
   simp only [SV.head,List.cons.injEq,and_true] at hk
   subst hk
   obtain ⟨b,ptrs,hbv,hg,⟨hall,hall2,hLn,hvl⟩,Fi,h4,h5,h6,h7⟩:=hh
   have bk:Fs k' b:=(h7 b).2 (.inl rfl)
   have stay: ∀(q:Array Value) (j:Nat) (p:Value),ptrs[j]?=some p->seatOk R ρ (w.setRow b q) (holeAt hole j) (L.getD j none) p (Fi j):=fun q j p hj=>seatOk_stable R (h4 j p hj) fun x hx=>setRow_other w b x q (h6 j x hx).1
   split at h
   ·rename_i hoff
    split at h
    ·rename_i hle
     have hrun:=run_storeAt_row (w:=w) hsz hn h1 hg (o:=off) (by simp [length_denL];omega)
     refine ⟨_,by simp only [SV.den,hbv,addrOf,Addr.add_lit,Nat.zero_add];exact hrun,_,ρ,Fs,h, ?_⟩
     refine EffOk.change R hp fresh (c':= .tab (splice cs off v.cells) o n L hole ds ty) hc rfl (kept_setRow w b _ bk) ?_ none undef (fun s hs=>by cases hs)
     refine ⟨b,ptrs,hbv, ?_,⟨?_,hall2,hLn,hvl⟩,Fi,stay _,h5,h6,h7⟩
     ·rw [setRow_heap w b _ _ ty (0,0) hg,denL_splice,hcells]
      have hlen:off+v.cells.length<=(denL ρ cs).length:=by rw [length_denL];exact hle
      rw [List.append_assoc,List.append_assoc,List.append_assoc,←List.append_assoc (denL ρ cs)]
      congr 3
      rw [List.take_append_of_le_length (by rw [List.length_append];omega),List.take_append_of_le_length (by omega),List.drop_append_of_le_length (by rw [List.length_append];omega),List.drop_append_of_le_length (by omega)]
      simp only [List.append_assoc]
     ·simp only [splice,List.all_append,hcell,Bool.and_true]
      rw [List.all_eq_true] at hall
      simp only [Bool.and_eq_true,List.all_eq_true]
      exact ⟨fun y hy=>hall y (List.mem_of_mem_take hy),fun y hy=>hall y (List.mem_of_mem_drop hy)⟩
    ·exact h.elim
   ·split at h
    ·rename_i hle
     obtain ⟨hle1,hle2⟩:=hle
     have hrun:=run_storeAt_row (w:=w) hsz hn h1 hg (o:=off) (by simp [length_denL,hvl];omega)
     refine ⟨_,by simp only [SV.den,hbv,addrOf,Addr.add_lit,Nat.zero_add];exact hrun,_,ρ,Fs,h, ?_⟩
     refine EffOk.change R hp fresh (c':= .tab cs o n L hole (splice ds (off-(cs.length+n)) v.cells) ty) hc rfl (kept_setRow w b _ bk) ?_ none undef (fun s hs=>by cases hs)
     refine ⟨b,ptrs,hbv, ?_,⟨hall, ?_,hLn,hvl⟩,Fi,stay _,h5,h6,h7⟩
     ·rw [setRow_heap w b _ _ ty (0,0) hg,denL_splice,hcells]
      obtain ⟨q,hq⟩: ∃q,off=(denL ρ cs++ptrs).length+q:=⟨off-(cs.length+n),by rw [List.length_append,length_denL,hvl];omega⟩
      have hq2:off-(cs.length+n)=q:=by rw [List.length_append,length_denL,hvl] at hq;omega
      rw [hq2,hq]
      rw [List.take_length_add_append,Nat.add_assoc,List.drop_length_add_append]
      simp only [List.append_assoc]
     ·simp only [splice,List.all_append,hcell,Bool.and_true]
      rw [List.all_eq_true] at hall2
      simp only [Bool.and_eq_true,List.all_eq_true]
      exact ⟨fun y hy=>hall2 y (List.mem_of_mem_take hy),fun y hy=>hall2 y (List.mem_of_mem_drop hy)⟩
    ·exact h.elim
  ·rename_i k' i EE j cs o n L hole ds ty
   simp only [SV.head,List.cons.injEq,and_true] at hk
   subst hk
   split at h
   ·split at h
    ·rename_i hE
     obtain ⟨rfl,rfl⟩:=hE
     rw [Tree.holds_chk] at h
     obtain ⟨hin,h⟩:=h
     exact seat_store R X hc hp (fun _ _=>rfl) hin (d:=none) (p:= .pointer none) (ids:=[]) hsz rfl rfl (by simp) (by simp) (fun w' _=>⟨rfl,fun x ⟨id,hid,_⟩=>by simp at hid⟩) h
    ·exact h.elim
   ·split at h
    ·rename_i hE
     obtain ⟨rfl,rfl⟩:=hE
     rw [Tree.holds_chk] at h
     obtain ⟨hin,h⟩:=h
     simp only [Bool.and_eq_true,decide_eq_true_eq] at hin
     obtain ⟨hin,rfl⟩:=hin
     exact seat_store R X hc hp (fun m hm=>by unfold holeAt;simp;exact fun e=>hm e.symm) hin (d:=none) (p:= .pointer none) (ids:=[]) hsz rfl rfl (by simp) (by simp) (fun w' _=>⟨rfl,fun x ⟨id,hid,_⟩=>by simp at hid⟩) h
    ·exact h.elim
   ·exact h.elim
  ·rename_i k' off cs e n L ds ty
   simp only [SV.head,List.cons.injEq,and_true] at hk
   subst hk
   obtain ⟨b,hbv,hg,⟨hall,hall2,hLn⟩,hF⟩:=hh
   have hvl:(valsL (T e) L).length=n*(T e).n:=by rw [valsL_len,hLn]
   split at h
   ·rename_i hoff
    split at h
    ·rename_i hle
     have hrun:=run_storeAt_row (w:=w) hsz hn h1 hg (o:=off) (by simp [length_denL];omega)
     refine ⟨_,by simp only [SV.den,hbv,addrOf,Addr.add_lit,Nat.zero_add];exact hrun,_,ρ,Fs,h, ?_⟩
     refine EffOk.change R hp fresh (c':= .mix (splice cs off v.cells) e n L ds ty) hc rfl (kept_setRow w b _ ((hF b).2 rfl)) ?_ none undef (fun s hs=>by cases hs)
     refine ⟨b,hbv, ?_,⟨?_,hall2,hLn⟩,hF⟩
     ·rw [setRow_heap w b _ _ ty (0,0) hg,denL_splice,hcells]
      have hlen:off+v.cells.length<=(denL ρ cs).length:=by rw [length_denL];exact hle
      rw [List.append_assoc,List.append_assoc,List.append_assoc,←List.append_assoc (denL ρ cs)]
      congr 3
      rw [List.take_append_of_le_length (by rw [List.length_append];omega),List.take_append_of_le_length (by omega),List.drop_append_of_le_length (by rw [List.length_append];omega),List.drop_append_of_le_length (by omega)]
      simp only [List.append_assoc]
     ·simp only [splice,List.all_append,hcell,Bool.and_true]
      rw [List.all_eq_true] at hall
      simp only [Bool.and_eq_true,List.all_eq_true]
      exact ⟨fun y hy=>hall y (List.mem_of_mem_take hy),fun y hy=>hall y (List.mem_of_mem_drop hy)⟩
    ·exact h.elim
   ·split at h
    ·rename_i hle
     obtain ⟨hle1,hle2⟩:=hle
     have hrun:=run_storeAt_row (w:=w) hsz hn h1 hg (o:=off) (by simp [length_denL,hvl];omega)
     refine ⟨_,by simp only [SV.den,hbv,addrOf,Addr.add_lit,Nat.zero_add];exact hrun,_,ρ,Fs,h, ?_⟩
     refine EffOk.change R hp fresh (c':= .mix cs e n L (splice ds (off-(cs.length+n*(T e).n)) v.cells) ty) hc rfl (kept_setRow w b _ ((hF b).2 rfl)) ?_ none undef (fun s hs=>by cases hs)
     refine ⟨b,hbv, ?_,⟨hall, ?_,hLn⟩,hF⟩
     ·rw [setRow_heap w b _ _ ty (0,0) hg,denL_splice,hcells]
      obtain ⟨q,hq⟩: ∃q,off=(denL ρ cs++valsL (T e) L).length+q:=⟨off-(cs.length+n*(T e).n),by rw [List.length_append,length_denL,hvl];omega⟩
      have hq2:off-(cs.length+n*(T e).n)=q:=by rw [List.length_append,length_denL,hvl] at hq;omega
      rw [hq2,hq]
      rw [List.take_length_add_append,Nat.add_assoc,List.drop_length_add_append]
      simp only [List.append_assoc]
     ·simp only [splice,List.all_append,hcell,Bool.and_true]
      rw [List.all_eq_true] at hall2
      simp only [Bool.and_eq_true,List.all_eq_true]
      exact ⟨fun y hy=>hall2 y (List.mem_of_mem_take hy),fun y hy=>hall2 y (List.mem_of_mem_drop hy)⟩
    ·exact h.elim
  ·rename_i k' i EE j cs e n L ds ty
   simp only [SV.head,List.cons.injEq,and_true] at hk
   subst hk
   obtain ⟨b,hbv,hg,⟨hall,hall2,hLn⟩,hF⟩:=hh
   split at h
   ·rename_i hjc
    obtain ⟨a,rfl,hj,hin,ha,h⟩:=setElt_ok h
    have hi:i.toNat<L.length:=(at_eq (T e).zero L i hin).1
    have hle:i.toNat*(T e).n+(j-cs.length)+v.cells.length<=(valsL (T e) L).length:=by
     rw [valsL_len]
     have:(i.toNat+1)*(T e).n<=L.length*(T e).n:=Nat.mul_le_mul_right _ hi
     rw [Nat.add_mul] at this
     omega
    have hrun:=run_storeAt_row (w:=w) hsz hn h1 hg (o:=i.toNat*(T e).n+j) (by simp [length_denL];omega)
    refine ⟨_,by simp only [SV.den,hbv,addrOf,Addr.add_lit,Nat.zero_add];exact hrun,_,ρ,Fs,h, ?_⟩
    refine EffOk.change R hp fresh (c':= .mix cs e n (L.set i.toNat a) ds ty) hc rfl (kept_setRow w b _ ((hF b).2 rfl)) ?_ none undef (fun s hs=>by cases hs)
    refine ⟨b,hbv, ?_,⟨hall,hall2,by rw [List.length_set];exact hLn⟩,hF⟩
    rw [setRow_heap w b _ _ ty (0,0) hg,set_vals (ρ:=ρ) hj hin ha,hcells]
    obtain ⟨q,hq⟩: ∃q,i.toNat*(T e).n+j=(denL ρ cs).length+q:=⟨i.toNat*(T e).n+(j-cs.length),by rw [length_denL];omega⟩
    have hq2:i.toNat*(T e).n+(j-cs.length)=q:=by rw [length_denL] at hq;omega
    rw [hq2,hq]
    rw [hq2] at hle
    simp only [length_denL]
    have e1:cs.length=(denL ρ cs).length:=(length_denL ρ cs).symm
    rw [e1,List.append_assoc (denL ρ cs),List.take_length_add_append,Nat.add_assoc,List.drop_length_add_append,List.take_append_of_le_length (by omega),List.drop_append_of_le_length (by omega)]
    simp only [List.append_assoc]
   ·exact h.elim
  ·rename_i k' i EE j e L ty
   simp only [SV.head,List.cons.injEq,and_true] at hk
   subst hk
   obtain ⟨b,hbv,hg,hF⟩:=hh
   obtain ⟨a,rfl,hj,hin,ha,h⟩:=setElt_ok h
   have hi:i.toNat<L.length:=(at_eq (T e).zero L i hin).1
   have hle:i.toNat*(T e).n+j+v.cells.length<=(valsL (T e) L).toArray.size:=by
    simp only [List.size_toArray,valsL_len]
    have:(i.toNat+1)*(T e).n<=L.length*(T e).n:=Nat.mul_le_mul_right _ hi
    rw [Nat.add_mul] at this
    omega
   have hrun:=run_storeAt_row (w:=w) hsz hn h1 hg (o:=i.toNat*(T e).n+j) hle
   refine ⟨_,by simp only [SV.den,hbv,addrOf,Addr.add_lit,Nat.zero_add];exact hrun,_,ρ,Fs,h, ?_⟩
   refine EffOk.change R hp fresh (c':= .arr e (L.set i.toNat a) ty) hc rfl (kept_setRow w b _ ((hF b).2 rfl)) ?_ none undef (fun s hs=>by cases hs)
   refine ⟨b,hbv, ?_,hF⟩
   rw [setRow_heap w b _ _ ty (0,0) hg,set_vals (ρ:=ρ) hj hin ha,hcells]
  ·rename_i k' i EE j e L ty
   simp only [SV.head,List.cons.injEq,and_true] at hk
   subst hk
   obtain ⟨hown,hF⟩:=hh
   obtain ⟨a,rfl,hj,hin,ha,h⟩:=setElt_ok h
   have hi:i.toNat<L.length:=(at_eq (T e).zero L i hin).1
   rcases hown.2 with ⟨hv,hn0⟩|⟨g,cap,cur,hv,hbase,hg,hlc,hcap,hcs,htake⟩
   ·omega
   ·have hlt:i.toNat*(T e).n+j+v.cells.length<=L.length*(T e).n:=by
     have:(i.toNat+1)*(T e).n<=L.length*(T e).n:=Nat.mul_le_mul_right _ hi
     rw [Nat.add_mul] at this
     omega
    have hlc':L.length*(T e).n<=cap*(T e).n:=Nat.mul_le_mul_right _ hlc
    have hrun:=run_storeAt_row (w:=w) hsz hn h1 hg (o:=i.toNat*(T e).n+j) (by omega)
    refine ⟨_,by simp only [SV.den,hv,addrOf,Addr.add_lit,Nat.zero_add];exact hrun,_,ρ,Fs,h, ?_⟩
    refine EffOk.change R hp fresh (c':= .vec e (L.set i.toNat a) ty) hc rfl (kept_setRow w g _ ((hF g).2 (by rw [hv];rfl))) ?_ none undef (fun s hs=>by cases hs)
    refine ⟨⟨by rw [valsL_len], .inr ⟨g,cap,_, ?_,hbase,setRow_heap w g _ _ ty (0,0) hg, ?_,hcap, ?_, ?_⟩⟩,hF⟩
    ·rw [hv];simp
    ·simpa using hlc
    ·simp only [List.size_toArray,List.length_append,List.length_take,List.length_drop,Array.length_toList,hcells,length_denL]
     omega
    ·have hvl:(valsL (T e) L).length=L.length*(T e).n:=valsL_len _ _
     simp only [List.length_set]
     rw [set_vals (ρ:=ρ) hj hin ha,hcells,←htake]
     have:=seg_take cur.toList (denL ρ v.cells) (i.toNat*(T e).n+j) (L.length*(T e).n) (by rw [length_denL];omega) (by simp;omega)
     rw [length_denL] at this
     exact this
  ·exact h.elim
 ·exact h.elim
theorem storeP_ok (hL:LayOk R X) {t:TypeId} {x v:SV} {k:Nat} {c:Chunk T O} (hk:x.head=[k]) (hc:H k=some c) (h:(storeP X t H x v c:Tree (Eff T O)).holds K) (hp:HeapOk R ρ H Fs w):
  ∃w',(Instr.storeAt t (x.den ρ) (v.den ρ)).run X.P w= .ok () w'/\ OpOk R ρ H Fs w fresh K undef w':=by
 unfold storeP at h
 split at h
 ·rename_i cs o n L hole ds ty k' i E j k'' off
  simp only [SV.head,List.cons.injEq,and_true] at hk
  subst hk
  split at h
  ·rename_i d ids hto hsz
   split at h
   ·rename_i hE
    obtain ⟨rfl,rfl,rfl,hni⟩:=hE
    rw [Tree.holds_chk] at h
    obtain ⟨hin,h⟩:=h
    obtain ⟨h1,h2,h3⟩:=takeO_rep R X hL hp hto
    obtain ⟨b2,hb2⟩:=R.ptr o d _ w _ h2
    have hv:SV.den ρ (.ptr k'' 0)=ρ k'':=by
     simp only [SV.den,hb2,addrOf];rfl
    rw [hv]
    refine seat_store R X hc hp (fun _ _=>rfl) hin (d:=some d) (p:=ρ k'') (ids:=ids) hsz (by rw [hb2];rfl) (hp.one _) h1 (by simpa using hni) (fun w' hw'=> ?_) h
    exact R.stable o d _ w w' _ h2 hw'
   ·exact h.elim
  ·rename_i i0 k0 d ids hto hsz
   split at h
   ·rename_i hE
    obtain ⟨rfl,rfl,rfl,hni⟩:=hE
    rw [Tree.holds_chk] at h
    obtain ⟨hin,h⟩:=h
    simp only [Bool.and_eq_true,decide_eq_true_eq] at hin
    obtain ⟨hin,rfl⟩:=hin
    obtain ⟨h1,h2,h3⟩:=takeO_rep R X hL hp hto
    obtain ⟨b2,hb2⟩:=R.ptr o d _ w _ h2
    have hv:SV.den ρ (.ptr k'' 0)=ρ k'':=by
     simp only [SV.den,hb2,addrOf];rfl
    rw [hv]
    refine seat_store R X hc hp (fun m hm=>by unfold holeAt;simp;exact fun e=>hm e.symm) hin (d:=some d) (p:=ρ k'') (ids:=ids) hsz (by rw [hb2];rfl) (hp.one _) h1 (by simpa using hni) (fun w' hw'=> ?_) h
    exact R.stable o d _ w w' _ h2 hw'
   ·exact h.elim
  ·exact h.elim
 ·exact store_ok R X hk hc h hp
theorem indexAddr_ok {t:TypeId} {x i:SV} {k:Nat} {c:Chunk T O} (hk:x.head=[k]) (hc:H k=some c) (h:(indexAddrT X t x i c:Tree (Eff T O)).holds K) (hp:HeapOk R ρ H Fs w):
  ∃v,(Instr.indexAt t (x.den ρ) (i.den ρ)).run X.P w= .ok v w/\ OpOk R ρ H Fs w fresh K v w:=by
 have hh:=hp.holds k c hc
 have size: ∀ {el E},sizeT X el=some E->(sizeOf el).run X.P w= .ok E w:=by
  intro el E hs
  unfold sizeT at hs
  cases hi:X.P.info? el with
  |none=>simp [hi] at hs
  |some ie=>simp [sizeOf,typeInfo,hi];simpa [hi] using hs
 unfold indexAddrT at h
 split at h
 ·rename_i n el ik i hu
  split at h
  ·rename_i E k' off e L ty hs
   simp only [SV.head,List.cons.injEq,and_true] at hk
   subst hk
   obtain ⟨b,hbv,hg,hF⟩:=hh
   split at h
   ·rename_i hb
    simp only [Bool.and_eq_true,decide_eq_true_eq] at hb
    rw [Tree.holds_chk,Tree.holds_chk] at h
    obtain ⟨hL,hin,h⟩:=h
    have hin':0<=i/\ i<(n:Int):=by simpa [inb] using hin
    obtain ⟨hE,rfl⟩:=hb
    refine ⟨_,by simp only [SV.den,Instr.indexAt,asIntOf,run_underlying hu,Instr.sureAddr,Sem.run_bind,Sem.run_pure,Result.andThen_ok,hin',if_true,and_self,size hs,Addr.add_zero'];rfl,OpOk.pure R hp h (by simp [SV.den])⟩
   ·split at h
    ·rename_i hb
     simp only [Bool.and_eq_true,decide_eq_true_eq] at hb
     obtain ⟨rfl,hE⟩:=hb
     rw [Tree.holds_chk] at h
     obtain ⟨hin,h⟩:=h
     have hin':0<=i/\ i<(n:Int):=by simpa [inb] using hin
     have hnat:(i*(E/(T e).n:Nat)).toNat*(T e).n=i.toNat*E:=by
      obtain ⟨m,rfl⟩:=Int.eq_ofNat_of_zero_le hin'.1
      rw [←Int.natCast_mul,Int.toNat_natCast,Int.toNat_natCast,Nat.mul_assoc,Nat.mul_comm (E/(T e).n),hE]
     refine ⟨_,by simp only [SV.den,Instr.indexAt,asIntOf,run_underlying hu,Instr.sureAddr,Sem.run_bind,Sem.run_pure,Result.andThen_ok,hin',if_true,and_self,size hs,Addr.add_zero'];rfl,OpOk.pure R hp h (by simp only [SV.den,hnat,Nat.add_zero])⟩
    ·exact h.elim
  ·rename_i E k' i0 E0 j e L ty hs
   simp only [SV.head,List.cons.injEq,and_true] at hk
   subst hk
   split at h
   ·rename_i hE
    have hE:=of_decide_eq_true hE
    subst hE
    rw [Tree.holds_chk,Tree.holds_chk] at h
    obtain ⟨h0,hin,h⟩:=h
    have h0:=of_decide_eq_true h0
    have hin':0<=i/\ i<(n:Int):=by simpa [inb] using hin
    have hnat:(i0.toNat*E0+j)+i.toNat*E0=(i0+i).toNat*E0+j:=by
     obtain ⟨m,rfl⟩:=Int.eq_ofNat_of_zero_le hin'.1
     obtain ⟨m0,rfl⟩:=Int.eq_ofNat_of_zero_le h0
     rw [←Int.natCast_add,Int.toNat_natCast,Int.toNat_natCast,Int.toNat_natCast,Nat.add_mul]
     omega
    refine ⟨_,by simp only [SV.den,Instr.indexAt,asIntOf,run_underlying hu,Instr.sureAddr,Sem.run_bind,Sem.run_pure,Result.andThen_ok,hin',if_true,and_self,size hs,addr_add];rfl,OpOk.pure R hp h (by simp only [SV.den,hnat,Nat.add_zero])⟩
   ·exact h.elim
  ·rename_i E k' off cs ty hs
   simp only [SV.head,List.cons.injEq,and_true] at hk
   subst hk
   rw [Tree.holds_chk] at h
   obtain ⟨hin,h⟩:=h
   have hin':0<=i/\ i<(n:Int):=by simpa [inb] using hin
   refine ⟨_,by simp only [SV.den,Instr.indexAt,asIntOf,run_underlying hu,Instr.sureAddr,Sem.run_bind,Sem.run_pure,Result.andThen_ok,hin',if_true,and_self,size hs,addr_add];rfl,OpOk.pure R hp h (by simp [SV.den])⟩
  ·rename_i E k' off cs o n' L hole ds ty hs
   simp only [SV.head,List.cons.injEq,and_true] at hk
   subst hk
   split at h
   ·rename_i hb
    rw [Tree.holds_chk] at h
    obtain ⟨hin,h⟩:=h
    have hin':0<=i/\ i<(n:Int):=by simpa [inb] using hin
    refine ⟨_,by simp only [SV.den,Instr.indexAt,asIntOf,run_underlying hu,Instr.sureAddr,Sem.run_bind,Sem.run_pure,Result.andThen_ok,hin',if_true,and_self,size hs,addr_add];rfl,OpOk.pure R hp h (by simp only [SV.den];rw [Nat.add_comm])⟩
   ·exact h.elim
  ·rename_i E k' off cs e n' L ds ty hs
   simp only [SV.head,List.cons.injEq,and_true] at hk
   subst hk
   split at h
   ·rename_i hb
    rw [Tree.holds_chk] at h
    obtain ⟨hin,h⟩:=h
    have hin':0<=i/\ i<(n:Int):=by simpa [inb] using hin
    refine ⟨_,by simp only [SV.den,Instr.indexAt,asIntOf,run_underlying hu,Instr.sureAddr,Sem.run_bind,Sem.run_pure,Result.andThen_ok,hin',if_true,and_self,size hs,addr_add];rfl,OpOk.pure R hp h (by simp only [SV.den];rw [Nat.add_comm])⟩
   ·exact h.elim
  ·rename_i E k' i0 E0 j e L hs
   rw [Tree.holds_chk] at h
   obtain ⟨hin,h⟩:=h
   have hin':0<=i/\ i<(n:Int):=by simpa [inb] using hin
   refine ⟨_,by simp only [SV.den,Instr.indexAt,asIntOf,run_underlying hu,Instr.sureAddr,Sem.run_bind,Sem.run_pure,Result.andThen_ok,hin',if_true,and_self,size hs,addr_add];rfl,OpOk.pure R hp h (by simp [SV.den,Nat.add_assoc])⟩
  ·rename_i E k' i0 E0 j e L ty hs
   rw [Tree.holds_chk] at h
   obtain ⟨hin,h⟩:=h
   have hin':0<=i/\ i<(n:Int):=by simpa [inb] using hin
   refine ⟨_,by simp only [SV.den,Instr.indexAt,asIntOf,run_underlying hu,Instr.sureAddr,Sem.run_bind,Sem.run_pure,Result.andThen_ok,hin',if_true,and_self,size hs,addr_add];rfl,OpOk.pure R hp h (by simp [SV.den,Nat.add_assoc])⟩
  ·exact h.elim
 ·rename_i el ik i hu
  split at h
  ·rename_i E k' e L ty hs
   simp only [SV.head,List.cons.injEq,and_true] at hk
   subst hk
   obtain ⟨hown,hF⟩:=hh
   split at h
   ·rename_i hE
    rw [Tree.holds_chk] at h
    obtain ⟨hin,h⟩:=h
    have hin':0<=i/\ i<(L.length:Int):=by simpa [inb] using hin
    rcases hown.2 with ⟨hv,hn0⟩|⟨g,cap,cur,hv,_⟩
    ·omega
    ·refine ⟨_,by simp only [SV.den,hv,Instr.indexAt,asIntOf,run_underlying hu,Sem.run_bind,Sem.run_pure,Result.andThen_ok,hin',if_true,and_self,size hs];rfl,OpOk.pure R hp h (by simp [SV.den,hv,addrOf])⟩
   ·exact h.elim
  ·rename_i E k' e L hs
   simp only [SV.head,List.cons.injEq,and_true] at hk
   subst hk
   split at h
   ·rename_i hE
    rw [Tree.holds_chk] at h
    obtain ⟨hin,h⟩:=h
    have hin':0<=i/\ i<(L.length:Int):=by simpa [inb] using hin
    rcases hh with ⟨hv,hn,_⟩|⟨a,cap,hv,_⟩
    ·simp [hn] at hin';omega
    ·refine ⟨_,by simp only [SV.den,hv,Instr.indexAt,asIntOf,run_underlying hu,Sem.run_bind,Sem.run_pure,Result.andThen_ok,hin',if_true,and_self,size hs];rfl,OpOk.pure R hp h (by simp [SV.den,hv,addrOf])⟩
   ·exact h.elim
  ·rename_i E k' e L ty hs
   simp only [SV.head,List.cons.injEq,and_true] at hk
   subst hk
   split at h
   ·rename_i hE
    rw [Tree.holds_chk] at h
    obtain ⟨hin,h⟩:=h
    have hin':0<=i/\ i<(L.length:Int):=by simpa [inb] using hin
    rcases hh with ⟨hv,hn,_⟩|⟨g,off,cap,cur,hv,_⟩
    ·simp [hn] at hin';omega
    ·refine ⟨_,by simp only [SV.den,hv,Instr.indexAt,asIntOf,run_underlying hu,Sem.run_bind,Sem.run_pure,Result.andThen_ok,hin',if_true,and_self,size hs];rfl,OpOk.pure R hp h (by simp [SV.den,hv,addrOf])⟩
   ·exact h.elim
  ·rename_i E k' e1 e L hs
   simp only [SV.head,List.cons.injEq,and_true] at hk
   subst hk
   obtain ⟨us,Fi,_,_,hrow,_⟩:=hh
   split at h
   ·rename_i hE
    rw [Tree.holds_chk] at h
    obtain ⟨hin,h⟩:=h
    have hin':0<=i/\ i<(L.length:Int):=by simpa [inb] using hin
    rcases hrow with ⟨hv,hn⟩|⟨a,cap,hv,_⟩
    ·simp [hn] at hin';omega
    ·refine ⟨_,by simp only [SV.den,hv,Instr.indexAt,asIntOf,run_underlying hu,Sem.run_bind,Sem.run_pure,Result.andThen_ok,hin',if_true,and_self,size hs];rfl,OpOk.pure R hp h (by simp [SV.den,hv,addrOf])⟩
   ·exact h.elim
  ·rename_i E k' lo n E' e L ty hs
   simp only [SV.head,List.cons.injEq,and_true] at hk
   subst hk
   obtain ⟨hown,hF⟩:=hh
   split at h
   ·rename_i hE
    obtain ⟨_,rfl⟩:=hE
    rw [Tree.holds_chk] at h
    obtain ⟨hin,h⟩:=h
    simp only [Bool.and_eq_true,decide_eq_true_eq] at hin
    obtain ⟨⟨hin,hlo⟩,hln⟩:=hin
    have hin':0<=i/\ i<(n.toNat:Int):=by simpa [inb] using hin
    rcases hown.2 with ⟨hv,hn0⟩|⟨g,cap,cur,hv,_,_,hlc,_⟩
    ·omega
    ·have hne: ¬cap=lo.toNat:=by omega
     have hnat:lo.toNat*E'+i.toNat*E'=(lo+i).toNat*E':=by
      rw [←Nat.add_mul]
      congr 1
      omega
     refine ⟨_,by simp only [SV.den,viewOf,hv,hne,if_false,Option.map_some,Instr.indexAt,asIntOf,run_underlying hu,Sem.run_bind,Sem.run_pure,Result.andThen_ok,hin',if_true,and_self,size hs,addr_add];rfl,OpOk.pure R hp h (by simp [SV.den,hv,addrOf,hnat])⟩
   ·exact h.elim
  ·rename_i E k' off n cs o n' L hole ds ty hs
   simp only [SV.head,List.cons.injEq,and_true] at hk
   subst hk
   obtain ⟨b,ptrs,hbv,hg,_⟩:=hh
   split at h
   ·rename_i hE
    subst hE
    rw [Tree.holds_chk] at h
    obtain ⟨hin,h⟩:=h
    have hin':0<=i/\ i<(n:Int):=by simpa [inb] using hin
    refine ⟨_,by simp only [SV.den,hbv,addrOf,Addr.add_lit,Instr.indexAt,asIntOf,run_underlying hu,Sem.run_bind,Sem.run_pure,Result.andThen_ok,hin',if_true,and_self,size hs];rfl,OpOk.pure R hp h (by simp only [SV.den,hbv,addrOf,Addr.add_lit,Nat.zero_add];rw [Nat.add_comm])⟩
   ·exact h.elim
  ·rename_i E k' e LL hs
   simp only [SV.head,List.cons.injEq,and_true] at hk
   subst hk
   split at h
   ·rename_i hE
    subst hE
    rw [Tree.holds_chk] at h
    obtain ⟨hin,h⟩:=h
    have hin':0<=i/\ i<(LL.length:Int):=by simpa [inb] using hin
    obtain ⟨us,hrow,hlen,_⟩:=hh
    rcases hrow with ⟨hv,hn⟩|⟨a,cap,hv,_⟩
    ·rw [hn] at hlen;simp at hlen;omega
    ·rw [hlen] at hv
     refine ⟨_,by simp only [SV.den,hv,Instr.indexAt,asIntOf,run_underlying hu,Sem.run_bind,Sem.run_pure,Result.andThen_ok,hin',if_true,and_self,size hs];rfl,OpOk.pure R hp h (by simp [SV.den,hv,addrOf])⟩
   ·exact h.elim
  ·exact h.elim
 ·exact h.elim
theorem len_ok {t ty:TypeId} {ts:Array TypeId} (ht:ts[0]?=some t) {x:SV} (h:(lenT X t x (headC H x):Tree (Eff T O)).holds K) (hp:HeapOk R ρ H Fs w):
  ∃v,(Builtin.len_ ts ty #[x.den ρ]).run X.P w= .ok v w/\ OpOk R ρ H Fs w fresh K v w:=by
 unfold lenT at h
 split at h
 ·rename_i el k e L tt hu hk
  simp only [headC,SV.head] at hk
  obtain ⟨hown,_⟩:=hp.holds k _ hk
  have: ∃b cap,ρ k= .slice b L.length cap:=by
   rcases hown.2 with ⟨hv,hn⟩|⟨g,cap,cur,hv,_⟩
   ·exact ⟨none,0,by rw [hv,hn]⟩
   ·exact ⟨_,_,hv⟩
  obtain ⟨b,cap,hv⟩:=this
  exact ⟨.int .i64 L.length,by simp [Builtin.len_,ht,SV.den,hv,run_underlying hu,goInt],OpOk.pure R hp h rfl⟩
 ·rename_i el k e L hu hk
  simp only [headC,SV.head] at hk
  have: ∃b cap,ρ k= .slice b L.length cap:=by
   rcases hp.holds k _ hk with ⟨⟨o,hv⟩,hn,_⟩|⟨a,cap,hv,_⟩
   ·exact ⟨o,0,by rw [hv,hn];rfl⟩
   ·exact ⟨_,_,hv⟩
  obtain ⟨b,cap,hv⟩:=this
  exact ⟨.int .i64 L.length,by simp [Builtin.len_,ht,SV.den,hv,run_underlying hu,goInt],OpOk.pure R hp h rfl⟩
 ·rename_i el k e L tt hu hk
  simp only [headC,SV.head] at hk
  have: ∃b cap,ρ k= .slice b L.length cap:=by
   rcases hp.holds k _ hk with ⟨⟨o,hv⟩,hn,_⟩|⟨g,off,cap,cur,hv,_⟩
   ·exact ⟨o,0,by rw [hv,hn];rfl⟩
   ·exact ⟨_,_,hv⟩
  obtain ⟨b,cap,hv⟩:=this
  exact ⟨.int .i64 L.length,by simp [Builtin.len_,ht,SV.den,hv,run_underlying hu,goInt],OpOk.pure R hp h rfl⟩
 ·rename_i el k e1 e L hu hk
  simp only [headC,SV.head] at hk
  obtain ⟨us,Fi,_,_,hrow,_⟩:=hp.holds k _ hk
  have: ∃b cap,ρ k= .slice b L.length cap:=by
   rcases hrow with ⟨⟨o,hv⟩,hn⟩|⟨a,cap,hv,_⟩
   ·exact ⟨o,0,by rw [hv,hn];rfl⟩
   ·exact ⟨_,_,hv⟩
  obtain ⟨b,cap,hv⟩:=this
  exact ⟨.int .i64 L.length,by simp [Builtin.len_,ht,SV.den,hv,run_underlying hu,goInt],OpOk.pure R hp h rfl⟩
 ·rename_i el k e1 e L tt hu hk
  simp only [headC,SV.head] at hk
  obtain ⟨us,Fi,_,hown,_⟩:=hp.holds k _ hk
  have: ∃b cap,ρ k= .slice b L.length cap:=by
   rcases hown.2 with ⟨hv,hn⟩|⟨g,cap,cur,hv,_⟩
   ·exact ⟨none,0,by rw [hv,hn]⟩
   ·exact ⟨_,_,hv⟩
  obtain ⟨b,cap,hv⟩:=this
  exact ⟨.int .i64 L.length,by simp [Builtin.len_,ht,SV.den,hv,run_underlying hu,goInt],OpOk.pure R hp h rfl⟩
 ·rename_i el k e LL hu hk
  simp only [headC,SV.head] at hk
  obtain ⟨us,hrow,hlen,_⟩:=hp.holds k _ hk
  have: ∃b cap,ρ k= .slice b LL.length cap:=by
   rw [←hlen]
   rcases hrow with ⟨hv,hn⟩|⟨a,cap,hv,_⟩
   ·exact ⟨none,0,by rw [hv,hn];rfl⟩
   ·exact ⟨_,_,hv⟩
  obtain ⟨b,cap,hv⟩:=this
  exact ⟨.int .i64 LL.length,by simp [Builtin.len_,ht,SV.den,hv,run_underlying hu,goInt],OpOk.pure R hp h rfl⟩
 ·rename_i el k lo n E e L tt hu hk
  simp only [headC,SV.head] at hk
  obtain ⟨hown,_⟩:=hp.holds k _ hk
  rw [Tree.holds_chk] at h
  obtain ⟨hok,h⟩:=h
  simp only [Bool.and_eq_true,decide_eq_true_eq] at hok
  have: ∃b c cap,ρ k= .slice b c cap:=by
   rcases hown.2 with ⟨hv,hn⟩|⟨g,cap,cur,hv,_⟩
   ·exact ⟨none,0,0,hv⟩
   ·exact ⟨_,_,_,hv⟩
  obtain ⟨b,c,cap,hv⟩:=this
  exact ⟨.int .i64 n,by simp [Builtin.len_,ht,SV.den,viewOf,hv,run_underlying hu,goInt];omega,OpOk.pure R hp h rfl⟩
 ·rename_i k1 el k e L hu hk
  simp only [headC,SV.head] at hk
  obtain ⟨b,es,clock,hv,hg,hes,_⟩:=hp.holds k _ hk
  have hlen:es.size=L.length:=by
   have:=congrArg List.length hes
   simpa using this
  exact ⟨.int .i64 L.length,by simp [Builtin.len_,ht,SV.den,hv,run_underlying hu,goInt,getObj,Sem.run,hg,hlen],OpOk.pure R hp h rfl⟩
 ·rename_i el k1 a n c hu
  exact ⟨.int .i64 n,by simp [Builtin.len_,ht,SV.den,run_underlying hu,goInt],OpOk.pure R hp h rfl⟩
 ·rename_i c0 el k1 off n hu
  exact ⟨.int .i64 n,by simp [Builtin.len_,ht,SV.den,run_underlying hu,goInt],OpOk.pure R hp h rfl⟩
 ·rename_i c0 s hu
  exact ⟨.int .i64 s.size,by simp [Builtin.len_,ht,SV.den,run_underlying hu,goInt],OpOk.pure R hp h rfl⟩
 ·exact h.elim
end
end
end Go.Sx