/-
  Part of a proof over the seat YtlfjbnflfdnoaaaGreat: printed by a small program or typed by hand.
-/
import Derived.Test.YtlfjbnflfdnoaaaGreatSxKit
/-
 Sx:a contract over rows that are only read,used where a row is the caller's own,nil,or one and the same twice.
-/
namespace Go.Sx
section
variable {T:Nat->Enc} {O:Nat->Type}
def isNilS:Value->Bool
 | .slice none 0 0=>true
 |_=>false
theorem isNilS_eq {v:Value} (h:isNilS v=true):v= .slice none 0 0:=by
 unfold isNilS at h
 split at h
 ·rfl
 ·cases h
mutual
def SV.occ:SV->Nat->Option (SV×List (Option Nat))
 | .own k,j=>some (.own j,[some k])
 | .raw v,j=>match isNilS v with
  |true=>some (.own j,[none])
  |false=>some (.raw v,[])
 | .agg cs,j=>match occL cs j with
  |some (l,s)=>some (.agg l,s)
  |none=>none
 |_,_=>none
def occL:List SV->Nat->Option (List SV×List (Option Nat))
 |[],_=>some ([],[])
 |v::vs,j=>match v.occ j with
  |some (u,s)=>match occL vs (j+s.length) with
   |some (us,s')=>some (u::us,s++s')
   |none=>none
  |none=>none
end
def toRo:Chunk T O->Option (Chunk T O)
 | .vec e L _=>some (.ro e L)
 | .ro e L=>some (.ro e L)
 | .deep e1 e L _=>some (.dro e1 e L)
 | .dro e1 e L=>some (.dro e1 e L)
 |_=>none
def srcC (e0:Nat) (cs:List (Chunk T O)):List (Option Nat)->Option (List (Chunk T O))
 |[]=>some []
 |none::l=>match srcC e0 cs l with
  |some r=>some (.ro e0 []::r)
  |none=>none
 |some k::l=>match cs[k]?.bind toRo,srcC e0 cs l with
  |some c,some r=>some (c::r)
  |_,_=>none
def srcV (n:Nat) (src:List (Option Nat)) (j:Nat):Option SV:=match decide (j<src.length) with
 |true=>match src[j]? with
  |some (some k)=>some (.own k)
  |some none=>some (.raw (.slice none 0 0))
  |none=>none
 |false=>match decide (j<src.length+stride) with
  |true=>some (.own (n+(j-src.length)))
  |false=>none
mutual
def SV.bk (n:Nat) (src:List (Option Nat)):SV->Option SV
 | .own j=>srcV n src j
 | .raw v=>some (.raw v)
 | .agg cs=>match bkL n src cs with
  |some l=>some (.agg l)
  |none=>none
 | .tup cs=>match bkL n src cs with
  |some l=>some (.tup l)
  |none=>none
 |_=>none
def bkL (n:Nat) (src:List (Option Nat)):List SV->Option (List SV)
 |[]=>some []
 |v::vs=>match v.bk n src,bkL n src vs with
  |some u,some us=>some (u::us)
  |_,_=>none
end
def isVec:Chunk T O->Bool
 | .vec _ _ _=>true
 | .deep _ _ _ _=>true
 |_=>false
def isRow:Chunk T O->Bool
 | .vec _ _ _=>true
 | .ro _ _=>true
 | .deep _ _ _ _=>true
 | .dro _ _ _=>true
 |_=>false
def bkU (n m:Nat) (lent:Bool):List (Nat×Option (Chunk T O))->Option (List (Nat×Option (Chunk T O)))
 |[]=>some []
 |(j,some c)::l=>match decide (m<=j)&&decide (j<m+stride)&&isRow c&&(isVec c|| !lent),bkU n m lent l with
  |true,some r=>some ((n+(j-m),some c)::r)
  |_,_=>none
 |(_,none)::_=>none
def keepU (i:Nat):List (Chunk T O)->List (Nat×Option (Chunk T O))
 |[]=>[]
 |c::l=>match isVec c with
  |true=>(i,some c)::keepU (i+1) l
  |false=>keepU (i+1) l
def bkE (cs:List (Chunk T O)) (src:List (Option Nat)) (e:Eff T O):Option (Eff T O):=match e.val with
 |some v=>match v.bk cs.length src,bkU cs.length src.length (cs.any isVec) e.upd with
  |some u,some l=>some ⟨some u,l++keepU 0 cs⟩
  |_,_=>none
 |none=>none
def relax (e0:Nat) (con:Con T O):Con T O:=fun args cs=>match con args cs with
 | .fail=>match occL args 0 with
  |some (args2,src)=>match srcC e0 cs src,cs.all isRow with
   |some cs2,true=>(con args2 cs2).mapO (bkE cs src)
   |_,_=> .fail
  |none=> .fail
 |t=>t
variable (R:Objs O)
theorem srcC_len {e0:Nat} {cs:List (Chunk T O)}: ∀ {src:List (Option Nat)} {cs2:List (Chunk T O)},srcC e0 cs src=some cs2->cs2.length=src.length
 |[],cs2,h=>by simp [srcC] at h;subst h;rfl
 |none::l,cs2,h=>by
  unfold srcC at h
  split at h
  ·rename_i r hr
   simp only [Option.some.injEq] at h
   subst h
   simp [srcC_len hr]
  ·cases h
 |some k::l,cs2,h=>by
  unfold srcC at h
  split at h
  ·rename_i c r hc hr
   simp only [Option.some.injEq] at h
   subst h
   simp [srcC_len hr]
  ·cases h
theorem srcC_get {e0:Nat} {cs:List (Chunk T O)}: ∀ {src:List (Option Nat)} {cs2:List (Chunk T O)} {j:Nat} {c:Chunk T O},srcC e0 cs src=some cs2->cs2[j]?=some c→
  (src[j]?=some none/\ c= .ro e0 []) \/ ∃k d,src[j]?=some (some k)/\ cs[k]?=some d/\ toRo d=some c
 |[],cs2,j,c,h,hj=>by simp [srcC] at h;subst h;simp at hj
 |none::l,cs2,j,c,h,hj=>by
  unfold srcC at h
  split at h
  ·rename_i r hr
   simp only [Option.some.injEq] at h
   subst h
   cases j with
   |zero=>simp at hj;exact .inl ⟨rfl,hj.symm⟩
   |succ j=>simpa using srcC_get hr (by simpa using hj)
  ·cases h
 |some k::l,cs2,j,c,h,hj=>by
  unfold srcC at h
  split at h
  ·rename_i c0 r hc hr
   simp only [Option.some.injEq] at h
   subst h
   cases j with
   |zero=>
    simp only [List.getElem?_cons_zero,Option.some.injEq] at hj
    subst hj
    cases hk:cs[k]? with
    |none=>rw [hk] at hc;cases hc
    |some d=>rw [hk] at hc;exact .inr ⟨k,d,rfl,hk,hc⟩
   |succ j=>simpa using srcC_get hr (by simpa using hj)
  ·cases h
theorem toRo_row {c d:Chunk T O} (h:toRo c=some d):d.owned=false/\ d.ids=[]:=by
 cases c<;>simp [toRo] at h<;>subst h<;>exact ⟨rfl,rfl⟩
theorem toRo_holds {c d:Chunk T O} (h:toRo c=some d) {ρ ρ':Env} {w:World} {v:Value} {F:Nat->Prop} (hc:c.holds R ρ w v F):d.holds R ρ' w v F:=by
 cases c<;>simp [toRo] at h<;>subst h
 ·exact vec_ro hc.1 hc.2
 ·exact hc
 ·exact Weak.holds R (.inr (.inr ⟨_,_,_,_,rfl,rfl⟩)) hc
 ·exact hc
def srcN (ρ:Env) (src:List (Option Nat)) (n:Nat) (j:Nat):Value:=match src[j]? with
 |some (some k)=>ρ k
 |some none=>nilV
 |none=>ρ (n+(j-src.length))
def srcF (Fs:Nat->Nat->Prop) (src:List (Option Nat)) (n:Nat) (j:Nat):Nat->Prop:=match src[j]? with
 |some (some k)=>Fs k
 |some none=>fun _=>False
 |none=>Fs (n+(j-src.length))
mutual
theorem SV.occ_den {ρ ρ2:Env}: ∀(v:SV) (j:Nat) (u:SV) (s:List (Option Nat)),v.occ j=some (u,s)->(∀i k,s[i]?=some (some k)->ρ2 (j+i)=ρ k)->(∀i,s[i]?=some none->ρ2 (j+i)=nilV)->u.den ρ2=v.den ρ/\ ∀id∈u.ids,id<j+s.length
 | .own k,j,u,s,h,h1,_=>by
  simp only [SV.occ,Option.some.injEq,Prod.mk.injEq] at h
  obtain ⟨rfl,rfl⟩:=h
  have:=h1 0 k rfl
  exact ⟨this,by simp [SV.ids]⟩
 | .raw v,j,u,s,h,_,h2=>by
  simp only [SV.occ] at h
  split at h
  ·rename_i hv
   simp only [Option.some.injEq,Prod.mk.injEq] at h
   obtain ⟨rfl,rfl⟩:=h
   have:=h2 0 rfl
   rw [isNilS_eq hv]
   exact ⟨this,by simp [SV.ids]⟩
  ·simp only [Option.some.injEq,Prod.mk.injEq] at h
   obtain ⟨rfl,rfl⟩:=h
   exact ⟨rfl,by simp [SV.ids]⟩
 | .agg cs,j,u,s,h,h1,h2=>by
  simp only [SV.occ] at h
  split at h
  ·rename_i l s0 hl
   simp only [Option.some.injEq,Prod.mk.injEq] at h
   obtain ⟨rfl,rfl⟩:=h
   have:=occL_den cs j l s0 hl h1 h2
   exact ⟨by simp only [SV.den,this.1],by simpa only [SV.ids] using this.2⟩
  ·cases h
 | .ptr _ _,_,_,_,h,_,_=>by simp [SV.occ] at h
 | .elt _ _ _ _,_,_,_,h,_,_=>by simp [SV.occ] at h
 | .view _ _ _ _,_,_,_,h,_,_=>by simp [SV.occ] at h
 | .tup _,_,_,_,h,_,_=>by simp [SV.occ] at h
 | .iface _ _,_,_,_,h,_,_=>by simp [SV.occ] at h
 | .fn _ _,_,_,_,h,_,_=>by simp [SV.occ] at h
 | .bfn _ _,_,_,_,h,_,_=>by simp [SV.occ] at h
theorem occL_den {ρ ρ2:Env}: ∀(l:List SV) (j:Nat) (u:List SV) (s:List (Option Nat)),occL l j=some (u,s)->(∀i k,s[i]?=some (some k)->ρ2 (j+i)=ρ k)->(∀i,s[i]?=some none->ρ2 (j+i)=nilV)->denL ρ2 u=denL ρ l/\ ∀id∈idsL u,id<j+s.length
 |[],j,u,s,h,_,_=>by
  simp only [occL,Option.some.injEq,Prod.mk.injEq] at h
  obtain ⟨rfl,rfl⟩:=h
  exact ⟨rfl,by simp [idsL]⟩
 |v::vs,j,u,s,h,h1,h2=>by
  unfold occL at h
  split at h
  ·rename_i u0 s0 hv
   split at h
   ·rename_i us s1 hvs
    simp only [Option.some.injEq,Prod.mk.injEq] at h
    obtain ⟨rfl,rfl⟩:=h
    have a:=SV.occ_den v j u0 s0 hv (fun i k hi=>h1 i k (by rw [List.getElem?_append_left (List.getElem?_eq_some_iff.1 hi).1];exact hi)) (fun i hi=>h2 i (by rw [List.getElem?_append_left (List.getElem?_eq_some_iff.1 hi).1];exact hi))
    have b:=occL_den vs (j+s0.length) us s1 hvs (fun i k hi=>by
     have:=h1 (s0.length+i) k (by rw [List.getElem?_append_right (by omega),Nat.add_sub_cancel_left];exact hi)
     rwa [←Nat.add_assoc] at this) (fun i hi=>by
     have:=h2 (s0.length+i) (by rw [List.getElem?_append_right (by omega),Nat.add_sub_cancel_left];exact hi)
     rwa [←Nat.add_assoc] at this)
    refine ⟨by simp only [denL,a.1,b.1],fun id hid=> ?_⟩
    simp only [idsL,List.mem_append] at hid
    rw [List.length_append]
    rcases hid with hid|hid
    ·have:=a.2 id hid;omega
    ·have:=b.2 id hid;omega
   ·cases h
  ·cases h
end
mutual
theorem SV.bk_den {n:Nat} {src:List (Option Nat)} {ρ ρ2:Env} (hb: ∀j u,srcV n src j=some u->u.den ρ=ρ2 j): ∀(v u:SV),v.bk n src=some u->u.den ρ=v.den ρ2
 | .own j,u,h=>by
  simp only [SV.bk] at h
  exact hb j u h
 | .raw v,u,h=>by
  simp only [SV.bk,Option.some.injEq] at h
  subst h
  rfl
 | .agg cs,u,h=>by
  unfold SV.bk at h
  split at h
  ·rename_i l hl
   simp only [Option.some.injEq] at h
   subst h
   simp only [SV.den,bkL_den hb cs l hl]
  ·cases h
 | .tup cs,u,h=>by
  unfold SV.bk at h
  split at h
  ·rename_i l hl
   simp only [Option.some.injEq] at h
   subst h
   simp only [SV.den,bkL_den hb cs l hl]
  ·cases h
 | .ptr _ _,_,h=>by simp [SV.bk] at h
 | .elt _ _ _ _,_,h=>by simp [SV.bk] at h
 | .view _ _ _ _,_,h=>by simp [SV.bk] at h
 | .iface _ _,_,h=>by simp [SV.bk] at h
 | .fn _ _,_,h=>by simp [SV.bk] at h
 | .bfn _ _,_,h=>by simp [SV.bk] at h
theorem bkL_den {n:Nat} {src:List (Option Nat)} {ρ ρ2:Env} (hb: ∀j u,srcV n src j=some u->u.den ρ=ρ2 j): ∀(v u:List SV),bkL n src v=some u->denL ρ u=denL ρ2 v
 |[],u,h=>by simp [bkL] at h;subst h;rfl
 |v::vs,u,h=>by
  unfold bkL at h
  split at h
  ·rename_i a l ha hl
   simp only [Option.some.injEq] at h
   subst h
   simp only [denL,SV.bk_den hb v a ha,bkL_den hb vs l hl]
  ·cases h
end
theorem bkU_keys {n m:Nat} {lent:Bool}: ∀ {u u':List (Nat×Option (Chunk T O))},bkU n m lent u=some u'->(∀k∈u.map (·.1),m<=k/\ k<m+stride)/\ (∀k,k∈u'.map (·.1)↔ ∃j∈u.map (·.1),k=n+(j-m))/\ ∀p∈u,∃c,p.2=some c/\ isRow c=true/\ (lent=true->isVec c=true)
 |[],u',h=>by simp [bkU] at h;subst h;simp
 |(j,none)::l,u',h=>by simp [bkU] at h
 |(j,some c)::l,u',h=>by
  unfold bkU at h
  split at h
  ·rename_i r hc hr
   simp only [Option.some.injEq] at h
   subst h
   simp only [Bool.and_eq_true,decide_eq_true_eq,Bool.or_eq_true,Bool.not_eq_true'] at hc
   obtain ⟨⟨⟨h1,h2⟩,h3⟩,h4⟩:=hc
   obtain ⟨g1,g2,g3⟩:=bkU_keys hr
   refine ⟨?_, ?_, ?_⟩
   ·intro k hk
    simp only [List.map_cons,List.mem_cons] at hk
    rcases hk with rfl|hk
    ·exact ⟨h1,h2⟩
    ·exact g1 k hk
   ·intro k
    simp only [List.map_cons,List.mem_cons,g2]
    constructor
    ·rintro (rfl|⟨i,hi,rfl⟩)
     ·exact ⟨j, .inl rfl,rfl⟩
     ·exact ⟨i, .inr hi,rfl⟩
    ·rintro ⟨i,rfl|hi,rfl⟩
     ·exact .inl rfl
     ·exact .inr ⟨i,hi,rfl⟩
   ·intro p hp
    rcases List.mem_cons.1 hp with rfl|hp
    ·refine ⟨c,rfl,h3,fun hl=> ?_⟩
     rcases h4 with h4|h4
     ·exact h4
     ·rw [hl] at h4;cases h4
    ·exact g3 p hp
  ·cases h
theorem bkU_upd {n m:Nat} {lent:Bool}: ∀ {u u':List (Nat×Option (Chunk T O))},bkU n m lent u=some u'-> ∀ {G H:Nat->Option (Chunk T O)} {j:Nat},m<=j->G j=H (n+(j-m))->updH u G j=updH u' H (n+(j-m))
 |[],u',h,G,H,j,_,hg=>by simp [bkU] at h;subst h;exact hg
 |(i,none)::l,u',h,G,H,j,_,_=>by simp [bkU] at h
 |(i,some c)::l,u',h,G,H,j,hj,hg=>by
  unfold bkU at h
  split at h
  ·rename_i r hc hr
   simp only [Option.some.injEq] at h
   subst h
   simp only [Bool.and_eq_true,decide_eq_true_eq] at hc
   simp only [updH]
   refine bkU_upd hr hj ?_
   by_cases e:j=i
   ·subst e;simp
   ·rw [if_neg e,if_neg (by omega)]
    exact hg
  ·cases h
theorem keepU_mem {cs:List (Chunk T O)}: ∀ {i:Nat} {k:Nat} {c:Option (Chunk T O)},(k,c)∈keepU i cs->i<=k/\ ∃d,cs[k-i]?=some d/\ isVec d=true/\ c=some d:=by
 induction cs with
 |nil=>intro i k c h;simp [keepU] at h
 |cons d l ih=>
  intro i k c h
  unfold keepU at h
  split at h
  ·rename_i hv
   rcases List.mem_cons.1 h with h|h
   ·simp only [Prod.mk.injEq] at h
    obtain ⟨rfl,rfl⟩:=h
    exact ⟨Nat.le_refl _,d,by simp,hv,rfl⟩
   ·obtain ⟨h1,e,h2,h3,h4⟩:=ih h
    refine ⟨by omega,e, ?_,h3,h4⟩
    rw [show k-i=(k-(i+1))+1 by omega]
    simpa using h2
  ·obtain ⟨h1,e,h2,h3,h4⟩:=ih h
   refine ⟨by omega,e, ?_,h3,h4⟩
   rw [show k-i=(k-(i+1))+1 by omega]
   simpa using h2
theorem updH_app: ∀(u v:List (Nat×Option (Chunk T O))) (H:Nat->Option (Chunk T O)),updH (u++v) H=updH v (updH u H)
 |[],_,_=>rfl
 |(k,c)::u,v,H=>by simp only [List.cons_append,updH];exact updH_app u v _
theorem updH_same: ∀(u:List (Nat×Option (Chunk T O))) (H:Nat->Option (Chunk T O)) (j:Nat),(∀p∈u,p.1=j->p.2=H j)->updH u H j=H j
 |[],_,_,_=>rfl
 |(k,c)::u,H,j,h=>by
  simp only [updH]
  have e:(if j=k then c else H j)=H j:=by
   split
   ·rename_i e
    exact h _ (List.mem_cons_self ..) e.symm
   ·rfl
  rw [updH_same u _ j (fun p hp hpj=>(h p (List.mem_cons_of_mem _ hp) hpj).trans e.symm)]
  exact e
theorem row_ids {c:Chunk T O} (h:isRow c=true):c.ids=[]:=by cases c<;>simp [isRow] at h<;>rfl
theorem vec_owned {c:Chunk T O} (h:isRow c=true):c.owned=isVec c:=by cases c<;>simp [isRow] at h<;>rfl
theorem upd_last: ∀ {u:List (Nat×Option (Chunk T O))} {H:Nat->Option (Chunk T O)} {j:Nat} {c:Chunk T O},updH u H j=some c->H j=some c \/(j,some c)∈u
 |[],_,_,_,h=> .inl h
 |(k,d)::u,H,j,c,h=>by
  simp only [updH] at h
  rcases upd_last h with h|h
  ·split at h
   ·rename_i e
    rw [e,h]
    exact .inr (List.mem_cons_self ..)
   ·exact .inl h
  ·exact .inr (List.mem_cons_of_mem _ h)
theorem relax_ok {P:Program} {f:FuncId} {con:Con T O} (e0:Nat) (h:ConOk R P f con):ConOk R P f (relax e0 con):=by
 intro args cs K hK ha hc ρ Fs w hp
 unfold relax at hK
 split at hK
 rotate_left
 ·exact h args cs K hK ha hc ρ Fs w hp
 split at hK
 rotate_left
 ·exact hK.elim
 rename_i args2 src hocc
 split at hK
 rotate_left
 ·exact hK.elim
 rename_i cs2 hsrc hrow
 have hK2:=holds_mapO hK
 have hlen:=srcC_len hsrc
 have rows: ∀k c,cs[k]?=some c->isRow c=true:=fun k c hk=>List.all_eq_true.1 hrow c (List.mem_of_getElem? hk)
 have cs2o: ∀j c,listG cs2 j=some c->c.owned=false:=by
  intro j c hj
  rcases srcC_get hsrc hj with ⟨_,rfl⟩|⟨k,d,_,_,hd⟩
  ·rfl
  ·exact (toRo_row hd).1
 have hsk: ∀(j k:Nat),src[j]?=some (some k)->k<cs.length:=by
  intro j k hj
  have hjl:j<cs2.length:=by rw [hlen];exact (List.getElem?_eq_some_iff.1 hj).1
  rcases srcC_get hsrc (List.getElem?_eq_getElem hjl) with ⟨h1,_⟩|⟨k',d,h1,h2,_⟩
  ·rw [hj] at h1;cases h1
  ·rw [hj] at h1
   cases h1
   exact (List.getElem?_eq_some_iff.1 h2).1
 have hp2:HeapOk R (srcN ρ src cs.length) (listG cs2) (srcF Fs src cs.length) w:=by
  refine ⟨fun j=> ?_,fun j c hj=> ?_,fun j j' c c' hj _ _ ho=> ?_⟩
  ·unfold srcN
   split
   ·exact hp.one _
   ·rfl
   ·exact hp.one _
  ·rcases srcC_get hsrc hj with ⟨h1,rfl⟩|⟨k,d,h1,h2,h3⟩
   ·unfold srcN srcF
    rw [h1]
    exact nilC_holds (c:=(.ro e0 []:Chunk T O)) R rfl _ w
   ·unfold srcN srcF
    rw [h1]
    exact toRo_holds R h3 (hp.holds k d h2)
  ·rw [cs2o j c hj] at ho;cases ho
 have den:=occL_den (ρ:=ρ) (ρ2:=srcN ρ src cs.length) args 0 args2 src hocc (fun i k hi=>by rw [Nat.zero_add];unfold srcN;rw [hi]) (fun i hi=>by rw [Nat.zero_add];unfold srcN;rw [hi])
 obtain ⟨f',he,hcall⟩:=h args2 cs2 _ hK2 (fun id hid=>by have:=den.2 id hid;omega) (fun c hc' id hid=>by
  obtain ⟨j,hj⟩:=List.getElem?_of_mem hc'
  rcases srcC_get hsrc hj with ⟨_,rfl⟩|⟨k,d,_,_,hd⟩
  ·simp [Chunk.ids] at hid
  ·rw [(toRo_row hd).2] at hid;simp at hid) _ _ w hp2
 refine ⟨f',he, ?_⟩
 rw [den.1] at hcall
 refine hcall.mono ?_
 rintro en w' ⟨e2,v,ρ',Fs',⟨e,hbk,hKe⟩,hen,ok⟩
 unfold bkE at hbk
 split at hbk
 rotate_left
 ·cases hbk
 rename_i sv hsv
 split at hbk
 rotate_left
 ·cases hbk
 rename_i u l hu hl
 simp only [Option.some.injEq] at hbk
 subst hbk
 obtain ⟨q1,q2,q3⟩:=bkU_keys hl
 have kin: ∀ {j:Nat},cs.length<=j-> ∀p∈keepU 0 cs,p.1≠j:=by
  rintro j hj ⟨k,c⟩ hm rfl
  obtain ⟨_,d,hd,_,_⟩:=keepU_mem hm
  have:=(List.getElem?_eq_some_iff.1 hd).1
  simp only at hj
  omega
 have H3lt: ∀k,k<cs.length->updH (l++keepU 0 cs) (listG cs) k=cs[k]?:=by
  intro k hk
  rw [updH_app]
  have e1:updH l (listG cs) k=cs[k]?:=updH_notin fun hm=>by
   obtain ⟨j,hj,e⟩:=(q2 k).1 hm
   omega
  rw [updH_same _ _ k (fun p hp hpk=>by
   obtain ⟨k',c'⟩:=p
   simp only at hpk
   subst hpk
   obtain ⟨_,d,hd,_,hcd⟩:=keepU_mem hp
   rw [e1,hcd]
   simpa using hd.symm)]
  exact e1
 have H3ge: ∀k,cs.length<=k->updH (l++keepU 0 cs) (listG cs) k=updH e2.upd (listG cs2) (src.length+(k-cs.length)):=by
  intro k hk
  rw [updH_app,updH_notin (fun hm=>by
   obtain ⟨p,hp,e⟩:=List.mem_map.1 hm
   exact kin hk p hp e)]
  have:=bkU_upd hl (G:=listG cs2) (H:=listG cs) (j:=src.length+(k-cs.length)) (by omega) (by
   show cs2[src.length+(k-cs.length)]?=cs[cs.length+(src.length+(k-cs.length)-src.length)]?
   rw [List.getElem?_eq_none (by omega),List.getElem?_eq_none (by omega)])
  rw [this,show cs.length+(src.length+(k-cs.length)-src.length)=k by omega]
 have newRow: ∀j c,src.length<=j->updH e2.upd (listG cs2) j=some c->isRow c=true/\ (cs.any isVec=true->isVec c=true)/\ j∈e2.upd.map (·.1):=by
  intro j c hj hc'
  rcases upd_last hc' with h1|h1
  ·have:j<cs2.length:=(List.getElem?_eq_some_iff.1 h1).1
   omega
  ·obtain ⟨d,hd,r1,r2⟩:=q3 _ h1
   simp only [Option.some.injEq] at hd
   subst hd
   exact ⟨r1,r2,List.mem_map.2 ⟨_,h1,rfl⟩⟩
 have noM: ∀x,¬ ∃k∈e2.upd.map (·.1),(∃c,listG cs2 k=some c/\ c.owned=true)/\ srcF Fs src cs.length k x:=by
  rintro x ⟨k,_,⟨c,hc1,hc2⟩,_⟩
  rw [cs2o k c hc1] at hc2
  cases hc2
 have blk: ∀x,x<w.heap.size->w'.heap[x]?=w.heap[x]?:=fun x hx=>ok.kept.block x hx (noM x)
 have hks:cs.length<=cs.length+stride:=by omega
 --the numbers back
 let ρ3:Env:=fun j=>if cs.length<=j/\ j<cs.length+stride then ρ' (src.length+(j-cs.length)) else ρ j
 let Fs3:Nat->Nat->Prop:=fun j=>if cs.length<=j/\ j<cs.length+stride then Fs' (src.length+(j-cs.length)) else Fs j
 have r1: ∀j,¬(cs.length<=j/\ j<cs.length+stride)->ρ3 j=ρ j:=fun j hj=>if_neg hj
 have r2: ∀j,cs.length<=j->j<cs.length+stride->ρ3 j=ρ' (src.length+(j-cs.length)):=fun j h1 h2=>if_pos ⟨h1,h2⟩
 have s1: ∀j,¬(cs.length<=j/\ j<cs.length+stride)->Fs3 j=Fs j:=fun j hj=>if_neg hj
 have s2: ∀j,cs.length<=j->j<cs.length+stride->Fs3 j=Fs' (src.length+(j-cs.length)):=fun j h1 h2=>if_pos ⟨h1,h2⟩
 have newLt: ∀j c,src.length<=j->updH e2.upd (listG cs2) j=some c->j<src.length+stride:=fun j c h1 h2=>(q1 j (newRow j c h1 h2).2.2).2
 have anyV: ∀(k:Nat) (c:Chunk T O),cs[k]?=some c->c.owned=true->cs.any isVec=true:=fun k c hk ho=>by
  rw [List.any_eq_true]
  exact ⟨c,List.mem_of_getElem? hk,by rw [←vec_owned (rows k c hk)];exact ho⟩
 have share: ∀(k:Nat) (c:Chunk T O),cs[k]?=some c->c.owned=true-> ∀(j:Nat) (c':Chunk T O),src.length<=j->updH e2.upd (listG cs2) j=some c'-> ∀x,Fs k x-> ¬Fs' j x:=by
  intro k c hk ho j c' hj hc' x hx hx'
  obtain ⟨w1,w2,w3⟩:=newRow j c' hj hc'
  have hv:=w2 (anyV k c hk ho)
  rcases ok.new j w3 c' hc' x hx' with g|g|⟨g,_⟩
  ·have:=HeapOk.lt R hp (k:=k) (c:=c) hk x hx
   omega
  ·obtain ⟨k',_,h2,h3⟩:=g
   obtain ⟨c2,hc2,ho2⟩:=h2
   rw [cs2o k' c2 hc2] at ho2
   cases ho2
  ·rw [vec_owned w1,hv] at g
   cases g
 refine ⟨_,v,ρ3,Fs3,hKe,hen,⟨fun sv' hsv'=> ?_,r1,fun k hk=> ?_,⟨fun k=> ?_,fun k c hk=> ?_,fun k k' c c' hk hk' hne ho x hx=> ?_⟩,ok.kept.mono fun x _ hM=>(noM x hM).elim,fun k hk c hc x hx=> ?_,fun k hk=> ?_⟩⟩
 ·simp only [Option.some.injEq] at hsv'
  subst hsv'
  rw [ok.val sv hsv]
  refine (SV.bk_den (ρ:=ρ3) (ρ2:=ρ') (fun j u0 hu0=> ?_) sv u hu).symm
  unfold srcV at hu0
  split at hu0
  ·rename_i hjl
   have hjl:j<src.length:=of_decide_eq_true hjl
   have ej:ρ' j=srcN ρ src cs.length j:=ok.env j (by rw [hlen];omega)
   rw [ej]
   unfold srcN
   split at hu0
   ·rename_i k hjk
    simp only [Option.some.injEq] at hu0
    subst hu0
    have:=hsk j k hjk
    show ρ3 k=_
    rw [r1 k (by omega)]
   ·rename_i hjk
    simp only [Option.some.injEq] at hu0
    subst hu0
    rfl
   ·cases hu0
  ·rename_i hjl
   have hjl: ¬j<src.length:=of_decide_eq_false hjl
   split at hu0
   ·rename_i hjs
    have hjs:j<src.length+stride:=of_decide_eq_true hjs
    simp only [Option.some.injEq] at hu0
    subst hu0
    show ρ3 (cs.length+(j-src.length))=ρ' j
    rw [r2 _ (by omega) (by omega),show src.length+(cs.length+(j-src.length)-cs.length)=j by omega]
   ·cases hu0
 ·by_cases hn:cs.length<=k/\ k<cs.length+stride
  ·rw [s2 k hn.1 hn.2,ok.fp _ (fun hm=>hk (by
    rw [List.map_append,List.mem_append]
    exact .inl ((q2 k).2 ⟨_,hm,by omega⟩)))]
   unfold srcF
   rw [List.getElem?_eq_none (by omega),show cs.length+(src.length+(k-cs.length)-src.length)=k by omega]
  ·exact s1 k hn
 ·by_cases hn:cs.length<=k/\ k<cs.length+stride
  ·rw [r2 k hn.1 hn.2];exact ok.hp.one _
  ·rw [r1 k hn];exact hp.one _
 ·by_cases hlt:k<cs.length
  ·rw [H3lt k hlt] at hk
   rw [r1 k (by omega),s1 k (by omega)]
   have hh:=hp.holds k c hk
   exact Chunk.holds_congr R (Chunk.holds_stable R hh (fun x hx=>blk x (HeapOk.lt R hp (k:=k) (c:=c) hk x hx)) ok.kept.size) (by rw [row_ids (rows k c hk)];simp)
  ·rw [H3ge k (by omega)] at hk
   have hl2:=newLt _ c (by omega) hk
   rw [r2 k (by omega) (by omega),s2 k (by omega) (by omega)]
   exact Chunk.holds_congr R (ok.hp.holds _ c hk) (by rw [row_ids (newRow _ c (by omega) hk).1];simp)
 ·by_cases hlt:k<cs.length
  ·rw [H3lt k hlt] at hk
   rw [s1 k (by omega)] at hx
   by_cases hlt':k'<cs.length
   ·rw [H3lt k' hlt'] at hk'
    rw [s1 k' (by omega)]
    exact hp.sep k k' c c' hk hk' hne ho x hx
   ·rw [H3ge k' (by omega)] at hk'
    have hl2:=newLt _ c' (by omega) hk'
    rw [s2 k' (by omega) (by omega)]
    exact share k c hk ho _ c' (by omega) hk' x hx
  ·rw [H3ge k (by omega)] at hk
   have hl1:=newLt _ c (by omega) hk
   rw [s2 k (by omega) (by omega)] at hx
   by_cases hlt':k'<cs.length
   ·rw [H3lt k' hlt'] at hk'
    rw [s1 k' (by omega)]
    intro hx'
    obtain ⟨w1,w2,w3⟩:=newRow _ c (by omega) hk
    rcases ok.new _ w3 c hk x hx with g|g|⟨g,_⟩
    ·have:=HeapOk.lt R hp (k:=k') (c:=c') hk' x hx'
     omega
    ·obtain ⟨k2,_,⟨c2,hc2,ho2⟩,_⟩:=g
     rw [cs2o k2 c2 hc2] at ho2
     cases ho2
    ·rw [g] at ho;cases ho
   ·rw [H3ge k' (by omega)] at hk'
    have hl2:=newLt _ c' (by omega) hk'
    rw [s2 k' (by omega) (by omega)]
    exact ok.hp.sep _ _ c c' hk hk' (by omega) ho x hx
 ·rw [List.map_append,List.mem_append] at hk
  rcases hk with hk|hk
  ·obtain ⟨j,hj,rfl⟩:=(q2 k).1 hk
   obtain ⟨j1,j2⟩:=q1 j hj
   rw [H3ge _ (by omega),show src.length+(cs.length+(j-src.length)-cs.length)=j by omega] at hc
   rw [s2 _ (by omega) (by omega),show src.length+(cs.length+(j-src.length)-cs.length)=j by omega] at hx
   rcases ok.new j hj c hc x hx with g|g|⟨g1,k2,c2,g2,g3,g4⟩
   ·exact .inl g
   ·obtain ⟨k2,_,⟨c2,hc2,ho2⟩,_⟩:=g
    rw [cs2o k2 c2 hc2] at ho2
    cases ho2
   ·obtain ⟨w1,w2,w3⟩:=newRow j c j1 hc
    unfold srcF at g4
    rcases srcC_get hsrc g2 with ⟨h1,_⟩|⟨kk,d,h1,h2,h3⟩
    ·rw [h1] at g4;exact g4.elim
    ·rw [h1] at g4
     refine .inr (.inr ⟨g1,kk,d,h2, ?_,g4⟩)
     cases hd:d.owned
     ·rfl
     ·have:=w2 (anyV kk d h2 hd)
      rw [vec_owned w1,this] at g1
      cases g1
  ·obtain ⟨p,hp',rfl⟩:=List.mem_map.1 hk
   obtain ⟨k,c'⟩:=p
   obtain ⟨_,d,hd,hv,_⟩:=keepU_mem hp'
   simp only [Nat.sub_zero] at hd
   have hkl:=(List.getElem?_eq_some_iff.1 hd).1
   rw [s1 k (by omega)] at hx
   refine .inr (.inl ⟨k, ?_,⟨d,hd,by rw [vec_owned (rows k d hd)];exact hv⟩,hx⟩)
   rw [List.map_append,List.mem_append]
   exact .inr hk
 ·rw [List.map_append,List.mem_append] at hk
  rcases hk with hk|hk
  ·obtain ⟨j,hj,rfl⟩:=(q2 k).1 hk
   obtain ⟨j1,j2⟩:=q1 j hj
   exact .inr ⟨by omega,by omega⟩
  ·obtain ⟨p,hp',rfl⟩:=List.mem_map.1 hk
   obtain ⟨k,c'⟩:=p
   obtain ⟨_,d,hd,hv,_⟩:=keepU_mem hp'
   simp only [Nat.sub_zero] at hd
   exact .inl ⟨d,hd,by rw [vec_owned (rows k d hd)];exact hv⟩
end
end Go.Sx