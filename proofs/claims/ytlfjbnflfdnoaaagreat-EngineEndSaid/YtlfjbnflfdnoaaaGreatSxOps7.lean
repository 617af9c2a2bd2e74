/-
  Part of a proof over the seat YtlfjbnflfdnoaaaGreat: printed by a small program or typed by hand.
-/
import Derived.Test.YtlfjbnflfdnoaaaGreatSxOps6
import Derived.Laws.CopyRow
import Derived.Laws.IdiomCopy
/-
 Sx:copy,of elements of one cell.
-/
namespace Go.Sx
section
variable {T:Nat->Enc} {O:Nat->Type} (R:Objs O)
section
variable {ρ:Env} {H:Nat->Option (Chunk T O)} {Fs:Nat->Nat->Prop} {w w':World} {fresh:Nat} {K:Eff T O->Prop} (X:Ctx T O)
theorem spanOk_elim {lo m:Int} {n:Nat} (h:spanOk lo m n=true):0<=lo/\ 0<=m/\ lo+m<=n:=by
 unfold spanOk at h
 simp only [Bool.and_eq_true,decide_eq_true_eq] at h
 exact ⟨h.1.1,h.1.2,h.2⟩
theorem cpyS_src {e:Nat} {x:SV} {L:List (T e).α} {lo m:Int} (hn1:(T e).n=1) (h:cpyS e x (headC H x)=some (L,lo,m)) (hp:HeapOk R ρ H Fs w) (hs:spanOk lo m L.length=true):
  ∃a cap,x.den ρ= .slice a m.toNat cap/\ (0<m-> ∃b,a=some b/\ ∀j u,((valsL (T e) L).drop lo.toNat)[j]?=some u->w.cell? (b.add j)=some u):=by
 obtain ⟨s1,s2,s3⟩:=spanOk_elim hs
 unfold cpyS at h
 split at h
 ·rename_i k e' L' el' hk
  simp only [headC,SV.head] at hk
  obtain ⟨hown,hF⟩:=hp.holds k _ hk
  split at h
  ·rename_i he _
   subst he
   simp only [castE,Option.some.injEq,Prod.mk.injEq] at h
   obtain ⟨rfl,rfl,rfl⟩:=h
   rcases vec_ro hown hF with ⟨⟨o,hv⟩,hn,_⟩|⟨a,cap,hv,_,_,_,hcell,_⟩
   ·subst hn
    exact ⟨o,0,by simpa [SV.den] using hv,fun hm=>by simp at hm⟩
   ·exact ⟨some a,cap,by simpa [SV.den] using hv,fun _=>⟨a,rfl,fun j u hj=>hcell j u (by simpa using hj)⟩⟩
  ·cases h
 ·rename_i k e' L' hk
  simp only [headC,SV.head] at hk
  have hro:=hp.holds k _ hk
  split at h
  ·rename_i he _
   subst he
   simp only [castE,Option.some.injEq,Prod.mk.injEq] at h
   obtain ⟨rfl,rfl,rfl⟩:=h
   rcases hro with ⟨⟨o,hv⟩,hn,_⟩|⟨a,cap,hv,_,_,_,hcell,_⟩
   ·subst hn
    exact ⟨o,0,by simpa [SV.den] using hv,fun hm=>by simp at hm⟩
   ·exact ⟨some a,cap,by simpa [SV.den] using hv,fun _=>⟨a,rfl,fun j u hj=>hcell j u (by simpa using hj)⟩⟩
  ·cases h
 ·rename_i k lo0 m0 E e' L' el' hk
  simp only [headC,SV.head] at hk
  obtain ⟨hown,hF⟩:=hp.holds k _ hk
  split at h
  ·rename_i he _
   subst he
   split at h
   ·rename_i hE
    subst hE
    simp only [castE,Option.some.injEq,Prod.mk.injEq] at h
    obtain ⟨rfl,rfl,rfl⟩:=h
    rcases hown.2 with ⟨hv,hn⟩|⟨g,cap,cur,hv,hb,hg,hlc,hcap,hcs,htake⟩
    ·have hl:L'.length=0:=hn
     refine ⟨none,0-lo0.toNat, ?_,fun hm=>by omega⟩
     simp only [SV.den,viewOf,hv]
     split<;>rfl
    ·by_cases hm:0<m0
     ·have hne:cap≠lo0.toNat:=by omega
      refine ⟨some (Addr.add ⟨g,0,none⟩ (lo0.toNat*1)),cap-lo0.toNat, ?_,fun _=>⟨_,rfl,fun j u hj=> ?_⟩⟩
      ·simp only [SV.den,viewOf,hv,hne,if_false,Option.map_some]
      ·have hc:=hown.cells (g:=g) (by rw [hv];rfl) (lo0.toNat+j) u (by rw [List.getElem?_drop] at hj;exact hj)
       rw [Nat.mul_one,Addr.add_lit,Addr.add_lit,Nat.zero_add]
       rw [Addr.add_lit,Nat.zero_add] at hc
       exact hc
     ·refine ⟨(if cap=lo0.toNat then some ⟨g,0,none⟩ else (some (⟨g,0,none⟩:Addr)).map (·.add (lo0.toNat*1))),cap-lo0.toNat, ?_,fun h=>absurd h hm⟩
      simp only [SV.den,viewOf,hv]
   ·cases h
  ·cases h
 ·cases h
theorem cpyN_nat {a b:Int} (ha:0<=a) (hb:0<=b):(cpyN a b).toNat=Nat.min a.toNat b.toNat/\ 0<=cpyN a b/\ cpyN a b<=a/\ cpyN a b<=b:=by
 unfold cpyN
 show _=min _ _/\ _
 split<;>omega
theorem copy_ok {t ty:TypeId} {d s:SV} (h:(copyT X t d s (headC H d) (headC H s):Tree (Eff T O)).holds K) (hp:HeapOk R ρ H Fs w):
  ∃v w',(Builtin.copy_ #[t,t] ty #[d.den ρ,s.den ρ]).run X.P w= .ok v w'/\ OpOk R ρ H Fs w fresh K v w':=by
 unfold copyT at h
 split at h
 ·rename_i el hu
  split at h
  ·rename_i e L el' hsz hcd
   split at h
   ·rename_i hn1
    split at h
    ·rename_i k lo m L' lo' m' hD hS
     rw [Tree.holds_chk] at h
     obtain ⟨hok,h⟩:=h
     simp only [Bool.and_eq_true] at hok
     obtain ⟨s1,s2,s3⟩:=spanOk_elim hok.1
     obtain ⟨q1,q2,q3⟩:=spanOk_elim hok.2
     obtain ⟨sa,scap,hsv,hsc⟩:=cpyS_src R hn1 hS hp hok.2
     obtain ⟨c1,c2,c3,c4⟩:=cpyN_nat q2 s2
     have hsz':(X.P.info? el).map (·.size)=some 1:=hsz
     have hk:H k=some (.vec e L el'):=by
      unfold cpyD at hD
      split at hD
      ·simp only [Option.some.injEq,Prod.mk.injEq] at hD
       obtain ⟨rfl,_⟩:=hD
       simpa [headC,SV.head] using hcd
      ·split at hD
       ·simp only [Option.some.injEq,Prod.mk.injEq] at hD
        obtain ⟨rfl,_⟩:=hD
        simpa [headC,SV.head] using hcd
       ·cases hD
      ·cases hD
     obtain ⟨hown,hF⟩:=hp.holds k _ hk
     --where it goes
     have hdst: ∃p cap',d.den ρ= .slice p m.toNat cap'/\ (0<m-> ∃g cap cur,ρ k= .slice (some ⟨g,0,none⟩) L.length cap/\ p=some ⟨g,lo.toNat,none⟩/\ w.heap[g]?=some (.cells cur el' (0,0))/\ L.length<=cap/\ cap<=maxLen/\ cur.size=cap*(T e).n/\ cur.toList.take (L.length*(T e).n)=valsL (T e) L):=by
      unfold cpyD at hD
      split at hD
      ·rename_i k0
       simp only [Option.some.injEq,Prod.mk.injEq] at hD
       obtain ⟨rfl,rfl,rfl⟩:=hD
       rcases hown.2 with ⟨hv,hn⟩|⟨g,cap,cur,hv,hb,hg,hlc,hcap,hcs,htake⟩
       ·exact ⟨none,0,by simp only [SV.den,hv];congr 1;omega,fun hm=>by omega⟩
       ·exact ⟨some ⟨g,0,none⟩,cap,by simp only [SV.den,hv];rfl,fun _=>⟨g,cap,cur,hv,rfl,hg,hlc,hcap,hcs,htake⟩⟩
      ·rename_i k0 lo0 m0 E
       split at hD
       ·rename_i hE
        subst hE
        simp only [Option.some.injEq,Prod.mk.injEq] at hD
        obtain ⟨rfl,rfl,rfl⟩:=hD
        rcases hown.2 with ⟨hv,hn⟩|⟨g,cap,cur,hv,hb,hg,hlc,hcap,hcs,htake⟩
        ·refine ⟨none,0-lo0.toNat, ?_,fun hm=>by omega⟩
         simp only [SV.den,viewOf,hv]
         split<;>rfl
        ·refine ⟨(if cap=lo0.toNat then some ⟨g,0,none⟩ else (some (⟨g,0,none⟩:Addr)).map (·.add (lo0.toNat*1))),cap-lo0.toNat,by simp only [SV.den,viewOf,hv],fun hm=>⟨g,cap,cur,hv, ?_,hg,hlc,hcap,hcs,htake⟩⟩
         rw [if_neg (by omega)]
         simp [Addr.add_lit]
       ·cases hD
      ·cases hD
     obtain ⟨p,cap',hdv,hdc⟩:=hdst
     rw [hdv,hsv]
     by_cases hz:cpyN m' m=0
     ·have hmin:Nat.min m'.toNat m.toNat=0:=by rw [←c1,hz];rfl
      refine ⟨_,w,run_copy_none (P:=X.P) w t t ty el p sa m.toNat cap' m'.toNat scap hu hsz' hmin,_,ρ,Fs,h, ?_⟩
      refine EffOk.change R hp fresh hk rfl (Kept.refl _ w) ?_ _ _ (fun s hs=>by cases hs;rw [hz];rfl)
      have e:layL L lo.toNat ((L'.drop lo'.toNat).take (cpyN m' m).toNat)=L:=by
       rw [hz];simp [layL]
      rw [e]
      exact ⟨hown,hF⟩
     ·have hm0:0<m:=by omega
      have hm0':0<m':=by omega
      obtain ⟨g,cap,cur,hv,rfl,hg,hlc,hcap,hcs,htake⟩:=hdc hm0
      obtain ⟨b,rfl,hcell⟩:=hsc hm0'
      clear hdc hsc
      have hvL: ∀l:List (T e).α,(valsL (T e) l).length=l.length:=fun l=>by rw [valsL_len,hn1,Nat.mul_one]
      have hval:valsL (T e) ((L'.drop lo'.toNat).take (cpyN m' m).toNat)=((valsL (T e) L').drop lo'.toNat).take (cpyN m' m).toNat:=by
       rw [valsL_take,valsL_drop,hn1,Nat.mul_one,Nat.mul_one]
      have hlen:(valsL (T e) ((L'.drop lo'.toNat).take (cpyN m' m).toNat)).length=(cpyN m' m).toNat:=by
       rw [hvL,List.length_take,List.length_drop];omega
      rw [hn1,Nat.mul_one] at hcs htake
      have hrun:=run_copy_row (P:=X.P) w t t ty el g lo.toNat m.toNat cap' b m'.toNat scap cur el' (valsL (T e) ((L'.drop lo'.toNat).take (cpyN m' m).toNat)) hu hsz' hg (by rw [hlen,c1])
       (fun j u hj=>hcell j u (by
        rw [hval,List.getElem?_take] at hj
        split at hj
        ·exact hj
        ·cases hj)) (by rw [hlen];omega) (valsL_cell _ _)
      refine ⟨_,_,hrun,_,ρ,Fs,h, ?_⟩
      refine EffOk.change R hp fresh hk rfl (kept_setRow w g _ ((hF g).2 (by rw [hv];rfl))) ?_ _ _ (fun s hs=>by
       cases hs
       rw [hlen]
       simp only [SV.den,goInt]
       congr 1
       omega)
      have hll:(layL L lo.toNat ((L'.drop lo'.toNat).take (cpyN m' m).toNat)).length=L.length:=by
       unfold layL
       simp only [List.length_append,List.length_take,List.length_drop]
       omega
      refine ⟨⟨by rw [valsL_len], .inr ⟨g,cap,_, ?_,Nat.zero_le _,setRow_heap w g _ _ el' (0,0) hg, ?_,hcap, ?_, ?_⟩⟩,hF⟩
      ·rw [hv,hll]
      ·rw [hll];exact hlc
      ·rw [hn1,Nat.mul_one]
       simp only [List.size_toArray,List.length_append,List.length_take,List.length_drop,Array.length_toList,hlen]
       omega
      ·have hvl:(valsL (T e) L).length=L.length:=hvL L
       rw [hll,hn1,Nat.mul_one]
       have e2:valsL (T e) (layL L lo.toNat ((L'.drop lo'.toNat).take (cpyN m' m).toNat))=(valsL (T e) L).take lo.toNat++valsL (T e) ((L'.drop lo'.toNat).take (cpyN m' m).toNat)++(valsL (T e) L).drop (lo.toNat+(valsL (T e) ((L'.drop lo'.toNat).take (cpyN m' m).toNat)).length):=by
        have happ: ∀a b:List (T e).α,valsL (T e) (a++b)=valsL (T e) a++valsL (T e) b:=fun a b=>by unfold valsL;rw [List.flatMap_append]
        unfold layL
        rw [happ,happ,valsL_take (T e) L,valsL_drop (T e) L,hn1,Nat.mul_one,Nat.mul_one,hvL]
       rw [e2,←htake]
       exact seg_take cur.toList _ lo.toNat L.length (by rw [hlen];omega) (by simp;omega)
    ·exact h.elim
   ·exact h.elim
  ·exact h.elim
 ·exact h.elim
end
end
end Go.Sx