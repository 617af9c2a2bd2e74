/-
  Part of a proof over the seat YtlfjbnflfdnoaaaGreat: printed by a small program or typed by hand.
-/
import Derived.Test.YtlfjbnflfdnoaaaGreatSxOps3
import Derived.Laws.OwnMore
/-
 Sx:operations on slices:cut,added to,built,made.
-/
namespace Go.Sx
section
variable {T:Nat->Enc} {O:Nat->Type} (R:Objs O)
section
variable {ρ:Env} {H:Nat->Option (Chunk T O)} {Fs:Nat->Nat->Prop} {w w':World} {fresh:Nat} {K:Eff T O->Prop} (X:Ctx T O)
def IntIs:Option Value->Option Int->Prop
 |none,none=>True
 |some (.int _ n),some m=>n=m
 |_,_=>False
theorem size_of {el:TypeId} {E:Nat} (hs:sizeT0 X el=some E) (w:World):(sizeOf el).run X.P w= .ok E w:=by
 unfold sizeT0 at hs
 cases hi:X.P.info? el with
 |none=>simp [hi] at hs
 |some ie=>simp [sizeOf,typeInfo,hi];simpa [hi] using hs
def lowN (lo:Option Int):Nat:=(optB lo 0).toNat
def highN (hi:Option Int) (n:Nat):Nat:=(optB hi n).toNat
theorem run_sliceAt2 {t el:TypeId} {E:Nat} (hu:X.P.underlying t=some (.slice el)) (hs:sizeT0 X el=some E) (a:Option Addr) (len cap:Nat) (hlc:len<=cap) {lo hi mx:Option Int} {vlo vhi vmx:Option Value}
  (h1:IntIs vlo lo) (h2:IntIs vhi hi) (h3:IntIs vmx mx) (hok:slOk lo hi mx len=true):
  ∃m,m<=cap/\ (mx=none->m=cap)/\ (∀q,mx=some q->m=q.toNat)/\ highN hi len<=m/\ (Instr.sliceAt t (.slice a len cap) vlo vhi vmx).run X.P w= .ok (.slice (if m=lowN lo then a else a.map (·.add (lowN lo*E))) (highN hi len-lowN lo) (m-lowN lo)) w:=by
 unfold slOk at hok
 simp only [Bool.and_eq_true,decide_eq_true_eq] at hok
 obtain ⟨⟨⟨b1,b2⟩,b3⟩,b4⟩:=hok
 have hb: ∀(k:IntKind) (n:Int) (y:Nat) (c:BoundsCode),0<=n->n<=y->(Instr.sliceBound (.int k n) y c).run X.P w= .ok n.toNat w:=by
  intro k n y c g1 g2
  simp [Instr.sliceBound,asIntOf,g1,g2]
 have hz:=size_of X hs w
 have key: ∃m,m<=cap/\ (mx=none->m=cap)/\ (∀q,mx=some q->m=q.toNat)/\ highN hi len<=m/\ (Instr.sliceBounds true len cap vlo vhi vmx).run X.P w= .ok (lowN lo,highN hi len,m) w:=by
  cases vmx with
  |none=>
   cases mx with
   |some _=>exact h3.elim
   |none=>
    refine ⟨cap,Nat.le_refl _,fun _=>rfl,fun q h=>(by cases h),by unfold highN;cases hi<;>simp [optB] at* <;>omega, ?_⟩
    cases vhi with
    |none=>
     cases hi with
     |some _=>exact h2.elim
     |none=>
      cases vlo with
      |none=>
       cases lo with
       |some _=>exact h1.elim
       |none=>simp [Instr.sliceBounds,lowN,highN,optB]
      |some vl=>
       cases vl<;>cases lo<;>try exact h1.elim
       rename_i k n m
       obtain rfl:n=m:=h1
       simp only [optB] at b1 b2 b3
       simp [Instr.sliceBounds,hb k n len _ b1 b2,lowN,highN,optB]
    |some vh=>
     cases vh<;>cases hi<;>try exact h2.elim
     rename_i k n m
     obtain rfl:n=m:=h2
     simp only [optB] at b1 b2 b3
     have g1:0<=n:=by cases lo<;>simp only at b1 b2<;>omega
     cases vlo with
     |none=>
      cases lo with
      |some _=>exact h1.elim
      |none=>simp [Instr.sliceBounds,hb k n cap _ g1 (by omega),lowN,highN,optB]
     |some vl=>
      cases vl<;>cases lo<;>try exact h1.elim
      rename_i k' n' m'
      obtain rfl:n'=m':=h1
      simp only at b1 b2
      simp [Instr.sliceBounds,hb k n cap _ g1 (by omega),hb k' n' n.toNat _ b1 (by omega),lowN,highN,optB]
  |some vm=>
   cases vm<;>cases mx<;>try exact h3.elim
   rename_i km m m'
   obtain rfl:m=m':=h3
   simp only [Bool.and_eq_true,beq_iff_eq] at b4
   have hhi:=b4.1
   replace b4:=b4.2
   cases vhi with
   |none=>
    cases hi with
    |some _=>exact h2.elim
    |none=>cases hhi
   |some vh=>
    cases vh<;>cases hi<;>try exact h2.elim
    rename_i k n n'
    obtain rfl:n=n':=h2
    simp only [optB] at b1 b2 b3 b4
    subst b4
    have g1:0<=m:=by cases lo<;>simp only at b1 b2<;>omega
    refine ⟨m.toNat,by omega,fun h=>(by cases h),fun q h=>(by simp only [Option.some.injEq] at h;rw [h]),by simp [highN,optB], ?_⟩
    cases vlo with
    |none=>
     cases lo with
     |some _=>exact h1.elim
     |none=>simp [Instr.sliceBounds,hb km m cap _ g1 (by omega),hb k m m.toNat _ g1 (by omega),lowN,highN,optB]
    |some vl=>
     cases vl<;>cases lo<;>try exact h1.elim
     rename_i k' l l'
     obtain rfl:l=l':=h1
     simp only at b1 b2
     simp [Instr.sliceBounds,hb km m cap _ g1 (by omega),hb k m m.toNat _ g1 (by omega),hb k' l m.toNat _ b1 (by omega),lowN,highN,optB]
 obtain ⟨m,hm0,hm3,hm4,hm1,hm2⟩:=key
 refine ⟨m,hm0,hm3,hm4,hm1, ?_⟩
 simp [Instr.sliceAt,Instr.slice,run_underlying hu,hm2,hz]
theorem run_sliceAt {t el:TypeId} {E:Nat} (hu:X.P.underlying t=some (.slice el)) (hs:sizeT0 X el=some E) (a:Option Addr) (len cap:Nat) (hlc:len<=cap) {lo hi mx:Option Int} {vlo vhi vmx:Option Value}
  (h1:IntIs vlo lo) (h2:IntIs vhi hi) (h3:IntIs vmx mx) (hok:slOk lo hi mx len=true):
  ∃m,m<=cap/\ (mx=none->m=cap)/\ highN hi len<=m/\ (Instr.sliceAt t (.slice a len cap) vlo vhi vmx).run X.P w= .ok (.slice (if m=lowN lo then a else a.map (·.add (lowN lo*E))) (highN hi len-lowN lo) (m-lowN lo)) w:=by
 obtain ⟨m,h4,h5,_,h6,h7⟩:=run_sliceAt2 (w:=w) X hu hs a len cap hlc h1 h2 h3 hok
 exact ⟨m,h4,h5,h6,h7⟩
theorem valsL_take (E:Enc): ∀(L:List E.α) (n:Nat),valsL E (L.take n)=(valsL E L).take (n*E.n)
 |[],n=>by simp [valsL]
 |a::L,0=>by simp [valsL]
 |a::L,n+1=>by
  have e1:(E.vals a).take (n*E.n+E.n)=E.vals a:=List.take_of_length_le (by rw [vals_len];omega)
  rw [List.take_succ_cons,valsL_cons,valsL_cons,valsL_take E L n,List.take_append,vals_len,Nat.add_mul,Nat.one_mul,Nat.add_sub_cancel,e1]
theorem valsL_drop (E:Enc): ∀(L:List E.α) (n:Nat),valsL E (L.drop n)=(valsL E L).drop (n*E.n)
 |[],n=>by simp [valsL]
 |a::L,0=>by simp
 |a::L,n+1=>by
  have e1:(E.vals a).drop (n*E.n+E.n)=[]:=List.drop_of_length_le (by rw [vals_len];omega)
  rw [List.drop_succ_cons,valsL_cons,valsL_drop E L n,List.drop_append,vals_len,Nat.add_mul,Nat.one_mul,Nat.add_sub_cancel,e1,List.nil_append]
theorem cut_len {α:Type} {L:List α} {lo hi mx:Option Int} (h:slOk lo hi mx L.length=true):(cutL lo hi L).length=highN hi L.length-lowN lo/\ lowN lo<=highN hi L.length/\ highN hi L.length<=L.length:=by
 unfold slOk at h
 simp only [Bool.and_eq_true,decide_eq_true_eq] at h
 obtain ⟨⟨⟨b1,b2⟩,b3⟩,_⟩:=h
 unfold cutL highN lowN
 cases hi with
 |none=>simp only [optB,List.length_drop] at*;omega
 |some n=>
  simp only [optB,List.length_drop,List.length_take] at*
  omega
theorem cut_vals {E:Enc} {L:List E.α} {lo hi:Option Int} {j:Nat} {u:Value} (h:(valsL E (cutL lo hi L))[j]?=some u):(valsL E L)[lowN lo*E.n+j]?=some u:=by
 unfold cutL at h
 rw [valsL_drop,List.getElem?_drop] at h
 unfold lowN
 cases hi with
 |none=>exact h
 |some n=>
  simp only [valsL_take] at h
  rw [List.getElem?_take] at h
  split at h
  ·exact h
  ·cases h
theorem vec_ro {E:Enc} {el:TypeId} {v:Value} {L:List E.α} {F:Nat->Prop} (h:w.ownsRow 0 el E.n v L.length (valsL E L)) (hF: ∀x,F x↔v.ownBlock=some x):roHolds E w v L F:=by
 have h':=h
 rcases h.2 with ⟨hv,hn⟩|⟨g,cap,cur,hv,_,hg,hlc,_⟩
 ·exact .inl ⟨⟨_,hv⟩,List.eq_nil_of_length_eq_zero hn,fun x hx=>by rw [hF,hv] at hx;cases hx⟩
 ·refine .inr ⟨⟨g,0,none⟩,cap,hv,hlc,rfl,(Array.getElem?_eq_some_iff.1 hg).1,fun j u hj=> ?_,fun x=>by rw [hF,hv];simp [Value.ownBlock,eq_comm]⟩
  exact h'.cells (g:=g) (by rw [hv];rfl) j u hj
theorem ro_cut {t el:TypeId} (hu:X.P.underlying t=some (.slice el)) {e:Nat} (hs:sizeT0 X el=some (T e).n) {v:Value} {L:List (T e).α} {F:Nat->Prop} (hro:roHolds (T e) w v L F) {lo hi mx:Option Int} {vlo vhi vmx:Option Value}
  (h1:IntIs vlo lo) (h2:IntIs vhi hi) (h3:IntIs vmx mx) (hok:slOk lo hi mx L.length=true):
  ∃u F',(Instr.sliceAt t v vlo vhi vmx).run X.P w= .ok u w/\ u.oneCell'=true/\ roHolds (T e) w u (cutL lo hi L) F'/\ ∀x,F' x->F x:=by
 obtain ⟨c1,c2,c3⟩:=cut_len hok
 rcases hro with ⟨⟨o,hv⟩,hn,hF⟩|⟨a,cap,hv,hlc,hsp,hb,hcell,hF⟩
 ·subst hn
  obtain ⟨m,m1,_,m2,hrun⟩:=run_sliceAt (w:=w) X hu hs o 0 0 (Nat.le_refl _) h1 h2 h3 hok
  simp only [List.length_nil] at c1 c2 c3
  have hm0:m=0:=by omega
  have hl0:lowN lo=0:=by omega
  have hh0:highN hi 0=0:=by omega
  refine ⟨_,fun _=>False,by rw [hv];exact hrun,rfl, .inl ⟨⟨_,by simp [hm0,hl0,hh0];rfl⟩,List.eq_nil_of_length_eq_zero (by omega),fun _ h=>h⟩,fun _ h=>h.elim⟩
 ·obtain ⟨m,m1,_,m2,hrun⟩:=run_sliceAt (w:=w) X hu hs (some a) L.length cap hlc h1 h2 h3 hok
  obtain ⟨ab,ao,as⟩:=a
  simp only at hsp
  subst hsp
  refine ⟨_,F,by rw [hv];exact hrun,rfl, .inr ⟨if m=lowN lo then ⟨ab,ao,none⟩ else (⟨ab,ao,none⟩:Addr).add (lowN lo*(T e).n),m-lowN lo, ?_,by omega, ?_, ?_,fun j u hj=> ?_,fun x=> ?_⟩,fun _ h=>h⟩
  ·rw [c1]
   congr 1
   split<;>rfl
  ·split<;>simp [Addr.add_lit]
  ·split<;>simpa [Addr.add_lit] using hb
  ·have hlt:j<(cutL lo hi L).length*(T e).n:=by
    have:=(List.getElem?_eq_some_iff.1 hj).1
    rwa [valsL_len] at this
   split
   ·rename_i hml
    have:(cutL lo hi L).length=0:=by omega
    rw [this] at hlt;omega
   ·rw [addr_add]
    exact hcell _ u (cut_vals hj)
  ·rw [hF]
   split<;>simp [Addr.add_lit]
theorem slice_ok {t:TypeId} {x:SV} {lo hi mx:Option Int} (h:(sliceT X fresh t x (headC H x) lo hi mx:Tree (Eff T O)).holds K) (hp:HeapOk R ρ H Fs w) (hf:Free H fresh) {vlo vhi vmx:Option Value}
  (h1:IntIs vlo lo) (h2:IntIs vhi hi) (h3:IntIs vmx mx):
  ∃v,(Instr.sliceAt t (x.den ρ) vlo vhi vmx).run X.P w= .ok v w/\ OpOk R ρ H Fs w fresh K v w:=by
 have f0:H fresh=none/\ ∀k c,H k=some c->k≠fresh/\ ∀id∈c.ids,id≠fresh:=by simpa using hf.at (i:=0) (by unfold stride;omega)
 unfold sliceT at h
 split at h
 ·rename_i el hu
  split at h
  ·cases hE:sizeT0 X el with
   |none=>rw [hE] at h;exact False.elim h
   |some E=>
    rw [hE] at h
    simp only [Option.isSome_some,if_true] at h
    rw [Tree.holds_chk] at h
    obtain ⟨hok,h⟩:=h
    obtain ⟨m,m1,_,m2,hrun⟩:=run_sliceAt (w:=w) X hu hE none 0 0 (Nat.le_refl _) h1 h2 h3 hok
    obtain ⟨c1,c2,c3⟩:=cut_len (L:=([]:List Nat)) hok
    simp only [List.length_nil] at c1 c2 c3
    have hm0:m=0:=by omega
    have hl0:lowN lo=0:=by omega
    have hh0:highN hi 0=0:=by omega
    refine ⟨_,hrun,OpOk.pure R hp h ?_⟩
    simp [hm0,hl0,hh0,SV.den]
  ·rename_i k e L hk
   simp only [headC,SV.head] at hk
   split at h
   ·rename_i hs
    rw [Tree.holds_chk] at h
    obtain ⟨hok,h⟩:=h
    obtain ⟨u,F',hrun,hone,hro,hsub⟩:=ro_cut (w:=w) X hu hs (hp.holds k _ hk) h1 h2 h3 hok
    refine ⟨u,hrun,_,_,_,h,EffOk.shared R hp hf hk rfl (.ro e (cutL lo hi L)) rfl u u F' _ hone hro hsub ?_⟩
    intro s hs'
    simp only [Option.some.injEq] at hs'
    subst hs'
    simp [SV.den,setF_same]
   ·exact h.elim
  ·rename_i k e L el' hk
   simp only [headC,SV.head] at hk
   split at h
   ·rename_i hs
    obtain ⟨hown,hF⟩:=hp.holds k _ hk
    split at h
    ·rw [Tree.holds_chk] at h
     obtain ⟨hok,h⟩:=h
     obtain ⟨u,F',hrun,hone,hro,hsub⟩:=ro_cut (w:=w) X hu hs (vec_ro hown hF) h1 h2 h3 hok
     refine ⟨u,hrun,_,_,_,h,EffOk.froze R hp hf hk rfl (.ro e L) (.ro e (cutL lo hi L)) rfl rfl u u F' _ hone (vec_ro hown hF) hro hsub ?_⟩
     intro s hs'
     simp only [Option.some.injEq] at hs'
     subst hs'
     simp [SV.den,setF_same]
    ·split at h
     ·split at h
      ·rw [Tree.holds_chk] at h
       obtain ⟨hok,h⟩:=h
       have hnl:((L.length:Int)-optB lo 0).toNat=highN none L.length-lowN lo:=by
        have h0:0<=optB lo 0:=by
         unfold slOk at hok
         simp only [Bool.and_eq_true,decide_eq_true_eq] at hok
         exact hok.1.1.1
        unfold lowN highN
        generalize optB lo 0=z at h0 ⊢
        simp only [optB]
        omega
       rcases hown.2 with ⟨hv,hn⟩|⟨g,cap,cur,hv,hb0,hg,hlc,_⟩
       ·obtain ⟨m,m1,m4,m2,hrun⟩:=run_sliceAt (w:=w) X hu hs none 0 0 (Nat.le_refl _) h1 h2 h3 (by rw [hn] at hok;exact hok)
        have hm:m=0:=m4 rfl
        subst hm
        refine ⟨_,by simp only [SV.den,hv];exact hrun,OpOk.pure R hp h ?_⟩
        simp only [SV.den,viewOf,hv]
        rw [hnl,hn]
        rfl
       ·obtain ⟨m,m1,m4,m2,hrun⟩:=run_sliceAt (w:=w) X hu hs (some ⟨g,0,none⟩) L.length cap hlc h1 h2 h3 hok
        have hm:m=cap:=m4 rfl
        subst hm
        refine ⟨_,by simp only [SV.den,hv];exact hrun,OpOk.pure R hp h ?_⟩
        simp only [SV.den,viewOf,hv]
        rw [hnl]
        rfl
      ·rename_i hi' _
       split at h
       ·rw [Tree.holds_chk] at h
        obtain ⟨hok,h⟩:=h
        rcases hown.2 with ⟨hv,hn⟩|⟨g,cap,cur,hv,hb0,hg,hlc,_⟩
        ·obtain ⟨m,m1,m4,m2,hrun⟩:=run_sliceAt (w:=w) X hu hs none 0 0 (Nat.le_refl _) h1 h2 h3 (by rw [hn] at hok;exact hok)
         have hm:m=0:=m4 rfl
         subst hm
         refine ⟨_,by simp only [SV.den,hv];exact hrun,OpOk.pure R hp h ?_⟩
         simp only [SV.den,viewOf,hv]
         rfl
        ·obtain ⟨m,m1,m4,m2,hrun⟩:=run_sliceAt (w:=w) X hu hs (some ⟨g,0,none⟩) L.length cap hlc h1 h2 h3 hok
         have hm:m=cap:=m4 rfl
         subst hm
         refine ⟨_,by simp only [SV.den,hv];exact hrun,OpOk.pure R hp h ?_⟩
         simp only [SV.den,viewOf,hv]
         rfl
       ·exact h.elim
      ·exact h.elim
     split at h
     ·rw [Tree.holds_chk] at h
      obtain ⟨hok,h⟩:=h
      simp only [Bool.and_eq_true,decide_eq_true_eq] at hok
      obtain ⟨hok,hl0⟩:=hok
      have hl0':lowN lo=0:=by unfold lowN;omega
      obtain ⟨c1,c2,c3⟩:=cut_len (lo:=none) (hi:=hi) (mx:=none) (L:=L) (by
       unfold slOk at hok ⊢
       simp only [Bool.and_eq_true,decide_eq_true_eq] at hok ⊢
       simp only [hl0] at hok
       exact hok)
      rw [show lowN none=0 from rfl,Nat.sub_zero] at c1
      have hcut:cutL none hi L=L.take (highN hi L.length):=by
       unfold cutL highN
       cases hi<;>simp [optB]
      have key: ∃u:Value,(Instr.sliceAt t (ρ k) vlo vhi vmx).run X.P w= .ok u w/\ u.oneCell'=true/\ u.ownBlock=(ρ k).ownBlock/\ w.ownsRow 0 el' (T e).n u (cutL none hi L).length (valsL (T e) (cutL none hi L)):=by
       rcases hown.2 with ⟨hv,hn⟩|⟨g,cap,cur,hv,hb0,hg,hlc,hcap,hcs,htake⟩
       ·have hL:L=[]:=List.eq_nil_of_length_eq_zero hn
        subst hL
        obtain ⟨m,m1,m4,m2,hrun⟩:=run_sliceAt (w:=w) X hu hs none 0 0 (Nat.le_refl _) h1 h2 h3 hok
        have hh0:highN hi 0=0:=by simpa using c3
        have hm0:m=0:=by omega
        refine ⟨_,by rw [hv];exact hrun,rfl,by rw [hv,hm0,hl0'];simp [Value.ownBlock], ?_⟩
        simp only [hm0,hl0',hh0,hcut,List.take_nil,List.length_nil,if_true]
        exact World.ownsRow_nil w 0 el' (T e).n
       ·obtain ⟨m,m1,m4,m2,hrun⟩:=run_sliceAt (w:=w) X hu hs (some ⟨g,0,none⟩) L.length cap hlc h1 h2 h3 hok
        refine ⟨_,by rw [hv];exact hrun,rfl, ?_, ?_⟩
        ·rw [hv]
         simp only [hl0',Nat.zero_mul]
         split<;>simp [Value.ownBlock,Addr.add_lit]
        ·rw [c1]
         refine ⟨by rw [valsL_len,c1], .inr ⟨g,cap,cur, ?_,hb0,hg,by omega,hcap,hcs, ?_⟩⟩
         ·rw [m4 rfl,hl0']
          simp only [Nat.zero_mul,Nat.sub_zero]
          congr 1
          split<;>simp [Addr.add_lit]
         ·rw [hcut,valsL_take,←htake,List.take_take,Nat.min_eq_left (Nat.mul_le_mul_right _ c3)]
      obtain ⟨u,hrun,hone,hblk,hown'⟩:=key
      refine ⟨u,hrun,_,_,_,h,EffOk.moved R hp hf hk rfl (Kept.refl _ _) (.vec e (cutL none hi L) el') u u (Fs k) _ hone ⟨hown',fun x=>by rw [hF,hblk]⟩ (fun x hx=> .inr hx) ?_⟩
      intro s hs'
      simp only [Option.some.injEq] at hs'
      subst hs'
      simp [SV.den,setF_same]
     ·rename_i m0
      split at h
      ·rename_i hm0
       split at h
       ·rename_i h0
        split at h
        ·rename_i hh
         obtain ⟨rfl,hl0⟩:=hh
         subst hm0
         have hlc: ∃b cap,ρ k= .slice b L.length cap/\ L.length<=cap:=by
          rcases hown.2 with ⟨hv,hn⟩|⟨g,cap,cur,hv,_,_,hlc,_⟩
          ·exact ⟨none,0,by rw [hv,hn],by omega⟩
          ·exact ⟨_,_,hv,hlc⟩
         obtain ⟨b,cap,hv,hlc⟩:=hlc
         obtain ⟨m,m1,_,m4,m2,hrun⟩:=run_sliceAt2 (w:=w) X hu hs b L.length cap hlc h1 h2 h3 (by unfold slOk;rw [hl0];simp [optB])
         have hm:m=0:=m4 0 rfl
         subst hm
         have hl:lowN lo=0:=by unfold lowN;omega
         rw [hl] at hrun
         have hone: ∀(o:Option Addr),(Value.slice o 0 0).oneCell'=true:=fun _=>rfl
         refine ⟨_,by simp only [SV.den,hv];exact hrun,_,_,_,h,EffOk.alloc R hp f0.1 f0.2 (Kept.refl _ _) (.que e [] el') (.slice b 0 0) _ (fun _=>False) _ rfl (.inl ⟨⟨b,rfl⟩,rfl,fun _ h=>h⟩) (fun x hx=>hx.elim) ?_⟩
         intro s hs'
         simp only [Option.some.injEq] at hs'
         subst hs'
         simp [SV.den,setF_same,highN,optB]
        ·exact h.elim
       ·exact h.elim
      ·exact h.elim
   ·exact h.elim
  ·rename_i k e L el' hk
   simp only [headC,SV.head] at hk
   split at h
   ·rename_i hs
    rw [Tree.holds_chk] at h
    obtain ⟨hok,h⟩:=h
    obtain ⟨c1,c2,c3⟩:=cut_len hok
    rcases hp.holds k _ hk with ⟨⟨o,hv⟩,hn,hF⟩|⟨g,off,cap,cur,hv,hlc,hcap,hg,hfit,htake,hF⟩
    ·subst hn
     obtain ⟨m,m1,_,m2,hrun⟩:=run_sliceAt (w:=w) X hu hs o 0 0 (Nat.le_refl _) h1 h2 h3 hok
     simp only [List.length_nil] at c1 c2 c3
     have hm0:m=0:=by omega
     have hl0:lowN lo=0:=by omega
     have hh0:highN hi 0=0:=by omega
     have hcut:cutL lo hi ([]:List (T e).α)=[]:=List.eq_nil_of_length_eq_zero (by omega)
     refine ⟨_,by simp only [SV.den,hv];exact hrun,_,_,_,h,EffOk.moved R hp hf hk rfl (Kept.refl _ _) (.que e (cutL lo hi []) el') (.slice o 0 0) _ (fun _=>False) _ rfl (.inl ⟨⟨o,rfl⟩,hcut,fun _ h=>h⟩) (fun x hx=>hx.elim) ?_⟩
     intro s hs'
     simp only [Option.some.injEq] at hs'
     subst hs'
     simp [SV.den,setF_same,hm0,hl0,hh0]
    ·obtain ⟨m,m1,_,m2,hrun⟩:=run_sliceAt (w:=w) X hu hs (some ⟨g,off,none⟩) L.length cap hlc h1 h2 h3 hok
     have fin: ∀(u:Value) (F:Nat->Prop),(Instr.sliceAt t (ρ k) vlo vhi vmx).run X.P w= .ok u w->u.oneCell'=true->queHolds (T e) w el' u (cutL lo hi L) F->(∀x,F x->Fs k x)→
       ∃v,(Instr.sliceAt t (SV.den ρ (.own k)) vlo vhi vmx).run X.P w= .ok v w/\ OpOk R ρ H Fs w fresh K v w:=by
      intro u F hr hone hq hsub
      refine ⟨u,hr,_,_,_,h,EffOk.moved R hp hf hk rfl (Kept.refl _ _) (.que e (cutL lo hi L) el') u u F _ hone hq (fun x hx=> .inr (hsub x hx)) ?_⟩
      intro s hs'
      simp only [Option.some.injEq] at hs'
      subst hs'
      simp [SV.den,setF_same]
     by_cases hml:m=lowN lo
     ·refine fin _ (fun _=>False) (by rw [hv];exact hrun) rfl (.inl ⟨⟨some ⟨g,off,none⟩, ?_⟩,List.eq_nil_of_length_eq_zero (by omega),fun _ h=>h⟩) (fun x hx=>hx.elim)
      rw [if_pos hml,show highN hi L.length-lowN lo=0 by omega,show m-lowN lo=0 by omega]
     ·refine fin _ (fun x=>x=g) (by rw [hv];exact hrun) rfl (.inr ⟨g,off+lowN lo*(T e).n,m-lowN lo,cur, ?_,by omega,by omega,hg, ?_, ?_,fun _=>Iff.rfl⟩) (fun x hx=>(hF x).2 hx)
      ·rw [if_neg hml,c1];simp [Addr.add_lit]
      ·have:(lowN lo+(m-lowN lo))*(T e).n<=cap*(T e).n:=Nat.mul_le_mul_right _ (by omega)
       rw [Nat.add_mul] at this
       omega
      ·refine List.ext_getElem? fun j=> ?_
       rw [List.getElem?_take,List.getElem?_drop]
       have hvl:(valsL (T e) (cutL lo hi L)).length=(cutL lo hi L).length*(T e).n:=valsL_len _ _
       split
       ·rename_i hj
        have hj':j<(valsL (T e) (cutL lo hi L)).length:=by omega
        have h5:=cut_vals (List.getElem?_eq_getElem hj')
        rw [List.getElem?_eq_getElem hj',←h5,←htake,List.getElem?_take,List.getElem?_drop]
        have:(lowN lo+(cutL lo hi L).length)*(T e).n<=L.length*(T e).n:=Nat.mul_le_mul_right _ (by omega)
        rw [Nat.add_mul] at this
        rw [if_pos (by omega),Nat.add_assoc]
       ·rename_i hj
        rw [List.getElem?_eq_none (by omega)]
   ·exact h.elim
  ·exact h.elim
 ·rename_i n el hu
  split at h
  ·rename_i k off cs o n' L hole ds ty hk
   simp only [headC,SV.head] at hk
   split at h
   ·rename_i hE
    obtain ⟨rfl,rfl,hs⟩:=hE
    obtain ⟨b,ptrs,hbv,_⟩:=hp.holds k _ hk
    have g1:vlo=none:=by cases vlo with
     |none=>rfl
     |some v=>cases v<;>exact h1.elim
    have g2:vhi=none:=by cases vhi with
     |none=>rfl
     |some v=>cases v<;>exact h2.elim
    have g3:vmx=none:=by cases vmx with
     |none=>rfl
     |some v=>cases v<;>exact h3.elim
    subst g1;subst g2;subst g3
    refine ⟨.slice (some ⟨b,cs.length,none⟩) n' n', ?_,OpOk.pure R hp h ?_⟩
    ·simp only [SV.den,hbv,addrOf,Addr.add_lit,Nat.zero_add,Instr.sliceAt,run_underlying hu,Instr.sureAddr,Instr.sliceBounds,Sem.run_bind,Sem.run_pure,Result.andThen_ok,size_of X hs w,Nat.zero_mul,Nat.sub_zero]
     simp
    ·simp only [SV.den,hbv,addrOf,Addr.add_lit,Nat.zero_add]
   ·exact h.elim
  ·exact h.elim
 ·exact h.elim
end
end
end Go.Sx