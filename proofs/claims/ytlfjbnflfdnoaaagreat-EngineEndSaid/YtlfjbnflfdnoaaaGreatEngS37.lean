/-
  Part of a proof over the seat YtlfjbnflfdnoaaaGreat: printed by a small program or typed by hand.
-/
import Derived.Test.YtlfjbnflfdnoaaaGreatJEngS36
import Derived.KernelRfl
import Derived.Test.YtlfjbnflfdnoaaaGreatSxRelax
namespace Go.Proofs.YtlfjbnflfdnoaaaGreat
open Go.Sx Go.Proofs Classical
set_option maxRecDepth 20000 in
theorem mul64_one0: ∀n:Fin 1025,mul64C0 1 (n.val:Int)=0/\ mul64C1 1 (n.val:Int)=(n.val:Int)/\ IntKind.u64.wrap (n.val:Int)=(n.val:Int):=by decide+kernel
theorem mul64_one {n:Int} (h0:0<=n) (h1:n<=1024):bmulC0 1 n=0/\ bmulC1 1 n=n/\ IntKind.u64.wrap n=n:=by
 have:=mul64_one0 ⟨n.toNat,by omega⟩
 rw [show ((n.toNat:Nat):Int)=n by omega] at this
 exact this
theorem lay_rep {α:Type} (a z:α) {x k n:Nat} (hk:k<=x) (hn:x+k<=n):layL (List.replicate x a++List.replicate (n-x) z) x (List.take k (List.replicate x a++List.replicate (n-x) z))=List.replicate (x+k) a++List.replicate (n-(x+k)) z:=by
 have e1:List.take k (List.replicate x a++List.replicate (n-x) z)=List.replicate k a:=by
  rw [List.take_append,List.length_replicate,show k-x=0 by omega,List.take_zero,List.append_nil,List.take_replicate,Nat.min_eq_left hk]
 have e2:List.take x (List.replicate x a++List.replicate (n-x) z)=List.replicate x a:=by
  rw [List.take_append,List.length_replicate,Nat.sub_self,List.take_zero,List.append_nil,List.take_replicate,Nat.min_self]
 have e3:List.drop (x+k) (List.replicate x a++List.replicate (n-x) z)=List.replicate (n-(x+k)) z:=by
  rw [List.drop_append,List.length_replicate,List.drop_replicate,List.drop_replicate,show x-(x+k)=0 by omega,List.replicate_zero,List.nil_append]
  congr 1;omega
 unfold layL
 rw [e1,List.length_replicate,e2,e3,List.replicate_append_replicate]
abbrev rz:Runner:=⟨0,0,0⟩
def rnOk (m:Int) (r:Runner):Bool:=decide (-1<=r.Pin)&&decide (r.Pin<m)&&decide (-1<=r.Last)&&decide (r.Last<m)
def clash (b a:Runner):Bool:=a.ID==b.ID||(a.Pin==b.Pin&&decide (0<=b.Pin))
def okN (m:Int) (L:List Runner):Nat->Bool
 |0=>true
 |n+1=>okN m L n&&(rnOk m (at' rz L n)&& !(L.take n).any (clash (at' rz L n)))
def chkA (L:List Runner) (m:Int):Bool:=decide (1<=m)&&decide (m<=1024)&&decide ((L.length:Int)<=m)&&okN m L L.length
def hasI (l:List Int) (n:Int):Bool:=l.contains n
def anyID (k:Int) (l:List Runner):Bool:=l.any fun r=>r.ID==k
def anyPin (k:Int) (l:List Runner):Bool:=l.any fun r=>r.Pin==k
theorem at_rep {n:Nat} {c:Int}:at' false (List.replicate n false) c=false:=by
 unfold at' List.getD
 rw [List.getElem?_replicate]
 split<;>rfl
theorem okN_mono {m:Int} {L:List Runner}: ∀ {y x:Nat},x<=y->okN m L y=true->okN m L x=true
 |0,x,hx,h=>by rw [show x=0 by omega];exact h
 |y+1,x,hx,h=>by
  by_cases e:x=y+1
  ·rw [e];exact h
  ·simp only [okN,Bool.and_eq_true] at h
   exact okN_mono (by omega) h.1
theorem chk_false {m:Int} {L:List Runner} {x:Nat} (hx:x<L.length) (h:(rnOk m L[x]&& !(L.take x).any (clash L[x]))=false):chkA L m=false:=by
 cases hc:chkA L m
 ·rfl
 ·exfalso
  unfold chkA at hc
  simp only [Bool.and_eq_true] at hc
  have h2:=okN_mono (show x+1<=L.length by omega) hc.2
  simp only [okN,Bool.and_eq_true] at h2
  rw [at_nat hx] at h2
  rw [h2.2.1,h2.2.2] at h
  cases h
theorem okN_succ {m:Int} {L:List Runner} {x:Nat} (hx:x<L.length) (h0:okN m L x=true) (h1:rnOk m L[x]=true) (h2:(L.take x).any (clash L[x])=false):okN m L (x+1)=true:=by
 simp only [okN]
 rw [at_nat hx,h0,h1,h2];rfl
theorem any_clash (r:Runner): ∀l:List Runner,l.any (clash r)=(anyID r.ID l||(anyPin r.Pin l&&decide (0<=r.Pin)))
 |[]=>rfl
 |a::l=>by
  simp only [anyID,anyPin,List.any_cons,any_clash r l,clash]
  cases a.ID==r.ID<;>cases a.Pin==r.Pin<;>cases decide (0<=r.Pin)<;>simp
abbrev Pl:=List Int×List Bool
def tkB (i c:Int) (p:Pl):Bool:=c != -1&&at' (0:Int) p.1 i== -1&& !at' false p.2 c
def tk (i c:Int) (p:Pl):Pl:=bif tkB i c p then (p.1.set i.toNat c,p.2.set c.toNat true) else p
noncomputable def repeatIA (X:List Int) (n:Int):Ann T O:=oneLoop 8 { σ:=Nat,st:=fun S x=>((S.keep [0,7]).int 8 x).at' 7 (.vec 0 (List.replicate x (at' (0:Int) X 0)++List.replicate (n.toNat-x) (0:Int)) 3),inv:=fun _ x=>x<=n.toNat/\ (x=0->n=0),m:=fun x=>n.toNat-x }
def repeatIText (X:List Int) (n:Int):Prop:=let q5:=(IntKind.u64.wrap (↑X.length:Int));let q1:=(bmulC1 q5 (IntKind.u64.wrap n));let q2:=(List.replicate (IntKind.i64.wrap q1).toNat (0:Int));let q4:=(at' (0:Int) X (0:Int));(match (decide (n<(0:Int))) with|true=>False|false=>(match (decide (bmulC0 q5 (IntKind.u64.wrap n)>(0:Int))) with|true=>False|false=>(match (decide (bmulC1 q5 (IntKind.u64.wrap n)>(9223372036854775807:Int))) with|true=>False|false=>(match (decide ((0:Int)<=IntKind.i64.wrap q1)&&decide (IntKind.i64.wrap q1=IntKind.i64.wrap q1)&&roomy (IntKind.i64.wrap q1).toNat (nat_lit 8)) with|true=>(match (spanOk (0:Int) (↑q2.length:Int) q2.length&&spanOk (0:Int) (↑X.length:Int) X.length) with|true=>((∃x:Nat,(((x<=n.toNat)/\ ((x=(0:Nat))->(n=(0:Int))))/\ ((True/\ (True/\ (((↑x:Int)=cpyN (↑X.length:Int) (↑q2.length:Int))/\ True)))/\ ((X=X)/\ ((List.replicate x q4++List.replicate (n.toNat-x) (0:Int)=layL q2 (Int.toNat (0:Int)) (List.take (cpyN (↑X.length:Int) (↑q2.length:Int)).toNat (List.drop (Int.toNat (0:Int)) X)))/\ True)))))/\ (∀x:Nat,let q0:=(List.replicate x q4++List.replicate (n.toNat-x) (0:Int));let q3:=((↑q0.length:Int)-optB (some (↑x:Int)) (0:Int));(((x<=n.toNat)/\ ((x=(0:Nat))->(n=(0:Int))))->(match (decide ((↑x:Int)<(↑q0.length:Int))) with|true=>(match (slOk (some (↑x:Int)) none none (↑q0.length:Int)) with|true=>(match (slOk none (some (↑x:Int)) none (↑q0.length:Int)) with|true=>(match (spanOk (optB (some (↑x:Int)) (0:Int)) q3 q0.length&&spanOk (0:Int) (↑x:Int) q0.length) with|true=>(∃x':Nat,(((x'<=n.toNat)/\ ((x'=(0:Nat))->(n=(0:Int))))/\ ((n.toNat-x'<n.toNat-x)/\ ((True/\ (True/\ (((↑x':Int)=IntKind.i64.wrap ((↑x:Int)+cpyN (↑x:Int) q3))/\ True)))/\ ((X=X)/\ ((List.replicate x' q4++List.replicate (n.toNat-x') (0:Int)=layL q0 (optB (some (↑x:Int)) (0:Int)).toNat (List.take (cpyN (↑x:Int) q3).toNat (List.drop (Int.toNat (0:Int)) q0)))/\ True))))))|false=>False)|false=>False)|false=>False)|false=>((True/\ True)/\ ((X=X)/\ ((List.replicate n.toNat q4=List.replicate x q4++List.replicate (n.toNat-x) (0:Int))/\ True)))))))|false=>False)|false=>False))))
theorem repeatIVc (X:List Int) (n:Int):fnX { X36 with vw:=true } ((repeatIA X n)) Tryz.f88 [.own 0, .raw (.int .i64 n)] [.vec 0 X 3] (ends [.vec 0 X 3] ⟨some (.own 1),[(0,some (.vec 0 X 3)),(1,some (.vec 0 (List.replicate n.toNat (at' (0:Int) X 0)) 3))]⟩)=repeatIText X n:=by kernel_rfl
theorem repeatIHolds (X:List Int) (n:Int) (hp:X.length=1/\ 0<=n/\ n<=1024):repeatIText X n:=by
 unfold repeatIText
 conv=>zeta
 obtain ⟨hx,h0,h1⟩:=hp
 obtain ⟨m0,m1,m2⟩:=mul64_one h0 h1
 have w1:IntKind.u64.wrap (X.length:Int)=1:=by rw [hx];rfl
 have w2:IntKind.i64.wrap n=n:=wrap_id (by omega) (by omega)
 have hr:roomy n.toNat 8=true:=by unfold roomy;simp;omega
 have hX:X=[at' (0:Int) X 0]:=by
  match X,hx with
  |[a],_=>rfl
 have hcp: ∀a b:Int,cpyN a b=if a<b then a else b:=fun _ _=>rfl
 have hso: ∀(lo m:Int) (k:Nat),0<=lo->0<=m->lo+m<=k->spanOk lo m k=true:=fun lo m k a b c=>by
  unfold spanOk;rw [decide_eq_true a,decide_eq_true b,decide_eq_true c];rfl
 rw [w1,m2,m0,m1,w2,hr,List.length_replicate,decide_eq_false (show ¬n<0 by omega),decide_eq_false (show ¬(0:Int)>0 by omega),decide_eq_false (show ¬n>9223372036854775807 by omega),decide_eq_true h0,show decide (n=n)=true from decide_eq_true rfl,
  hso 0 _ _ (by omega) (by omega) (by omega),hso 0 _ _ (by omega) (by omega) (by omega),hx]
 refine ⟨⟨if n=0 then 0 else 1,⟨by split<;>omega,by split<;>omega⟩,⟨trivial,trivial, ?_,trivial⟩,rfl, ?_,trivial⟩, ?_⟩
 ·rw [hcp];split<;>split<;>omega
 ·rw [hcp]
  by_cases hz:n=0
  ·subst hz;simp [layL]
  ·rw [if_neg hz]
   have e:(if ((1:Nat):Int)<((n.toNat:Nat):Int) then ((1:Nat):Int) else ((n.toNat:Nat):Int)).toNat=1:=by split<;>omega
   rw [e,hX]
   simp only [layL,Int.toNat_zero,List.drop_zero,List.take_zero,List.nil_append]
   rw [show List.take 1 [at' (0:Int) X 0]=[at' (0:Int) X 0] from rfl]
   rw [show at' (0:Int) [at' (0:Int) X 0] 0=at' (0:Int) X 0 from rfl]
   simp [List.drop_replicate]
 rintro x ⟨hx1,hx2⟩
 have hl:(List.replicate x (at' (0:Int) X 0)++List.replicate (n.toNat-x) (0:Int)).length=n.toNat:=by
  rw [List.length_append,List.length_replicate,List.length_replicate];omega
 rw [hl]
 by_cases h:x<n.toNat
 ·have hs1:slOk (some (x:Int)) none none (n.toNat:Int)=true:=by
   unfold slOk
   simp [optB];omega
  have hs2:slOk none (some (x:Int)) none (n.toNat:Int)=true:=by
   unfold slOk
   simp [optB];omega
  have ho:optB (some (x:Int)) (0:Int)=x:=rfl
  rw [dec_lt h,hs1,hs2,ho,hso _ _ _ (by omega) (by omega) (by omega),hso _ _ _ (by omega) (by omega) (by omega),hcp]
  have hx0:0<x:=by
   refine Nat.pos_of_ne_zero fun e=> ?_
   have:=hx2 e
   omega
  refine ⟨x+(if (x:Int)<((n.toNat:Nat):Int)-x then (x:Int) else ((n.toNat:Nat):Int)-x).toNat,⟨by split<;>omega,by split<;>omega⟩,by split<;>omega,⟨trivial,trivial, ?_,trivial⟩,rfl, ?_,trivial⟩
  ·rw [wrap_id (by split<;>omega) (by split<;>omega)];split<;>omega
  ·rw [Int.toNat_zero,List.drop_zero,Int.toNat_natCast]
   exact (lay_rep _ _ (by split<;>omega) (by split<;>omega)).symm
 ·have e:x=n.toNat:=by omega
  subst e
  rw [dec_ge (by omega),Nat.sub_self,List.replicate_zero,List.append_nil]
  repeat' first|trivial|rfl|apply And.intro
noncomputable def repeatICon:Con T O:=fun args cs=>match args,cs with
 |[.own 0, .raw (.int .i64 n)],[.vec 0 X 3]=>chk (decide (X.length=1/\ 0<=n/\ n<=1024)) (.ret ⟨some (.own 1),[(0,some (.vec 0 X 3)),(1,some (.vec 0 (List.replicate n.toNat (at' (0:Int) X 0)) 3))]⟩)
 |_,_=> .fail
theorem repeatIOk:ConOk R Tryz.prog 88 repeatICon:=con_of_fn R ({ X36 with vw:=true }) (good ({ X36 with vw:=true }) rfl (TabOk.con R X36Ok)) mixed Tryz.call88 Tryz.func88 repeatICon (by
 intro args cs K h
 unfold repeatICon at h
 split at h
 ·rename_i n X
  rw [Tree.holds_chk] at h
  obtain ⟨hp,h⟩:=h
  refine ⟨(repeatIA X n),_,fun v S hv=>⟨_,h,hv⟩, ?_⟩
  rw [repeatIVc X n]
  exact repeatIHolds X n (of_decide_eq_true hp)
 ·exact h.elim)
noncomputable def plChkA (L:List Runner) (m:Int):Ann T O:=oneLoop 6 { σ:=Nat×List (Int×Bool)×List Bool,st:=fun S x=>(((S.keep [0,1,5,6,22,23]).int 24 x.1).at' 5 (.map 1 x.2.1)).at' 6 (.arr 1 x.2.2 160),inv:=fun _ x=>x.1<=L.length/\ okN m L x.1=true/\ x.2.2.length=1024/\ (∀k:Int,(mget k x.2.1).getD false=anyID k (L.take x.1))/\ (∀c:Nat,c<1024->at' false x.2.2 (c:Int)=anyPin (c:Int) (L.take x.1)),m:=fun x=>L.length-x.1 }
def plChkText (L:List Runner) (m:Int):Prop:=let q4:=(((chkA L m=false)/\ True)/\ ((L=L)/\ True));(match (decide (m<(1:Int))) with|true=>q4|false=>(match (decide (m>(1024:Int))) with|true=>q4|false=>(match (decide ((↑L.length:Int)>m)) with|true=>q4|false=>((∃x:Nat×List (Int×Bool)×List Bool,let q3:=((x.fst<=L.length)/\ ((okN m L x.fst=true)/\ ((x.snd.snd.length=(1024:Nat))/\ ((∀k:Int,((mget k x.snd.fst).getD false=anyID k (List.take x.fst L)))/\ (∀c:Nat,((c<(1024:Nat))->(at' false x.snd.snd (↑c:Int)=anyPin (↑c:Int) (List.take x.fst L))))))));(q3/\ ((True/\ ((m=m)/\ (True/\ (True/\ (True/\ (((↑L.length:Int)=(↑L.length:Int))/\ (((↑x.fst:Int)=(0:Int))/\ True)))))))/\ ((L=L)/\ ((x.snd.fst=[])/\ ((x.snd.snd=List.replicate (1024:Nat) false)/\ True))))))/\ (∀x:Nat×List (Int×Bool)×List Bool,let q1:=(at' runnerE.zero L (↑x.fst:Int));let q0:=(match (q1.Pin !=(-1:Int)) with|true=>(match (x.snd.snd.length==(1024:Nat)) with|true=>(match (inb q1.Pin (1024:Nat)) with|true=>(match (inb q1.Pin x.snd.snd.length) with|true=>(∃x':Nat×List (Int×Bool)×List Bool,let q2:=((x'.fst<=L.length)/\ ((okN m L x'.fst=true)/\ ((x'.snd.snd.length=(1024:Nat))/\ ((∀k:Int,((mget k x'.snd.fst).getD false=anyID k (List.take x'.fst L)))/\ (∀c:Nat,((c<(1024:Nat))->(at' false x'.snd.snd (↑c:Int)=anyPin (↑c:Int) (List.take x'.fst L))))))));let q5:=(True/\ ((m=m)/\ (True/\ (True/\ (True/\ (((↑L.length:Int)=(↑L.length:Int))/\ (((↑x'.fst:Int)=IntKind.i64.wrap ((↑x.fst:Int)+(1:Int)))/\ True)))))));(q2/\ ((L.length-x'.fst<L.length-x.fst)/\ (q5/\ ((L=L)/\ ((x'.snd.fst=mput q1.ID true x.snd.fst)/\ ((x'.snd.snd=x.snd.snd.set q1.Pin.toNat true)/\ True)))))))|false=>False)|false=>False)|false=>False)|false=>(∃x':Nat×List (Int×Bool)×List Bool,let q2:=((x'.fst<=L.length)/\ ((okN m L x'.fst=true)/\ ((x'.snd.snd.length=(1024:Nat))/\ ((∀k:Int,((mget k x'.snd.fst).getD false=anyID k (List.take x'.fst L)))/\ (∀c:Nat,((c<(1024:Nat))->(at' false x'.snd.snd (↑c:Int)=anyPin (↑c:Int) (List.take x'.fst L))))))));let q5:=(True/\ ((m=m)/\ (True/\ (True/\ (True/\ (((↑L.length:Int)=(↑L.length:Int))/\ (((↑x'.fst:Int)=IntKind.i64.wrap ((↑x.fst:Int)+(1:Int)))/\ True)))))));(q2/\ ((L.length-x'.fst<L.length-x.fst)/\ (q5/\ ((L=L)/\ ((x'.snd.fst=mput q1.ID true x.snd.fst)/\ ((x'.snd.snd=x.snd.snd)/\ True))))))));let q3:=((x.fst<=L.length)/\ ((okN m L x.fst=true)/\ ((x.snd.snd.length=(1024:Nat))/\ ((∀k:Int,((mget k x.snd.fst).getD false=anyID k (List.take x.fst L)))/\ (∀c:Nat,((c<(1024:Nat))->(at' false x.snd.snd (↑c:Int)=anyPin (↑c:Int) (List.take x.fst L))))))));(q3->(match (decide ((↑x.fst:Int)<(↑L.length:Int))) with|true=>(match (inb (↑x.fst:Int) L.length) with|true=>(match (inb (↑x.fst:Int) L.length) with|true=>(match (!placeCore q1.Pin m) with|true=>q4|false=>(match (!placeCore q1.Last m) with|true=>q4|false=>(match ((mget q1.ID x.snd.fst).getD false) with|true=>q4|false=>(match (q1.Pin !=(-1:Int)) with|true=>(match (x.snd.snd.length==(1024:Nat)) with|true=>(match (inb q1.Pin (1024:Nat)) with|true=>(match (inb q1.Pin x.snd.snd.length) with|true=>(match (at' false x.snd.snd q1.Pin) with|true=>q4|false=>q0)|false=>False)|false=>False)|false=>False)|false=>q0))))|false=>False)|false=>False)|false=>(((chkA L m=true)/\ True)/\ ((L=L)/\ True)))))))))
theorem plChkVc (L:List Runner) (m:Int):fnX X36 ((plChkA L m)) Tryz.f87 [.own 0, .raw (.int .i64 m)] [.ro 9 L] (ends [.ro 9 L] ⟨some (.raw (.bool (chkA L m))),[]⟩)=plChkText L m:=by kernel_rfl
theorem plChkHolds (L:List Runner) (m:Int) (hp:L.length<=140737488355328):plChkText L m:=by
 unfold plChkText
 conv=>zeta
 by_cases q1:m<1
 ·rw [decide_eq_true q1,show chkA L m=false by unfold chkA;rw [decide_eq_false (show ¬1<=m by omega)];rfl]
  repeat' first|trivial|rfl|apply And.intro
 by_cases q2:m>1024
 ·rw [decide_eq_false q1,decide_eq_true q2,show chkA L m=false by unfold chkA;rw [decide_eq_false (show ¬m<=1024 by omega),Bool.and_false];rfl]
  repeat' first|trivial|rfl|apply And.intro
 by_cases q3:(L.length:Int)>m
 ·rw [decide_eq_false q1,decide_eq_false q2,decide_eq_true q3,show chkA L m=false by unfold chkA;rw [decide_eq_false (show ¬(L.length:Int)<=m by omega),Bool.and_false];rfl]
  repeat' first|trivial|rfl|apply And.intro
 rw [decide_eq_false q1,decide_eq_false q2,decide_eq_false q3]
 refine ⟨⟨(0,[],List.replicate 1024 false),⟨Nat.zero_le _,rfl,List.length_replicate,fun k=>rfl,fun c hc=>at_rep⟩,by repeat' first|exact rfl|exact True.intro|apply And.intro⟩, ?_⟩
 rintro ⟨x,M,A⟩ ⟨hx,hok,hlen,hM,hA⟩
 dsimp only at hx hok hlen hM hA ⊢
 by_cases h:x<L.length
 ·rw [dec_lt h,inb_nat h,at_nat h]
  have hw:=wrap_succ (x:=x) (n:=L.length) h hp
  have hr:rnOk m L[x]=(placeCore L[x].Pin m&&placeCore L[x].Last m):=by
   unfold rnOk placeCore
   by_cases a1:(-1:Int)<=L[x].Pin<;>by_cases a2:L[x].Pin<m<;>by_cases a3:(-1:Int)<=L[x].Last<;>by_cases a4:L[x].Last<m<;>simp [a1,a2,a3,a4]
  cases c1:placeCore L[x].Pin m
  ·rw [chk_false h (by rw [hr,c1];rfl)]
   repeat' first|trivial|rfl|apply And.intro
  cases c2:placeCore L[x].Last m
  ·rw [chk_false h (by rw [hr,c1,c2];rfl)]
   repeat' first|trivial|rfl|apply And.intro
  have hr1:rnOk m L[x]=true:=by rw [hr,c1,c2];rfl
  have hcl:=any_clash L[x] (L.take x)
  rw [←hM L[x].ID] at hcl
  have hpin: -1<=L[x].Pin/\ L[x].Pin<m:=by
   unfold rnOk at hr1
   simp only [Bool.and_eq_true,decide_eq_true_eq] at hr1
   exact ⟨hr1.1.1.1,hr1.1.1.2⟩
  cases c3:(mget L[x].ID M).getD false
  ·rw [c3] at hcl
   have hM': ∀k:Int,(mget k (mput L[x].ID true M)).getD false=anyID k (L.take (x+1)):=by
    intro k
    rw [mget_put,take_at h,show anyID k (L.take x++[L[x]])=(anyID k (L.take x)||anyID k [L[x]]) from List.any_append,←hM k]
    by_cases e:k=L[x].ID
    ·subst e;simp [anyID]
    ·rw [if_neg e]
     have:(L[x].ID==k)=false:=beq_eq_false_iff_ne.2 fun q=>e q.symm
     simp [anyID,this]
   by_cases c4:L[x].Pin= -1
   ·have c4':(L[x].Pin != -1)=false:=by rw [c4];rfl
    rw [c4']
    have hcl:(L.take x).any (clash L[x])=false:=by
     rw [hcl,decide_eq_false (show ¬0<=L[x].Pin by omega)];simp
    refine ⟨(x+1,mput L[x].ID true M,A),⟨by dsimp only;omega,okN_succ h hok hr1 hcl,hlen,hM',fun c hc=> ?_⟩,by dsimp only;omega,by repeat' first|exact hw.symm|trivial|rfl|apply And.intro⟩
    dsimp only
    rw [hA c hc,take_at h,show anyPin (c:Int) (L.take x++[L[x]])=(anyPin (c:Int) (L.take x)||anyPin (c:Int) [L[x]]) from List.any_append]
    have:(L[x].Pin==(c:Int))=false:=beq_eq_false_iff_ne.2 (by omega)
    simp [anyPin,this]
   ·have c4':(L[x].Pin != -1)=true:=bne_iff_ne.2 c4
    have hp0:0<=L[x].Pin:=by omega
    rw [c4',show (A.length==1024)=true from beq_iff_eq.2 hlen,hlen,show inb L[x].Pin 1024=true from inb_iff.2 ⟨hp0,by omega⟩]
    have hAp:=hA L[x].Pin.toNat (by omega)
    rw [show ((L[x].Pin.toNat:Nat):Int)=L[x].Pin by omega] at hAp
    rw [←hAp,decide_eq_true hp0,Bool.and_true,Bool.false_or] at hcl
    cases c5:at' false A L[x].Pin
    ·rw [c5] at hcl
     refine ⟨(x+1,mput L[x].ID true M,A.set L[x].Pin.toNat true),⟨by dsimp only;omega,okN_succ h hok hr1 hcl,by simpa using hlen,hM',fun c hc=> ?_⟩,by dsimp only;omega,by repeat' first|exact hw.symm|trivial|rfl|apply And.intro⟩
     dsimp only
     rw [take_at h,show anyPin (c:Int) (L.take x++[L[x]])=(anyPin (c:Int) (L.take x)||anyPin (c:Int) [L[x]]) from List.any_append,←hA c hc]
     simp only [at',List.getD,Int.toNat_natCast,List.getElem?_set]
     by_cases e:L[x].Pin.toNat=c
     ·have:(L[x].Pin==(c:Int))=true:=beq_iff_eq.2 (by omega)
      simp [anyPin,e,this,hlen,hc]
     ·have:(L[x].Pin==(c:Int))=false:=beq_eq_false_iff_ne.2 (by omega)
      simp [anyPin,e,this]
    ·rw [c5] at hcl
     rw [chk_false h (by rw [hcl];simp)]
     repeat' first|trivial|rfl|apply And.intro
  ·rw [c3] at hcl
   rw [chk_false h (by rw [hcl];simp)]
   repeat' first|trivial|rfl|apply And.intro
 ·rw [dec_ge (by omega)]
  have e:x=L.length:=by omega
  subst e
  rw [show chkA L m=true by unfold chkA;rw [decide_eq_true (show 1<=m by omega),decide_eq_true (show m<=1024 by omega),decide_eq_true (show (L.length:Int)<=m by omega),hok];rfl]
  repeat' first|trivial|rfl|apply And.intro
noncomputable def plChkBCon:Con T O:=fun args cs=>match args,cs with
 |[.own 0, .raw (.int .i64 m)],[.ro 9 L]=>chk (decide (L.length<=140737488355328)) (.ret ⟨some (.raw (.bool (chkA L m))),[]⟩)
 |_,_=> .fail
theorem plChkBOk:ConOk R Tryz.prog 87 plChkBCon:=con_of_fn R (X36) (good (X36) rfl (TabOk.con R X36Ok)) mixed Tryz.call87 Tryz.func87 plChkBCon (by
 intro args cs K h
 unfold plChkBCon at h
 split at h
 ·rename_i m L
  rw [Tree.holds_chk] at h
  obtain ⟨hp,h⟩:=h
  refine ⟨(plChkA L m),_,fun v S hv=>⟨_,h,hv⟩, ?_⟩
  rw [plChkVc L m]
  exact plChkHolds L m (of_decide_eq_true hp)
 ·exact h.elim)
noncomputable def plChkCon:Con T O:=relax 9 plChkBCon
theorem plChkOk:ConOk R Tryz.prog 87 plChkCon:=relax_ok R 9 plChkBOk
def plTakeText (i c:Int) (o:List Int) (A:List Bool):Prop:=let q0:=((True/\ True)/\ ((True/\ True)/\ (((tk i c (o,A)).snd=A)/\ (((tk i c (o,A)).fst=o)/\ True))));(match (c !=(-1:Int)) with|true=>(match (inb i o.length) with|true=>(match (inb i o.length) with|true=>(match (at' (0:Int) o i==(-1:Int)) with|true=>(match (A.length==(1024:Nat)) with|true=>(match (inb c (1024:Nat)) with|true=>(match (inb c A.length) with|true=>(match (!at' false A c) with|true=>(match (inb i o.length) with|true=>(match (inb i o.length) with|true=>(match (A.length==(1024:Nat)) with|true=>(match (inb c (1024:Nat)) with|true=>(match (inb c A.length) with|true=>((True/\ True)/\ ((True/\ True)/\ (((tk i c (o,A)).snd=A.set c.toNat true)/\ (((tk i c (o,A)).fst=o.set i.toNat c)/\ True))))|false=>False)|false=>False)|false=>False)|false=>False)|false=>False)|false=>q0)|false=>False)|false=>False)|false=>False)|false=>q0)|false=>False)|false=>False)|false=>q0)
theorem plTakeVc (i c:Int) (o:List Int) (A:List Bool):fnX X36 (noAnn) Tryz.f89 [.raw (.int .i64 i), .raw (.int .i64 c), .ptr 0 0, .ptr 1 0] [.cells [.own 2] 59, .arr 1 A 160, .vec 0 o 3] (ends [.cells [.own 2] 59, .arr 1 A 160, .vec 0 o 3] ⟨some (.tup []),[(1,some (.arr 1 (tk i c (o,A)).2 160)),(2,some (.vec 0 (tk i c (o,A)).1 3))]⟩)=plTakeText i c o A:=by kernel_rfl
theorem plTakeHolds (i c:Int) (o:List Int) (A:List Bool) (hp:0<=i/\ i<o.length/\ -1<=c/\ c<1024/\ A.length=1024):plTakeText i c o A:=by
 unfold plTakeText
 conv=>zeta
 obtain ⟨h1,h2,h3,h4,h5⟩:=hp
 by_cases c1:c= -1
 ·have hb:(c != -1)=false:=by rw [c1];rfl
  have ht:tk i c (o,A)=(o,A):=by unfold tk tkB;rw [hb];rfl
  rw [ht,hb]
  repeat' first|trivial|rfl|apply And.intro
 ·have hb:(c != -1)=true:=bne_iff_ne.2 c1
  have hi:inb i o.length=true:=inb_iff.2 ⟨h1,h2⟩
  have hc:inb c 1024=true:=inb_iff.2 ⟨by omega,by omega⟩
  rw [hb,hi,h5,hc]
  cases e1:(at' (0:Int) o i== -1)
  ·have ht:tk i c (o,A)=(o,A):=by unfold tk tkB;dsimp only;rw [hb,e1];rfl
   rw [ht]
   repeat' first|trivial|rfl|apply And.intro
  ·cases e2:at' false A c
   ·have ht:tk i c (o,A)=(o.set i.toNat c,A.set c.toNat true):=by unfold tk tkB;dsimp only;rw [hb,e1,e2];rfl
    rw [ht]
    repeat' first|trivial|rfl|apply And.intro
   ·have ht:tk i c (o,A)=(o,A):=by unfold tk tkB;dsimp only;rw [hb,e1,e2];rfl
    rw [ht]
    repeat' first|trivial|rfl|apply And.intro
noncomputable def plTakeCon:Con T O:=fun args cs=>match args,cs with
 |[.raw (.int .i64 i), .raw (.int .i64 c), .ptr 0 0, .ptr 1 0],[.cells [.own 2] 59, .arr 1 A 160, .vec 0 o 3]=>chk (decide (0<=i/\ i<o.length/\ -1<=c/\ c<1024/\ A.length=1024)) (.ret ⟨some (.tup []),[(1,some (.arr 1 (tk i c (o,A)).2 160)),(2,some (.vec 0 (tk i c (o,A)).1 3))]⟩)
 |_,_=> .fail
theorem plTakeOk:ConOk R Tryz.prog 89 plTakeCon:=con_of_fn R (X36) (good (X36) rfl (TabOk.con R X36Ok)) mixed Tryz.call89 Tryz.func89 plTakeCon (by
 intro args cs K h
 unfold plTakeCon at h
 split at h
 ·rename_i i c A o
  rw [Tree.holds_chk] at h
  obtain ⟨hp,h⟩:=h
  refine ⟨noAnn,_,fun v S hv=>⟨_,h,hv⟩, ?_⟩
  rw [plTakeVc i c o A]
  exact plTakeHolds i c o A (of_decide_eq_true hp)
 ·exact h.elim)
noncomputable def tab37:Tab T O:=(88,repeatICon)::(87,plChkCon)::(89,plTakeCon)::tab36
theorem tabOk37:TabOk R Tryz.prog tab37:=TabOk.cons R repeatIOk<|TabOk.cons R plChkOk<|TabOk.cons R plTakeOk<|tabOk36
noncomputable def X37:Ctx T O:= { X0 with con:=conOf tab37 }
theorem X37Ok:TabOk R X37.P tab37:=tabOk37
end Go.Proofs.YtlfjbnflfdnoaaaGreat