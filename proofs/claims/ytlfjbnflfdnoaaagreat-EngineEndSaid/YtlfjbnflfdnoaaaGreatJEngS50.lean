/-
  Part of a proof over the seat YtlfjbnflfdnoaaaGreat: printed by a small program or typed by hand.
-/
import Derived.Test.YtlfjbnflfdnoaaaGreatEngS37
import Derived.KernelRfl
import Derived.Test.YtlfjbnflfdnoaaaGreatSxRelax
import Derived.Test.YtlfjbnflfdnoaaaGreatSxAnn2
namespace Go.Proofs.YtlfjbnflfdnoaaaGreat
open Go.Sx Go.Proofs Classical
def ps1 (L:List Runner):Nat->Pl->Pl
 |0,p=>p
 |n+1,p=>tk (n:Int) (at' rz L (n:Int)).Pin (ps1 L n p)
def ps2 (L:List Runner):Nat->Pl->Pl
 |0,p=>p
 |n+1,p=>tk (n:Int) (at' rz L (n:Int)).Last (ps2 L n p)
def freeF (A:List Bool):Nat->Nat->Nat
 |0,f=>f
 |k+1,f=>bif at' false A (f:Int) then freeF A k (f+1) else f
theorem free_succ (A:List Bool) (k f:Nat):freeF A (k+1) f=bif at' false A (f:Int) then freeF A k (f+1) else f:=rfl
def ps3:Nat->Pl×Nat->Pl×Nat
 |0,q=>q
 |n+1,q=>bif at' (0:Int) (ps3 n q).1.1 (n:Int) != -1 then ps3 n q else (tk (n:Int) (freeF (ps3 n q).1.2 1024 (ps3 n q).2:Nat) (ps3 n q).1,freeF (ps3 n q).1.2 1024 (ps3 n q).2)
abbrev P0 (n:Nat):Pl:=(List.replicate n (-1),List.replicate 1024 false)
def P2 (L:List Runner):Pl:=ps2 L L.length (ps1 L L.length (P0 L.length))
def asgP (L:List Runner):List Int:=(ps3 L.length (P2 L,0)).1.1
structure PlOk (n:Nat) (p:Pl):Prop where
 l1:p.1.length=n
 l2:p.2.length=1024
 cn:p.2.countP (· ==true)=p.1.countP (· != -1)
theorem at_set_ne {α:Type} {z:α} {l:List α} {i:Nat} {a:α} {j:Int} (h:j≠i) (hj:0<=j):at' z (l.set i a) j=at' z l j:=by
 unfold at' List.getD
 rw [List.getElem?_set_ne (by omega)]
theorem at_set_eq {α:Type} {z:α} {l:List α} {i:Nat} {a:α} (h:i<l.length):at' z (l.set i a) (i:Int)=a:=by
 unfold at' List.getD
 rw [Int.toNat_natCast,List.getElem?_set_self h]
 rfl
theorem PlOk.tk {n:Nat} {p:Pl} (h:PlOk n p) {i c:Int} (hi:0<=i/\ i<n) (hc: -1<=c/\ c<1024):PlOk n (tk i c p):=by
 unfold Go.Proofs.YtlfjbnflfdnoaaaGreat.tk
 cases hb:tkB i c p
 ·exact h
 ·unfold tkB at hb
  simp only [Bool.and_eq_true,bne_iff_ne,beq_iff_eq,Bool.not_eq_true'] at hb
  obtain ⟨⟨b1,b2⟩,b3⟩:=hb
  have hi':i.toNat<p.1.length:=by rw [h.l1];omega
  have hc':c.toNat<p.2.length:=by rw [h.l2];omega
  have e1:p.1[i.toNat]= -1:=by rw [←b2,←at_nat (z:=0) hi',show ((i.toNat:Nat):Int)=i by omega]
  have e2:p.2[c.toNat]=false:=by rw [←b3,←at_nat (z:=false) hc',show ((c.toNat:Nat):Int)=c by omega]
  refine ⟨by simpa using h.l1,by simpa using h.l2, ?_⟩
  simp only [cond_true]
  rw [List.countP_set hc',List.countP_set hi',h.cn,e1,e2]
  simp [b1]
theorem PlOk.p0 (n:Nat):PlOk n (P0 n):=⟨List.length_replicate,List.length_replicate,by
 rw [List.countP_replicate,List.countP_replicate];rfl⟩
theorem PlOk.ps1 {L:List Runner} (h: ∀r∈L,-1<=r.Pin/\ r.Pin<1024): ∀x,x<=L.length->PlOk L.length (ps1 L x (P0 L.length))
 |0,_=>PlOk.p0 _
 |x+1,hx=>by
  have hx':x<L.length:=hx
  simp only [Go.Proofs.YtlfjbnflfdnoaaaGreat.ps1]
  rw [at_nat hx']
  exact (PlOk.ps1 h x (by omega)).tk ⟨by omega,by omega⟩ (h _ (List.getElem_mem hx'))
theorem PlOk.ps2 {L:List Runner} (h: ∀r∈L,-1<=r.Last/\ r.Last<1024) {p:Pl} (hp:PlOk L.length p): ∀x,x<=L.length->PlOk L.length (ps2 L x p)
 |0,_=>hp
 |x+1,hx=>by
  have hx':x<L.length:=hx
  simp only [Go.Proofs.YtlfjbnflfdnoaaaGreat.ps2]
  rw [at_nat hx']
  exact (PlOk.ps2 h hp x (by omega)).tk ⟨by omega,by omega⟩ (h _ (List.getElem_mem hx'))
theorem chk_in {L:List Runner} {m:Int} (h:chkA L m=true):(1<=m/\ m<=1024/\ (L.length:Int)<=m)/\ ∀r∈L,(-1<=r.Pin/\ r.Pin<m)/\ (-1<=r.Last/\ r.Last<m):=by
 unfold chkA at h
 simp only [Bool.and_eq_true,decide_eq_true_eq] at h
 refine ⟨⟨h.1.1.1,h.1.1.2,h.1.2⟩,fun r hr=> ?_⟩
 obtain ⟨i,hi,rfl⟩:=List.getElem_of_mem hr
 have h2:=okN_mono (show i+1<=L.length by omega) h.2
 simp only [okN,Bool.and_eq_true] at h2
 rw [at_nat hi] at h2
 have h3:=h2.2.1
 unfold rnOk at h3
 simp only [Bool.and_eq_true,decide_eq_true_eq] at h3
 exact ⟨⟨h3.1.1.1,h3.1.1.2⟩,h3.1.2,h3.2⟩
theorem count_ge: ∀ {A:List Bool} {y:Nat},(∀c,c<y->at' false A (c:Int)=true)->y<=A.countP (· ==true)
 |_,0,_=>Nat.zero_le _
 |[],y+1,h=>by have:=h 0 (by omega);cases this
 |a::A,y+1,h=>by
  have h0:=h 0 (by omega)
  have h0:a=true:=h0
  have:=count_ge (A:=A) (y:=y) fun c hc=>h (c+1) (by omega)
  rw [h0,List.countP_cons]
  simp only [beq_self_eq_true,if_true]
  omega
theorem count_lt {o:List Int} {i:Nat} (hi:i<o.length) (h:o[i]= -1):o.countP (· != -1)<o.length:=by
 refine Nat.lt_of_le_of_ne List.countP_le_length fun e=> ?_
 have:=List.countP_eq_length.1 e _ (List.getElem_mem hi)
 rw [h] at this
 cases this
theorem free_spec {A:List Bool} {y:Nat} {f:Nat} (hA:A.length=1024) (hn:A.countP (· ==true)<1024) (hall: ∀c,c<f->at' false A (c:Int)=true): ∀k,1024<=f+k->(freeF A k f<1024/\ f<=freeF A k f/\ at' false A (freeF A k f:Nat)=false/\ ∀c,c<freeF A k f->at' false A (c:Int)=true):=by
 intro k
 induction k generalizing f with
 |zero=>
  intro hk
  have:=count_ge hall
  omega
 |succ k ih=>
  intro hk
  simp only [freeF]
  cases hf:at' false A (f:Int)
  ·refine ⟨?_,Nat.le_refl _,hf,hall⟩
   have:=count_ge hall
   simp only [cond_false]
   omega
  ·simp only [cond_true]
   obtain ⟨a,b,c,d⟩:=ih (f:=f+1) (fun c hc=>by
    by_cases e:c=f
    ·subst e;exact hf
    ·exact hall c (by omega)) (by omega)
   exact ⟨a,by omega,c,d⟩
structure P3Ok (n:Nat) (q:Pl×Nat):Prop where
 ok:PlOk n q.1
 all: ∀c,c<q.2->at' false q.1.2 (c:Int)=true
theorem P3Ok.step {n:Nat} {p:Pl} {f x:Nat} (h:P3Ok n (p,f)) (hn:n<=1024) (hx:x<n) (ho:at' (0:Int) p.1 (x:Int)= -1):p.2.countP (· ==true)<1024/\ P3Ok n (tk (x:Int) (freeF p.2 1024 f:Nat) p,freeF p.2 1024 f):=by
 have hok:PlOk n p:=h.ok
 have hall: ∀c,c<f->at' false p.2 (c:Int)=true:=h.all
 have hx':x<p.1.length:=by rw [hok.l1];exact hx
 have hc:p.2.countP (· ==true)<1024:=by
  have:=count_lt hx' (by rw [←at_nat (z:=0) hx'];exact ho)
  rw [hok.l1] at this
  rw [hok.cn]
  omega
 obtain ⟨a,b,c,d⟩:=free_spec (y:=0) hok.l2 hc hall 1024 (by omega)
 refine ⟨hc,hok.tk ⟨by omega,by omega⟩ ⟨by omega,by omega⟩,fun j hj=> ?_⟩
 have hj:=d j hj
 unfold Go.Proofs.YtlfjbnflfdnoaaaGreat.tk
 cases hb:tkB (x:Int) (freeF p.2 1024 f:Nat) p
 ·exact hj
 ·simp only [cond_true]
  rw [at_set_ne (by rw [Int.toNat_natCast];intro e;rw [e] at hj;rw [c] at hj;cases hj) (by omega)]
  exact hj
theorem P3Ok.all3 {n:Nat} {p:Pl} (hp:PlOk n p) (hn:n<=1024): ∀x,x<=n->P3Ok n (ps3 x (p,0))
 |0,_=>⟨hp,fun c hc=>absurd hc (Nat.not_lt_zero c)⟩
 |x+1,hx=>by
  have ih:=P3Ok.all3 hp hn x (by omega)
  simp only [ps3]
  by_cases ho:at' (0:Int) (ps3 x (p,0)).1.1 (x:Int)= -1
  ·rw [show (at' (0:Int) (ps3 x (p,0)).1.1 (x:Int) != -1)=false by rw [ho];rfl]
   exact (P3Ok.step (p:=(ps3 x (p,0)).1) (f:=(ps3 x (p,0)).2) ih hn (by omega) ho).2
  ·rw [show (at' (0:Int) (ps3 x (p,0)).1.1 (x:Int) != -1)=true from bne_iff_ne.2 ho]
   exact ih
noncomputable def plAsgA (L:List Runner) (m:Int):Ann T O:=annOf [(7, { σ:=Nat,st:=fun S x=>(((((S.keep [0,1,6,7,8,24,25]).gc 1).int 26 x).at' 6 (.arr 1 (ps1 L x (P0 L.length)).2 160)).atF 7 0 (.vec 0 (ps1 L x (P0 L.length)).1 3)),inv:=fun _ x=>x<=L.length,m:=fun x=>L.length-x }),(12, { σ:=Nat,st:=fun S x=>(((((S.keep [0,1,6,7,8,37,38]).gc 1).int 39 x).at' 6 (.arr 1 (ps2 L x (ps1 L L.length (P0 L.length))).2 160)).atF 7 0 (.vec 0 (ps2 L x (ps1 L L.length (P0 L.length))).1 3)),inv:=fun _ x=>x<=L.length,m:=fun x=>L.length-x }),(18, { σ:=Nat,st:=fun S x=>(((((((S.keep [0,1,6,7,8,50,51]).gc 1).int 52 x).int 13 (ps3 x (P2 L,0)).2).at' 6 (.arr 1 ((ps3 x (P2 L,0)).1).2 160)).atF 7 0 (.vec 0 ((ps3 x (P2 L,0)).1).1 3))),inv:=fun _ x=>x<=L.length,m:=fun x=>L.length-x }),(21, { σ:=Nat,st:=fun S x=>(S.keep [0,1,6,7,8,50,51,52,14]).int 13 x,inv:=fun S x=>(S.gi 13).toNat<=x/\ (∀c:Nat,c<x->at' false (S.gv 6 1) (c:Int)=true)/\ freeF (S.gv 6 1) 1024 (S.gi 13).toNat=freeF (S.gv 6 1) (1024+(S.gi 13).toNat-x) x,m:=fun x=>1024-x })] []
def plAsgText (L:List Runner) (m:Int):Prop:=let q1:=((↑L.length:Int)=(↑L.length:Int));let q4:=(True/\ (True/\ True));let q5:=((True/\ True)/\ True);(match (decide (L.length<=(140737488355328:Nat))) with|true=>(match (!chkA L m) with|true=>(match (chkA L m) with|true=>(((True/\ (((0:Int)=(1:Int))/\ True))/\ True)/\ ((L=L)/\ ((asgP L=[])/\ True)))|false=>((((Value.slice none (0:Nat) (0:Nat)=Value.slice none (0:Nat) (0:Nat))/\ (((1:Int)=(1:Int))/\ True))/\ True)/\ ((L=L)/\ True)))|false=>(match (decide ((1:Nat)=(1:Nat)/\ (0:Int)<=(↑L.length:Int)/\ (↑L.length:Int)<=(1024:Int))) with|true=>((∃x:Nat,let q6:=(ps1 L x (P0 L.length));((x.le L.length)/\ ((True/\ ((m=m)/\ (True/\ (True/\ (q4/\ (True/\ (q1/\ (((↑x:Int)=(0:Int))/\ True))))))))/\ ((L=L)/\ ((q6.snd=List.replicate (1024:Nat) false)/\ ((q6.fst=List.replicate (↑L.length:Int).toNat (at' (0:Int) [(-1:Int)] (0:Int)))/\ q5))))))/\ (∀x:Nat,let q6:=(ps1 L x (P0 L.length));let q8:=(at' runnerE.zero L (↑x:Int));((x.le L.length)->(match (decide ((↑x:Int)<(↑L.length:Int))) with|true=>(match (inb (↑x:Int) L.length) with|true=>(match (inb (↑x:Int) L.length) with|true=>(match (decide ((0:Int)<=(↑x:Int)/\ (↑x:Int)<(↑q6.fst.length:Int)/\ (-1:Int)<=q8.Pin/\ q8.Pin<(1024:Int)/\ q6.snd.length=(1024:Nat))) with|true=>(∃x':Nat,((x'.le L.length)/\ ((L.length-x'<L.length-x)/\ ((True/\ ((m=m)/\ (True/\ (True/\ (q4/\ (True/\ (q1/\ (((↑x':Int)=IntKind.i64.wrap ((↑x:Int)+(1:Int)))/\ True))))))))/\ ((L=L)/\ (((ps1 L x' (P0 L.length)).snd=(tk (↑x:Int) q8.Pin q6).snd)/\ (((ps1 L x' (P0 L.length)).fst=(tk (↑x:Int) q8.Pin q6).fst)/\ q5)))))))|false=>False)|false=>False)|false=>False)|false=>((∃x1:Nat,let q2:=(ps2 L x1 (ps1 L L.length (P0 L.length)));((x1.le L.length)/\ ((True/\ ((m=m)/\ (True/\ (True/\ (q4/\ (True/\ (q1/\ (((↑x1:Int)=(0:Int))/\ True))))))))/\ ((L=L)/\ ((q2.snd=q6.snd)/\ ((q2.fst=q6.fst)/\ q5))))))/\ (∀x1:Nat,let q2:=(ps2 L x1 (ps1 L L.length (P0 L.length)));let q7:=(at' runnerE.zero L (↑x1:Int));((x1.le L.length)->(match (decide ((↑x1:Int)<(↑L.length:Int))) with|true=>(match (inb (↑x1:Int) L.length) with|true=>(match (inb (↑x1:Int) L.length) with|true=>(match (decide ((0:Int)<=(↑x1:Int)/\ (↑x1:Int)<(↑q2.fst.length:Int)/\ (-1:Int)<=q7.Last/\ q7.Last<(1024:Int)/\ q2.snd.length=(1024:Nat))) with|true=>(∃x':Nat,((x'.le L.length)/\ ((L.length-x'<L.length-x1)/\ ((True/\ ((m=m)/\ (True/\ (True/\ (q4/\ (True/\ (q1/\ (((↑x':Int)=IntKind.i64.wrap ((↑x1:Int)+(1:Int)))/\ True))))))))/\ ((L=L)/\ (((ps2 L x' (ps1 L L.length (P0 L.length))).snd=(tk (↑x1:Int) q7.Last q2).snd)/\ (((ps2 L x' (ps1 L L.length (P0 L.length))).fst=(tk (↑x1:Int) q7.Last q2).fst)/\ q5)))))))|false=>False)|false=>False)|false=>False)|false=>((∃x2:Nat,let q0:=(ps3 x2 (P2 L,(0:Nat)));((x2.le L.length)/\ ((True/\ ((m=m)/\ (True/\ (True/\ (q4/\ (((↑q0.snd:Int)=(0:Int))/\ (True/\ (q1/\ (((↑x2:Int)=(0:Int))/\ True)))))))))/\ ((L=L)/\ ((q0.fst.snd=q2.snd)/\ ((q0.fst.fst=q2.fst)/\ q5))))))/\ (∀x2:Nat,let q0:=(ps3 x2 (P2 L,(0:Nat)));let q9:=(((↑x2:Int)=(↑x2:Int))/\ (True/\ (q1/\ (((↑x2:Int)=(↑x2:Int))/\ True))));let q12:=((L=L)/\ ((q0.fst.snd=q0.fst.snd)/\ ((q0.fst.fst=q0.fst.fst)/\ q5)));((x2.le L.length)->(match (decide ((↑x2:Int)<(↑L.length:Int))) with|true=>(match (inb (↑x2:Int) q0.fst.fst.length) with|true=>(match (inb (↑x2:Int) q0.fst.fst.length) with|true=>(match (at' (0:Int) q0.fst.fst (↑x2:Int) !=(-1:Int)) with|true=>(∃x':Nat,let q10:=(ps3 x' (P2 L,(0:Nat)));((x'.le L.length)/\ ((L.length-x'<L.length-x2)/\ ((True/\ ((m=m)/\ (True/\ (True/\ (q4/\ (((↑q10.snd:Int)=(↑q0.snd:Int))/\ (True/\ (q1/\ (((↑x':Int)=IntKind.i64.wrap ((↑x2:Int)+(1:Int)))/\ True)))))))))/\ ((L=L)/\ ((q10.fst.snd=q0.fst.snd)/\ ((q10.fst.fst=q0.fst.fst)/\ q5)))))))|false=>((∃x3:Nat,let q3:=(((↑q0.snd:Int).toNat<=x3)/\ ((∀c:Nat,((c<x3)->(at' false q0.fst.snd (↑c:Int)=true)))/\ (freeF q0.fst.snd (1024:Nat) (↑q0.snd:Int).toNat=freeF q0.fst.snd ((1024:Nat)+(↑q0.snd:Int).toNat-x3) x3)));(q3/\ ((True/\ ((m=m)/\ (True/\ (True/\ (q4/\ (((↑x3:Int)=(↑q0.snd:Int))/\ q9))))))/\ q12)))/\ (∀x3:Nat,let q3:=(((↑q0.snd:Int).toNat<=x3)/\ ((∀c:Nat,((c<x3)->(at' false q0.fst.snd (↑c:Int)=true)))/\ (freeF q0.fst.snd (1024:Nat) (↑q0.snd:Int).toNat=freeF q0.fst.snd ((1024:Nat)+(↑q0.snd:Int).toNat-x3) x3)));(q3->(match (q0.fst.snd.length==(1024:Nat)) with|true=>(match (inb (↑x3:Int) (1024:Nat)) with|true=>(match (inb (↑x3:Int) q0.fst.snd.length) with|true=>(match (at' false q0.fst.snd (↑x3:Int)) with|true=>(∃x':Nat,((((↑q0.snd:Int).toNat<=x')/\ ((∀c:Nat,((c<x')->(at' false q0.fst.snd (↑c:Int)=true)))/\ (freeF q0.fst.snd (1024:Nat) (↑q0.snd:Int).toNat=freeF q0.fst.snd ((1024:Nat)+(↑q0.snd:Int).toNat-x') x')))/\ (((1024:Nat)-x'<(1024:Nat)-x3)/\ ((True/\ ((m=m)/\ (True/\ (True/\ (q4/\ (((↑x':Int)=IntKind.i64.wrap ((↑x3:Int)+(1:Int)))/\ q9))))))/\ q12))))|false=>(match (decide ((0:Int)<=(↑x2:Int)/\ (↑x2:Int)<(↑q0.fst.fst.length:Int)/\ (-1:Int)<=(↑x3:Int)/\ (↑x3:Int)<(1024:Int)/\ q0.fst.snd.length=(1024:Nat))) with|true=>(∃x':Nat,let q11:=(ps3 x' (P2 L,(0:Nat)));((x'.le L.length)/\ ((L.length-x'<L.length-x2)/\ ((True/\ ((m=m)/\ (True/\ (True/\ (q4/\ (((↑q11.snd:Int)=(↑x3:Int))/\ (True/\ (q1/\ (((↑x':Int)=IntKind.i64.wrap ((↑x2:Int)+(1:Int)))/\ True)))))))))/\ ((L=L)/\ ((q11.fst.snd=(tk (↑x2:Int) (↑x3:Int) q0.fst).snd)/\ ((q11.fst.fst=(tk (↑x2:Int) (↑x3:Int) q0.fst).fst)/\ q5)))))))|false=>False))|false=>False)|false=>False)|false=>False)))))|false=>False)|false=>False)|false=>(match (chkA L m) with|true=>(((True/\ (((0:Int)=(0:Int))/\ True))/\ True)/\ ((L=L)/\ ((asgP L=q0.fst.fst)/\ True)))|false=>(((False/\ (((1:Int)=(0:Int))/\ True))/\ True)/\ ((L=L)/\ True)))))))))))))))|false=>False))|false=>False)
theorem plAsgVc (L:List Runner) (m:Int):fnX X37 ((plAsgA L m)) Tryz.f47 [.own 0, .raw (.int .i64 m)] [.ro 9 L] (endsIf (chkA L m) [.ro 9 L] ⟨some (.tup [.own 1, .raw (.int .i64 0)]),[(1,some (.vec 0 (asgP L) 3))]⟩ ⟨some (.tup [.raw (.slice none 0 0), .raw (.int .i64 1)]),[]⟩)=plAsgText L m:=by kernel_rfl
set_option maxRecDepth 40000 in
theorem plAsgHolds (L:List Runner) (m:Int) (hp:L.length<=140737488355328):plAsgText L m:=by
 unfold plAsgText
 conv=>zeta
 rw [decide_eq_true hp]
 cases hc:chkA L m
 ·repeat' first|exact rfl|exact True.intro|apply And.intro
 obtain ⟨⟨m1,m2,m3⟩,hin⟩:=chk_in hc
 have hin1: ∀r∈L,-1<=r.Pin/\ r.Pin<1024:=fun r hr=>by have:=(hin r hr).1;omega
 have hin2: ∀r∈L,-1<=r.Last/\ r.Last<1024:=fun r hr=>by have:=(hin r hr).2;omega
 have k1:=PlOk.ps1 hin1
 have k2:=PlOk.ps2 hin2 (k1 L.length (Nat.le_refl _))
 have k3:=P3Ok.all3 (n:=L.length) (p:=P2 L) (k2 L.length (Nat.le_refl _)) (by omega)
 have k0:List.replicate ((L.length:Int)).toNat (at' (0:Int) [(-1:Int)] (0:Int))=List.replicate L.length (-1):=by rw [Int.toNat_natCast];rfl
 rw [show decide ((1:Nat)=1/\ (0:Int)<=(L.length:Int)/\ (L.length:Int)<=1024)=true from decide_eq_true ⟨rfl,by omega,by omega⟩,k0]
 have e1:(ps1 L 0 (P0 L.length)).snd=List.replicate 1024 false:=by simp only [ps1]
 have e2:(ps1 L 0 (P0 L.length)).fst=List.replicate L.length (-1):=by simp only [ps1]
 refine ⟨⟨0,Nat.zero_le _,by repeat' first|exact e1|exact e2|exact True.intro|with_reducible rfl|apply And.intro|exact rfl⟩, ?_⟩
 intro x hx
 have hx:x<=L.length:=hx
 by_cases h:x<L.length
 ·have hw:=wrap_succ (x:=x) (n:=L.length) h hp
  have hr:=hin1 _ (List.getElem_mem h)
  have e:ps1 L (x+1) (P0 L.length)=tk (x:Int) (at' runnerE.zero L (x:Int)).Pin (ps1 L x (P0 L.length)):=rfl
  rw [dec_lt h,inb_nat h,(k1 x hx).l1,(k1 x hx).l2,show decide ((0:Int)<=(x:Int)/\ (x:Int)<(L.length:Int)/\ (-1:Int)<=(at' runnerE.zero L (x:Int)).Pin/\ (at' runnerE.zero L (x:Int)).Pin<1024/\ (1024:Nat)=1024)=true from decide_eq_true (by rw [at_nat h];exact ⟨by omega,by omega,hr.1,hr.2,rfl⟩),←e]
  exact ⟨x+1,by show x+1<=_;omega,by omega,by repeat' first|exact rfl|exact True.intro|exact hw.symm|apply And.intro⟩
 rw [dec_ge (by omega)]
 have ex:x=L.length:=by omega
 subst ex
 refine ⟨⟨0,Nat.zero_le _,by repeat' first|exact rfl|exact True.intro|apply And.intro⟩, ?_⟩
 intro x hx
 have hx:x<=L.length:=hx
 by_cases h:x<L.length
 ·have hw:=wrap_succ (x:=x) (n:=L.length) h hp
  have hr:=hin2 _ (List.getElem_mem h)
  have e:ps2 L (x+1) (ps1 L L.length (P0 L.length))=tk (x:Int) (at' runnerE.zero L (x:Int)).Last (ps2 L x (ps1 L L.length (P0 L.length))):=rfl
  rw [dec_lt h,inb_nat h,(k2 x hx).l1,(k2 x hx).l2,show decide ((0:Int)<=(x:Int)/\ (x:Int)<(L.length:Int)/\ (-1:Int)<=(at' runnerE.zero L (x:Int)).Last/\ (at' runnerE.zero L (x:Int)).Last<1024/\ (1024:Nat)=1024)=true from decide_eq_true (by rw [at_nat h];exact ⟨by omega,by omega,hr.1,hr.2,rfl⟩),←e]
  exact ⟨x+1,by show x+1<=_;omega,by omega,by repeat' first|exact rfl|exact True.intro|exact hw.symm|apply And.intro⟩
 rw [dec_ge (by omega)]
 have ex:x=L.length:=by omega
 subst ex
 refine ⟨⟨0,Nat.zero_le _,by repeat' first|exact rfl|exact True.intro|apply And.intro⟩, ?_⟩
 intro x hx
 have hx:x<=L.length:=hx
 have q3:=k3 x hx
 by_cases h:x<L.length
 ·have hw:=wrap_succ (x:=x) (n:=L.length) h hp
  have hstep:ps3 (x+1) (P2 L,0)=bif at' (0:Int) (ps3 x (P2 L,0)).1.1 (x:Int) != -1 then ps3 x (P2 L,0) else (tk (x:Int) (freeF (ps3 x (P2 L,0)).1.2 1024 (ps3 x (P2 L,0)).2:Nat) (ps3 x (P2 L,0)).1,freeF (ps3 x (P2 L,0)).1.2 1024 (ps3 x (P2 L,0)).2):=rfl
  rw [dec_lt h,q3.ok.l1,q3.ok.l2,inb_nat h]
  cases ho:at' (0:Int) (ps3 x (P2 L,0)).1.1 (x:Int) != -1
  ·have ho':at' (0:Int) (ps3 x (P2 L,0)).1.1 (x:Int)= -1:=by
    refine Classical.byContradiction fun q=> ?_
    rw [bne_iff_ne.2 q] at ho
    cases ho
   rw [ho] at hstep
   have hcn:=(P3Ok.step (p:=(ps3 x (P2 L,0)).1) (f:=(ps3 x (P2 L,0)).2) (n:=L.length) q3 (by omega) h ho').1
   have hfree:=free_spec (y:=0) q3.ok.l2 hcn q3.all 1024 (by omega)
   have hall:=q3.all
   have hl2:=q3.ok.l2
   generalize hq:ps3 x (P2 L,0)=q at*
   have hz:1024+q.2-q.2=1024:=by omega
   have z1:((q.2:Int)).toNat<=q.2:=by rw [Int.toNat_natCast];exact Nat.le_refl _
   have z2:freeF q.1.2 1024 ((q.2:Int)).toNat=freeF q.1.2 (1024+((q.2:Int)).toNat-q.2) q.2:=by rw [Int.toNat_natCast,hz]
   refine ⟨⟨q.2,⟨z1,hall,z2⟩,by repeat' first|exact True.intro|with_reducible rfl|apply And.intro⟩, ?_⟩
   intro y hy3
   have y1:=hy3.1
   have y2:=hy3.2.1
   have y3:=hy3.2.2
   clear hy3
   rw [Int.toNat_natCast] at y1 y3
   have hy:y<1024:=by
    have:=count_ge y2
    omega
   have hyi:inb (y:Int) 1024=true:=inb_iff.2 ⟨by omega,by omega⟩
   rw [hyi]
   obtain ⟨k,hk⟩: ∃k,1024+q.2-y=k+1:=⟨1024+q.2-y-1,by omega⟩
   rw [hk] at y3
   cases hA:at' false q.1.2 (y:Int)
   ·rw [free_succ _ k y,hA,cond_false] at y3
    rw [show decide ((0:Int)<=(x:Int)/\ (x:Int)<(L.length:Int)/\ (-1:Int)<=(y:Int)/\ (y:Int)<1024/\ (1024:Nat)=1024)=true from decide_eq_true ⟨by omega,by omega,by omega,by omega,rfl⟩]
    rw [y3,cond_false] at hstep
    refine ⟨x+1,by show x+1<=_;omega,by omega, ?_⟩
    rw [hstep]
    repeat' first|exact rfl|exact True.intro|exact hw.symm|apply And.intro
   ·rw [free_succ _ k y,hA,cond_true] at y3
    have hw2:IntKind.i64.wrap ((y:Int)+1)=((y+1:Nat):Int):=wrap_id (by omega) (by omega)
    refine ⟨y+1,⟨by rw [Int.toNat_natCast];omega,fun c hc=> ?_,by rw [Int.toNat_natCast,y3,show 1024+q.2-(y+1)=k by omega]⟩,by omega,by repeat' first|exact rfl|exact True.intro|exact hw2.symm|apply And.intro⟩
    by_cases e:c=y
    ·subst e;exact hA
    ·exact y2 c (by omega)
  ·rw [ho,cond_true] at hstep
   refine ⟨x+1,by show x+1<=_;omega,by omega, ?_⟩
   rw [hstep]
   repeat' first|exact rfl|exact True.intro|exact hw.symm|apply And.intro
 ·rw [dec_ge (by omega)]
  have ex:x=L.length:=by omega
  subst ex
  repeat' first|exact rfl|exact True.intro|apply And.intro
noncomputable def plAsgBCon:Con T O:=fun args cs=>match args,cs with
 |[.own 0, .raw (.int .i64 m)],[.ro 9 L]=>chk (decide (L.length<=140737488355328)) (.ite (chkA L m) (.ret ⟨some (.tup [.own 1, .raw (.int .i64 0)]),[(1,some (.vec 0 (asgP L) 3))]⟩) (.ret ⟨some (.tup [.raw (.slice none 0 0), .raw (.int .i64 1)]),[]⟩))
 |_,_=> .fail
theorem plAsgBOk:ConOk R Tryz.prog 47 plAsgBCon:=con_of_fn R (X37) (good (X37) rfl (TabOk.con R X37Ok)) mixed Tryz.call47 Tryz.func47 plAsgBCon (by
 intro args cs K h
 unfold plAsgBCon at h
 split at h
 ·rename_i m L
  rw [Tree.holds_chk] at h
  obtain ⟨hp,h⟩:=h
  refine ⟨(plAsgA L m),_,fun v S hv=>holds_if h v S hv, ?_⟩
  rw [plAsgVc L m]
  exact plAsgHolds L m (of_decide_eq_true hp)
 ·exact h.elim)
noncomputable def plAsgCon:Con T O:=relax 9 plAsgBCon
theorem plAsgOk:ConOk R Tryz.prog 47 plAsgCon:=relax_ok R 9 plAsgBOk
noncomputable def tab38:Tab T O:=(47,plAsgCon)::tab37
theorem tabOk38:TabOk R Tryz.prog tab38:=TabOk.cons R plAsgOk<|tabOk37
end Go.Proofs.YtlfjbnflfdnoaaaGreat
namespace Go.Proofs.YtlfjbnflfdnoaaaGreat
open Go.Sx Go.Proofs Classical
abbrev Rl:=List Int×List Int
def pins (L:List Runner):List Int:=L.map fun r=>r.Pin
def posI (l:List Int):List Int:=l.filter fun a=>decide (a>=0)
def rs2 (L:List Runner):Nat->Rl->Rl
 |0,p=>p
 |n+1,p=>bif decide (at' (0:Int) (rs2 L n p).1 (n:Int)<0)&&(decide ((at' rz L (n:Int)).Last>=0)&& !hasI (rs2 L n p).2 (at' rz L (n:Int)).Last) then ((rs2 L n p).1.set n (at' rz L (n:Int)).Last,(rs2 L n p).2++[(at' rz L (n:Int)).Last]) else rs2 L n p
def loopI (i:Int):Nat->Rl->Rl
 |0,p=>p
 |y+1,p=>bif decide (at' (0:Int) (loopI i y p).1 i<0)&& !hasI (loopI i y p).2 (y:Int) then ((loopI i y p).1.set i.toNat (y:Int),(loopI i y p).2++[(y:Int)]) else loopI i y p
def rs3 (m:Int):Nat->Rl->Rl
 |0,p=>p
 |n+1,p=>loopI (n:Int) m.toNat (rs3 m n p)
def R2 (L:List Runner):Rl:=rs2 L L.length (pins L,posI (pins L))
def asgR (L:List Runner) (m:Int):List Int:=(rs3 m L.length (R2 L)).1
theorem loopI_done {i:Int} {p:Rl} {y:Nat} (h: ¬at' (0:Int) (loopI i y p).1 i<0): ∀k,loopI i (y+k) p=loopI i y p
 |0=>rfl
 |k+1=>by
  have ih:=loopI_done h k
  rw [show y+(k+1)=(y+k)+1 by omega]
  simp only [loopI]
  rw [ih,decide_eq_false h]
  rfl
noncomputable def tab39:Tab T O:=tab38
theorem tabOk39:TabOk R Tryz.prog tab39:=tabOk38
noncomputable def X39:Ctx T O:= { X0 with con:=conOf tab39 }
theorem X39Ok:TabOk R X39.P tab39:=tabOk39
end Go.Proofs.YtlfjbnflfdnoaaaGreat
namespace Go.Proofs.YtlfjbnflfdnoaaaGreat
open Go.Sx Go.Proofs Classical
structure RP (p:Pl) (r:Rl):Prop where
 out:p.1=r.1
 tak: ∀c:Nat,c<1024->at' false p.2 (c:Int)=hasI r.2 (c:Int)
 lo: ∀a∈p.1,-1<=a
theorem hasI_app (l:List Int) (a c:Int):hasI (l++[a]) c=(hasI l c||(c==a)):=by
 unfold hasI
 rw [List.contains_append]
 by_cases h:c=a
 ·subst h;simp
 ·simp [h]
theorem at_mem {l:List Int} {i:Nat} (h:i<l.length):at' (0:Int) l (i:Int)∈l:=by rw [at_nat h];exact List.getElem_mem h
theorem RP.take {p:Pl} {r:Rl} (h:RP p r) {x:Nat} {c:Int} (hx:x<p.1.length) (hl:p.2.length=1024) (hc:0<=c/\ c<1024):RP (p.1.set x c,p.2.set c.toNat true) (r.1.set x c,r.2++[c]):=by
 refine ⟨by rw [h.out],fun d hd=> ?_,fun a ha=> ?_⟩
 ·rw [hasI_app,←h.tak d hd]
  by_cases e:(d:Int)=c
  ·have e2:d=c.toNat:=by omega
   subst e2
   rw [at_set_eq (by rw [hl];exact hd),show (((c.toNat:Nat):Int)==c)=true from beq_iff_eq.2 e]
   simp
  ·rw [at_set_ne (by omega) (by omega),show ((d:Int)==c)=false from beq_eq_false_iff_ne.2 e]
   simp
 ·rcases List.mem_or_eq_of_mem_set ha with h1|h1
  ·exact h.lo a h1
  ·omega
theorem pass1 {L:List Runner} {m:Int} (hc:chkA L m=true): ∀x,x<=L.length->(ps1 L x (P0 L.length)).1=pins (L.take x)++List.replicate (L.length-x) (-1)/\ ∀c:Nat,c<1024->at' false (ps1 L x (P0 L.length)).2 (c:Int)=hasI (posI (pins (L.take x))) (c:Int)
 |0,_=>⟨by simp [ps1,pins],fun c _=>by
   have:at' false (List.replicate 1024 false) (c:Int)=false:=at_rep
   exact this⟩
 |x+1,hx=>by
  have hx':x<L.length:=hx
  obtain ⟨a,b⟩:=pass1 hc x (by omega)
  obtain ⟨⟨m1,m2,m3⟩,hin⟩:=chk_in hc
  have hr:=(hin _ (List.getElem_mem hx')).1
  have hok:PlOk L.length (ps1 L x (P0 L.length)):=PlOk.ps1 (fun r hr=>by have:=(hin r hr).1;omega) x (by omega)
  have hpt:pins (L.take (x+1))=pins (L.take x)++[L[x].Pin]:=by unfold pins;rw [take_at hx',List.map_append];rfl
  have hpl:(pins (L.take x)).length=x:=by unfold pins;rw [List.length_map,List.length_take];omega
  have hrep:List.replicate (L.length-x) (-1:Int)= -1::List.replicate (L.length-(x+1)) (-1):=by
   rw [show L.length-x=(L.length-(x+1))+1 by omega,List.replicate_succ]
  have hox:at' (0:Int) (ps1 L x (P0 L.length)).1 (x:Int)= -1:=by
   rw [a,hrep]
   unfold at' List.getD
   rw [Int.toNat_natCast,List.getElem?_append_right (by omega),hpl,Nat.sub_self]
   rfl
  simp only [ps1]
  rw [show at' rz L (x:Int)=L[x] from at_nat hx']
  by_cases hp:L[x].Pin= -1
  ·have ht:tk (x:Int) L[x].Pin (ps1 L x (P0 L.length))=ps1 L x (P0 L.length):=by unfold tk tkB;rw [hp];rfl
   rw [ht,hpt,hp]
   refine ⟨by rw [a,hrep,List.append_assoc];rfl,fun c hcc=> ?_⟩
   rw [b c hcc]
   congr 1
   unfold posI
   rw [List.filter_append,List.filter_cons_of_neg (by decide)]
   exact (List.append_nil _).symm
  ·have hp0:0<=L[x].Pin:=by omega
   have hno:at' false (ps1 L x (P0 L.length)).2 L[x].Pin=false:=by
    have hb:=b L[x].Pin.toNat (by omega)
    rw [show ((L[x].Pin.toNat:Nat):Int)=L[x].Pin by omega] at hb
    rw [hb]
    cases hh:hasI (posI (pins (L.take x))) L[x].Pin
    ·rfl
    ·exfalso
     unfold hasI at hh
     rw [List.contains_iff_mem] at hh
     unfold posI pins at hh
     obtain ⟨h1,_⟩:=List.mem_filter.1 hh
     obtain ⟨q,hq,he⟩:=List.mem_map.1 h1
     unfold chkA at hc
     simp only [Bool.and_eq_true] at hc
     have h2:=okN_mono (show x+1<=L.length by omega) hc.2
     simp only [okN,Bool.and_eq_true] at h2
     rw [show at' rz L (x:Int)=L[x] from at_nat hx'] at h2
     have h3:=h2.2.2
     rw [List.any_eq_true.2 ⟨q,hq,by
      unfold clash
      rw [show (q.Pin==L[x].Pin)=true from beq_iff_eq.2 he,decide_eq_true hp0]
      simp⟩] at h3
     cases h3
   have ht:tk (x:Int) L[x].Pin (ps1 L x (P0 L.length))=((ps1 L x (P0 L.length)).1.set x L[x].Pin,(ps1 L x (P0 L.length)).2.set L[x].Pin.toNat true):=by
    unfold tk tkB
    rw [hox,hno,show (L[x].Pin != -1)=true from bne_iff_ne.2 hp]
    rfl
   rw [ht,hpt]
   refine ⟨?_,fun c hcc=> ?_⟩
   ·dsimp only
    rw [a,hrep,List.set_append_right _ _ (by omega),hpl,Nat.sub_self,List.append_assoc]
    rfl
   ·dsimp only
    have hps:posI (pins (L.take x)++[L[x].Pin])=posI (pins (L.take x))++[L[x].Pin]:=by
     unfold posI
     rw [List.filter_append];congr 1;exact List.filter_cons_of_pos (decide_eq_true hp0)
    rw [hps,hasI_app,←b c hcc]
    by_cases e:(c:Int)=L[x].Pin
    ·have e2:c=L[x].Pin.toNat:=by omega
     rw [show at' false ((ps1 L x (P0 L.length)).2.set L[x].Pin.toNat true) (c:Int)=true by
      rw [e2];exact at_set_eq (by rw [hok.l2];omega),show ((c:Int)==L[x].Pin)=true from beq_iff_eq.2 e]
     simp
    ·rw [at_set_ne (by omega) (by omega),show ((c:Int)==L[x].Pin)=false from beq_eq_false_iff_ne.2 e]
     simp
theorem pass2 {L:List Runner} (h: ∀r∈L,-1<=r.Last/\ r.Last<1024) {p:Pl} {r:Rl} (hp:PlOk L.length p) (hr:RP p r): ∀x,x<=L.length->RP (ps2 L x p) (rs2 L x r)
 |0,_=>hr
 |x+1,hx=>by
  have hx':x<L.length:=hx
  have ih:=pass2 h hp hr x (by omega)
  have hok:=PlOk.ps2 h hp x (by omega)
  have hl:=h _ (List.getElem_mem hx')
  have hxl:x<(ps2 L x p).1.length:=by rw [hok.l1];exact hx'
  have hlo:=ih.lo _ (at_mem hxl)
  simp only [ps2,rs2]
  rw [show at' rz L (x:Int)=L[x] from at_nat hx']
  unfold tk tkB
  rw [←ih.out]
  by_cases c1:at' (0:Int) (ps2 L x p).1 (x:Int)= -1
  ·rw [c1,show decide ((-1:Int)<0)=true from rfl,show ((-1:Int)== -1)=true from rfl]
   by_cases c2:L[x].Last= -1
   ·rw [c2]
    exact ih
   ·have c2':L[x].Last>=0:=by omega
    have ht:=ih.tak L[x].Last.toNat (by omega)
    rw [show ((L[x].Last.toNat:Nat):Int)=L[x].Last by omega] at ht
    rw [show (L[x].Last != -1)=true from bne_iff_ne.2 c2,decide_eq_true c2',ht]
    cases c3:hasI (rs2 L x r).2 L[x].Last
    ·have:=ih.take (c:=L[x].Last) hxl hok.l2 ⟨by omega,by omega⟩
     rw [←ih.out] at this
     exact this
    ·exact ih
  ·rw [show (at' (0:Int) (ps2 L x p).1 (x:Int)== -1)=false from beq_eq_false_iff_ne.2 c1,decide_eq_false (show ¬at' (0:Int) (ps2 L x p).1 (x:Int)<0 by omega),Bool.and_false]
   exact ih
theorem loop_free {p:Pl} {r:Rl} (h:RP p r) {x f M:Nat} (hx:x<p.1.length) (ho:at' (0:Int) p.1 (x:Int)= -1) (hf:f<1024) (hfM:f<M) (hall: ∀c,c<f->at' false p.2 (c:Int)=true) (hno:at' false p.2 (f:Int)=false):
  loopI (x:Int) M r=(r.1.set x f,r.2++[(f:Int)]):=by
 have h0: ∀y,y<=f->loopI (x:Int) y r=r:=by
  intro y
  induction y with
  |zero=>intro _;rfl
  |succ y ih=>
   intro hy
   simp only [loopI]
   rw [ih (by omega),←h.tak y (by omega),hall y (by omega)]
   simp
 have h1:loopI (x:Int) (f+1) r=(r.1.set x f,r.2++[(f:Int)]):=by
  simp only [loopI]
  rw [h0 f (Nat.le_refl _),←h.out,ho,←h.tak f hf,hno]
  rfl
 have h2: ¬at' (0:Int) (loopI (x:Int) (f+1) r).1 (x:Int)<0:=by
  rw [h1]
  dsimp only
  rw [at_set_eq (by rw [←h.out];exact hx)]
  omega
 have:=loopI_done h2 (M-(f+1))
 rw [show f+1+(M-(f+1))=M by omega,h1] at this
 exact this
theorem pass3 {n:Nat} {m:Int} (hm:m<=1024) (hnm:(n:Int)<=m) {p:Pl} {r:Rl} (hp:PlOk n p) (hr:RP p r): ∀x,x<=n->RP (ps3 x (p,0)).1 (rs3 m x r)
 |0,_=>hr
 |x+1,hx=>by
  have ih:=pass3 hm hnm hp hr x (by omega)
  have h3:=P3Ok.all3 hp (show n<=1024 by omega) x (by omega)
  have hxl:x<(ps3 x (p,0)).1.1.length:=by rw [h3.ok.l1];exact hx
  simp only [rs3]
  by_cases ho:at' (0:Int) (ps3 x (p,0)).1.1 (x:Int)= -1
  ·have hcnt:=count_lt hxl (by rw [←at_nat (z:=0) hxl];exact ho)
   rw [h3.ok.l1,←h3.ok.cn] at hcnt
   obtain ⟨a,b,c,d⟩:=free_spec (y:=0) h3.ok.l2 (by omega) h3.all 1024 (by omega)
   have hfm:=count_ge d
   have e:ps3 (x+1) (p,0)=(tk (x:Int) (freeF (ps3 x (p,0)).1.2 1024 (ps3 x (p,0)).2:Nat) (ps3 x (p,0)).1,freeF (ps3 x (p,0)).1.2 1024 (ps3 x (p,0)).2):=by
    simp only [ps3]
    rw [show (at' (0:Int) (ps3 x (p,0)).1.1 (x:Int) != -1)=false by rw [ho];rfl]
    rfl
   rw [e]
   generalize freeF (ps3 x (p,0)).1.2 1024 (ps3 x (p,0)).2=f at*
   rw [loop_free ih hxl ho a (by omega) d c]
   have ht:tk (x:Int) (f:Int) (ps3 x (p,0)).1=((ps3 x (p,0)).1.1.set x (f:Int),(ps3 x (p,0)).1.2.set ((f:Int)).toNat true):=by
    unfold tk tkB
    rw [ho,c,show ((f:Int) != -1)=true from bne_iff_ne.2 (by omega)]
    rfl
   rw [ht]
   exact ih.take hxl h3.ok.l2 ⟨by omega,by omega⟩
  ·have e:ps3 (x+1) (p,0)=ps3 x (p,0):=by
    simp only [ps3]
    rw [show (at' (0:Int) (ps3 x (p,0)).1.1 (x:Int) != -1)=true from bne_iff_ne.2 ho]
    rfl
   rw [e]
   have hlo:=ih.lo _ (at_mem hxl)
   have hd: ¬at' (0:Int) (loopI (x:Int) 0 (rs3 m x r)).1 (x:Int)<0:=by
    show ¬at' (0:Int) (rs3 m x r).1 (x:Int)<0
    rw [←ih.out]
    omega
   have:=loopI_done hd m.toNat
   rw [Nat.zero_add] at this
   rw [this]
   exact ih
theorem asg_eq {L:List Runner} {m:Int} (hc:chkA L m=true):asgR L m=asgP L:=by
 obtain ⟨⟨m1,m2,m3⟩,hin⟩:=chk_in hc
 have hin1: ∀r∈L,-1<=r.Pin/\ r.Pin<1024:=fun r hr=>by have:=(hin r hr).1;omega
 have hin2: ∀r∈L,-1<=r.Last/\ r.Last<1024:=fun r hr=>by have:=(hin r hr).2;omega
 have k1:=PlOk.ps1 hin1 L.length (Nat.le_refl _)
 obtain ⟨a,b⟩:=pass1 hc L.length (Nat.le_refl _)
 rw [List.take_length,Nat.sub_self,List.replicate_zero,List.append_nil] at a
 rw [List.take_length] at b
 have r1:RP (ps1 L L.length (P0 L.length)) (pins L,posI (pins L)):=⟨a,b,fun q hq=>by
  rw [a] at hq
  unfold pins at hq
  obtain ⟨r,hr,rfl⟩:=List.mem_map.1 hq
  exact (hin1 r hr).1⟩
 have r2:=pass2 hin2 k1 r1 L.length (Nat.le_refl _)
 have k2:=PlOk.ps2 hin2 k1 L.length (Nat.le_refl _)
 have r3:=pass3 m2 m3 k2 r2 L.length (Nat.le_refl _)
 exact r3.out.symm
structure EG where
 m:Int
 now:Int
 ts:List (Option Rnr)
 rq:eHS
 dq:vHS
 ev:List Ev
 nt:List Note
abbrev stp0:Stp:=⟨0,0,0,0,0,0,0,0,0,0,0,0,0,0,subZ⟩
abbrev rnr0:Rnr:=⟨⟨0,0,false,false,stp0,[],subZ,0⟩,0,false,0,0,0,0,0,0⟩
def rnAt (ts:List (Option Rnr)) (id:Int):Rnr:=(atO ts id).getD rnr0
def remU (s:eHS) (id:Int):eHS:=bif ethereB id s.2 then etakeH s (ewhereI id s.2).toNat else s
def dropU (s:vHS) (id kind:Int):vHS:=bif calendarRight id kind&&vthereB (calendarNumber id kind) s.2 then vtakeH s (vwhereI (calendarNumber id kind) s.2).toNat else s
def pushU (s:eHS) (id:Int) (x:Entry):eHS:=bif ethereB id s.2 then s else epushH s id x
def putU (s:vHS) (e:Ev):vHS:=bif calendarRight e.ID e.Kind&&decide (0<=e.At)&& !vthereB (calendarNumber e.ID e.Kind) s.2 then vpushH s (calendarNumber e.ID e.Kind) e else s
def entS (id:Int) (x:Sub):Entry:=⟨id,x.Index,x.Release,x.Deadline,x.Bit,x.Group⟩
theorem set_rnAt {ts:List (Option Rnr)} {id:Int} (h:(atO ts id).isSome=true):ts.set id.toNat (some (rnAt ts id))=ts:=by
 unfold rnAt
 unfold atO at*
 unfold List.getD at*
 cases hl:ts[id.toNat]? with
 |none=>rw [hl] at h;cases h
 |some q=>
  rw [hl] at h
  cases q with
  |none=>cases h
  |some t=>
   obtain ⟨hlt,he⟩:=List.getElem?_eq_some_iff.1 hl
   simp only [Option.getD_some]
   rw [←he]
   exact List.set_getElem_self hlt
theorem esinkN_length: ∀(n:Nat) (s:eHS) (i:Nat),(esinkN n s i).1.length=s.1.length
 |0,_,_=>rfl
 |n+1,s,i=>by
  simp only [esinkN]
  cases efirstAt s.1 i 2==i
  ·simp only [cond_false]
   rw [esinkN_length n]
   exact eswapL_length _ _ _
  ·rfl
theorem vsinkN_length: ∀(n:Nat) (s:vHS) (i:Nat),(vsinkN n s i).1.length=s.1.length
 |0,_,_=>rfl
 |n+1,s,i=>by
  simp only [vsinkN]
  cases vfirstAt s.1 i 2==i
  ·simp only [cond_false]
   rw [vsinkN_length n]
   exact vswapL_length _ _ _
  ·rfl
theorem etakeH_len (s:eHS) (i:Nat):(etakeH s i).1.length<=s.1.length:=by
 unfold etakeH
 cases decide (i<s.1.length-1)
 ·simp only [cond_false,List.length_take];omega
 ·simp only [cond_true]
  rw [esinkN_length,eriseN_length]
  simp only [List.length_take]
  omega
theorem vtakeH_len (s:vHS) (i:Nat):(vtakeH s i).1.length<=s.1.length:=by
 unfold vtakeH
 cases decide (i<s.1.length-1)
 ·simp only [cond_false,List.length_take];omega
 ·simp only [cond_true]
  rw [vsinkN_length,vriseN_length]
  simp only [List.length_take]
  omega
def filesG (g:EG) (id:Int):EG:=
 bif (atO g.ts id).isSome then
  bif someT (rnAt g.ts id).t.waits&&decide (whenT (rnAt g.ts id).t.early (rnAt g.ts id).t.waits<=g.now) then { g with rq:=pushU (remU g.rq id) id (entS id (headT (rnAt g.ts id).t.waits)),dq:=dropU g.dq id 0 }
  else bif someT (rnAt g.ts id).t.waits then { g with rq:=remU g.rq id,dq:=putU (dropU g.dq id 0) ⟨whenT (rnAt g.ts id).t.early (rnAt g.ts id).t.waits,id,0⟩ }
  else { g with rq:=remU g.rq id,dq:=dropU g.dq id 0 }
 else { g with rq:=remU g.rq id,dq:=dropU g.dq id 0 }
noncomputable def cs3 (m:Int) (now:Int) (ts:List (Option Rnr)) (RL:List EThing) (RM:List (Int×Int)) (DL:List VThing) (DM:List (Int×Int)) (ev:List Ev) (nt:List Note):List (Chunk T O):=[.tab [.raw (.int .i64 m), .raw (.int .i64 now)] 0 64 (ts) none [.ptr 1 0, .ptr 2 0, .own 3, .own 4] 105, .cells [.fn 40 [], .own 5, .own 6] 146, .cells [.ptr 7 0] 156, .vec 4 ev 151, .que 7 nt 84, .vec 5 RL 200, .map 0 RM, .cells [.fn 83 [], .own 8, .own 9] 198, .vec 6 DL 242, .map 0 DM]
noncomputable def filesCE0 (m:Int) (now:Int) (ts:List (Option Rnr)) (RL:List EThing) (RM:List (Int×Int)) (DL:List VThing) (DM:List (Int×Int)) (ev:List Ev) (nt:List Note) (id:Int):Eff T O:=⟨some (.tup []),[(0,some (.tab [.raw (.int .i64 ((filesG ⟨m,now,ts,(RL,RM),(DL,DM),ev,nt⟩ id).m)), .raw (.int .i64 ((filesG ⟨m,now,ts,(RL,RM),(DL,DM),ev,nt⟩ id).now))] 0 64 ((filesG ⟨m,now,ts,(RL,RM),(DL,DM),ev,nt⟩ id).ts) none [.ptr 1 0, .ptr 2 0, .own 10, .own 11] 105)),(1,some (.cells [.fn 40 [], .own 12, .own 6] 146)),(3,none),(4,none),(5,none),(6,some (.map 0 (filesG ⟨m,now,ts,(RL,RM),(DL,DM),ev,nt⟩ id).rq.2)),(7,some (.cells [.fn 83 [], .own 13, .own 9] 198)),(8,none),(9,some (.map 0 (filesG ⟨m,now,ts,(RL,RM),(DL,DM),ev,nt⟩ id).dq.2)),(10,some (.vec 4 (filesG ⟨m,now,ts,(RL,RM),(DL,DM),ev,nt⟩ id).ev 151)),(11,some (.que 7 (filesG ⟨m,now,ts,(RL,RM),(DL,DM),ev,nt⟩ id).nt 84)),(12,some (.vec 5 (filesG ⟨m,now,ts,(RL,RM),(DL,DM),ev,nt⟩ id).rq.1 200)),(13,some (.vec 6 (filesG ⟨m,now,ts,(RL,RM),(DL,DM),ev,nt⟩ id).dq.1 242))]⟩
def filesCText (m now:Int) (ts:List (Option Rnr)) (RL:List EThing) (RM:List (Int×Int)) (DL:List VThing) (DM:List (Int×Int)) (ev:List Ev) (nt:List Note) (id:Int):Prop:=let q0:=(filesG (EG.mk m now ts (RL,RM) (DL,DM) ev nt) id);let q4:=(True/\ (True/\ (True/\ True)));let q3:=((atO ts id).getD rnrL.zero);let q1:=(((q0.m=m)/\ ((q0.now=now)/\ True))/\ ((q0.ts=ts.set id.toNat (some q3))/\ ((True/\ q4)/\ True)));let q11:=(calendarNumber id (0:Int));let q2:=(vtakeH (DL,DM) (vwhereI q11 DM).toNat);let q5:=(etakeH (RL,RM) (ewhereI id RM).toNat);let q20:=((0:Int)<=whenT q3.t.early q3.t.waits);let q25:=(calendarRight id (0:Int)&&decide q20&& !vthereB q11 q2.snd);let q16:=(Ev.mk (whenT q3.t.early q3.t.waits) id (0:Int));let q21:=((q0.dq.fst=q2.fst)/\ True);let q12:=(q4/\ ((True/\ True)/\ ((q0.rq.snd=q5.snd)/\ (q4/\ ((q0.dq.snd=q2.snd)/\ ((q0.ev=ev)/\ ((q0.nt=nt)/\ ((q0.rq.fst=q5.fst)/\ q21))))))));let q6:=(match (someT q3.t.waits) with|true=>(match (decide (q2.fst.length<=(1000:Nat))) with|true=>(match q25 with|true=>((True/\ True)/\ (q1/\ (q4/\ ((True/\ True)/\ ((q0.rq.snd=q5.snd)/\ (q4/\ ((q0.dq.snd=(vpushH q2 q11 q16).snd)/\ ((q0.ev=ev)/\ ((q0.nt=nt)/\ ((q0.rq.fst=q5.fst)/\ ((q0.dq.fst=(vpushH q2 q11 q16).fst)/\ True)))))))))))|false=>((True/\ True)/\ (q1/\ q12)))|false=>False)|false=>((True/\ True)/\ (q1/\ q12)));let q23:=(vpushH (DL,DM) q11 q16);let q26:=(calendarRight id (0:Int)&&decide q20&& !vthereB q11 DM);let q22:=((q0.dq.fst=DL)/\ True);let q13:=(q4/\ ((True/\ True)/\ ((q0.rq.snd=q5.snd)/\ (q4/\ ((q0.dq.snd=DM)/\ ((q0.ev=ev)/\ ((q0.nt=nt)/\ ((q0.rq.fst=q5.fst)/\ q22))))))));let q7:=(match (someT q3.t.waits) with|true=>(match (decide (DL.length<=(1000:Nat))) with|true=>(match q26 with|true=>((True/\ True)/\ (q1/\ (q4/\ ((True/\ True)/\ ((q0.rq.snd=q5.snd)/\ (q4/\ ((q0.dq.snd=q23.snd)/\ ((q0.ev=ev)/\ ((q0.nt=nt)/\ ((q0.rq.fst=q5.fst)/\ ((q0.dq.fst=q23.fst)/\ True)))))))))))|false=>((True/\ True)/\ (q1/\ q13)))|false=>False)|false=>((True/\ True)/\ (q1/\ q13)));let q14:=(q4/\ ((True/\ True)/\ ((q0.rq.snd=RM)/\ (q4/\ ((q0.dq.snd=q2.snd)/\ ((q0.ev=ev)/\ ((q0.nt=nt)/\ ((q0.rq.fst=RL)/\ q21))))))));let q8:=(match (someT q3.t.waits) with|true=>(match (decide (q2.fst.length<=(1000:Nat))) with|true=>(match q25 with|true=>((True/\ True)/\ (q1/\ (q4/\ ((True/\ True)/\ ((q0.rq.snd=RM)/\ (q4/\ ((q0.dq.snd=(vpushH q2 q11 q16).snd)/\ ((q0.ev=ev)/\ ((q0.nt=nt)/\ ((q0.rq.fst=RL)/\ ((q0.dq.fst=(vpushH q2 q11 q16).fst)/\ True)))))))))))|false=>((True/\ True)/\ (q1/\ q14)))|false=>False)|false=>((True/\ True)/\ (q1/\ q14)));let q15:=(q4/\ ((True/\ True)/\ ((q0.rq.snd=RM)/\ (q4/\ ((q0.dq.snd=DM)/\ ((q0.ev=ev)/\ ((q0.nt=nt)/\ ((q0.rq.fst=RL)/\ q22))))))));let q9:=(match (someT q3.t.waits) with|true=>(match (decide (DL.length<=(1000:Nat))) with|true=>(match q26 with|true=>((True/\ True)/\ (q1/\ (q4/\ ((True/\ True)/\ ((q0.rq.snd=RM)/\ (q4/\ ((q0.dq.snd=q23.snd)/\ ((q0.ev=ev)/\ ((q0.nt=nt)/\ ((q0.rq.fst=RL)/\ ((q0.dq.fst=q23.fst)/\ True)))))))))))|false=>((True/\ True)/\ (q1/\ q15)))|false=>False)|false=>((True/\ True)/\ (q1/\ q15)));let q10:=(Entry.mk id (headT q3.t.waits).Index (headT q3.t.waits).Release (headT q3.t.waits).Deadline (headT q3.t.waits).Bit (headT q3.t.waits).Group);let q17:=(((q0.m=m)/\ ((q0.now=now)/\ True))/\ ((q0.ts=ts)/\ ((True/\ q4)/\ True)));let q18:=(decide (DL.length<=(1000:Nat)/\ (vthereB q11 DM=true->(0:Int)<=vwhereI q11 DM/\ vwhereI q11 DM<(↑DL.length:Int))));let q19:=(decide (whenT q3.t.early q3.t.waits<=now));let q24:=(epushH (RL,RM) id q10);(match (decide (RL.length<=(1000:Nat)/\ (ethereB id RM=true->(0:Int)<=ewhereI id RM/\ ewhereI id RM<(↑RL.length:Int)))) with|true=>(match (ethereB id RM) with|true=>(match q18 with|true=>(match (calendarRight id (0:Int)&&vthereB q11 DM) with|true=>(match (inb id (64:Nat)) with|true=>(match (inb id (64:Nat)) with|true=>(match ((atO ts id).isSome) with|true=>(match (someT q3.t.waits) with|true=>(match q19 with|true=>(match (decide (q5.fst.length<=(1000:Nat))) with|true=>(match (ethereB id q5.snd) with|true=>((True/\ True)/\ (q1/\ q12))|false=>((True/\ True)/\ (q1/\ (q4/\ ((True/\ True)/\ ((q0.rq.snd=(epushH q5 id q10).snd)/\ (q4/\ ((q0.dq.snd=q2.snd)/\ ((q0.ev=ev)/\ ((q0.nt=nt)/\ ((q0.rq.fst=(epushH q5 id q10).fst)/\ q21)))))))))))|false=>False)|false=>q6)|false=>q6)|false=>((True/\ True)/\ (q17/\ q12)))|false=>False)|false=>False)|false=>(match (inb id (64:Nat)) with|true=>(match (inb id (64:Nat)) with|true=>(match ((atO ts id).isSome) with|true=>(match (someT q3.t.waits) with|true=>(match q19 with|true=>(match (decide (q5.fst.length<=(1000:Nat))) with|true=>(match (ethereB id q5.snd) with|true=>((True/\ True)/\ (q1/\ q13))|false=>((True/\ True)/\ (q1/\ (q4/\ ((True/\ True)/\ ((q0.rq.snd=(epushH q5 id q10).snd)/\ (q4/\ ((q0.dq.snd=DM)/\ ((q0.ev=ev)/\ ((q0.nt=nt)/\ ((q0.rq.fst=(epushH q5 id q10).fst)/\ q22)))))))))))|false=>False)|false=>q7)|false=>q7)|false=>((True/\ True)/\ (q17/\ q13)))|false=>False)|false=>False))|false=>False)|false=>(match q18 with|true=>(match (calendarRight id (0:Int)&&vthereB q11 DM) with|true=>(match (inb id (64:Nat)) with|true=>(match (inb id (64:Nat)) with|true=>(match ((atO ts id).isSome) with|true=>(match (someT q3.t.waits) with|true=>(match q19 with|true=>(match (decide (RL.length<=(1000:Nat))) with|true=>(match (ethereB id RM) with|true=>((True/\ True)/\ (q1/\ q14))|false=>((True/\ True)/\ (q1/\ (q4/\ ((True/\ True)/\ ((q0.rq.snd=q24.snd)/\ (q4/\ ((q0.dq.snd=q2.snd)/\ ((q0.ev=ev)/\ ((q0.nt=nt)/\ ((q0.rq.fst=q24.fst)/\ q21)))))))))))|false=>False)|false=>q8)|false=>q8)|false=>((True/\ True)/\ (q17/\ q14)))|false=>False)|false=>False)|false=>(match (inb id (64:Nat)) with|true=>(match (inb id (64:Nat)) with|true=>(match ((atO ts id).isSome) with|true=>(match (someT q3.t.waits) with|true=>(match q19 with|true=>(match (decide (RL.length<=(1000:Nat))) with|true=>(match (ethereB id RM) with|true=>((True/\ True)/\ (q1/\ q15))|false=>((True/\ True)/\ (q1/\ (q4/\ ((True/\ True)/\ ((q0.rq.snd=q24.snd)/\ (q4/\ ((q0.dq.snd=DM)/\ ((q0.ev=ev)/\ ((q0.nt=nt)/\ ((q0.rq.fst=q24.fst)/\ q22)))))))))))|false=>False)|false=>q9)|false=>q9)|false=>((True/\ True)/\ (q17/\ q15)))|false=>False)|false=>False))|false=>False))|false=>False)
theorem filesCVc (m now:Int) (ts:List (Option Rnr)) (RL:List EThing) (RM:List (Int×Int)) (DL:List VThing) (DM:List (Int×Int)) (ev:List Ev) (nt:List Note) (id:Int):fnX X39 (annOf [] [] [] [5]) Tryz.f52 [.ptr 0 0, .raw (.int .i64 id)] (cs3 m now ts RL RM DL DM ev nt) (ends (cs3 m now ts RL RM DL DM ev nt) (filesCE0 m now ts RL RM DL DM ev nt id))=filesCText m now ts RL RM DL DM ev nt id:=by kernel_rfl
theorem filesCHolds (m now:Int) (ts:List (Option Rnr)) (RL:List EThing) (RM:List (Int×Int)) (DL:List VThing) (DM:List (Int×Int)) (ev:List Ev) (nt:List Note) (id:Int) (hp:0<=id/\ id<64/\ ts.length=64/\ RL.length<=999/\ DL.length<=999/\ (ethereB id RM=true->0<=ewhereI id RM/\ ewhereI id RM<RL.length)/\ (vthereB (calendarNumber id 0) DM=true->0<=vwhereI (calendarNumber id 0) DM/\ vwhereI (calendarNumber id 0) DM<DL.length)):filesCText m now ts RL RM DL DM ev nt id:=by
 unfold filesCText
 conv=>zeta
 obtain ⟨i0,i1,hts,hRL,hDL,hE,hV⟩:=hp
 have hi:inb id 64=true:=inb_iff.2 ⟨i0,i1⟩
 have hz:(atO ts id).getD rnrL.zero=rnAt ts id:=rfl
 have hset:(atO ts id).isSome=true->ts=ts.set id.toNat (some (rnAt ts id)):=fun h=>(set_rnAt h).symm
 have l1:=etakeH_len (RL,RM) (ewhereI id RM).toNat
 have l2:=vtakeH_len (DL,DM) (vwhereI (calendarNumber id 0) DM).toNat
 unfold filesG remU dropU pushU putU
 dsimp only at l1 l2 ⊢
 rw [decide_eq_true (show RL.length<=1000/\ (ethereB id RM=true->0<=ewhereI id RM/\ ewhereI id RM<RL.length) from ⟨by omega,hE⟩),decide_eq_true (show DL.length<=1000/\ (vthereB (calendarNumber id 0) DM=true->0<=vwhereI (calendarNumber id 0) DM/\ vwhereI (calendarNumber id 0) DM<DL.length) from ⟨by omega,hV⟩),hi,hz,
  decide_eq_true (show (etakeH (RL,RM) (ewhereI id RM).toNat).1.length<=1000 by omega),decide_eq_true (show (vtakeH (DL,DM) (vwhereI (calendarNumber id 0) DM).toNat).1.length<=1000 by omega)]
 try rw [decide_eq_true (show RL.length<=1000 by omega),decide_eq_true (show DL.length<=1000 by omega)]
 generalize rnAt ts id=t at*
 cases a1:ethereB id RM<;>cases a2:(calendarRight id 0&&vthereB (calendarNumber id 0) DM)<;>cases a3:(atO ts id).isSome
 all_goals (try have hset:=hset a3)
 all_goals try (cases a4:someT t.t.waits<;>cases a5:decide (whenT t.t.early t.t.waits<=now))
 all_goals (try simp only [a1,a2,cond_true,cond_false,Bool.and_true,Bool.and_false,Bool.true_and])
 all_goals first
  |((repeat' first|exact True.intro|with_reducible rfl|exact hset|apply And.intro|exact rfl);done)
  |(cases a6:ethereB id (etakeH (RL,RM) (ewhereI id RM).toNat).2<;>(repeat' first|exact True.intro|with_reducible rfl|exact hset|apply And.intro|exact rfl);done)
  |(cases a7:(calendarRight id 0&&decide (0<=whenT t.t.early t.t.waits)&& !vthereB (calendarNumber id 0) (vtakeH (DL,DM) (vwhereI (calendarNumber id 0) DM).toNat).2)<;>(repeat' first|exact True.intro|with_reducible rfl|exact hset|apply And.intro|exact rfl);done)
  |(cases a7:(calendarRight id 0&&decide (0<=whenT t.t.early t.t.waits)&& !vthereB (calendarNumber id 0) DM)<;>(repeat' first|exact True.intro|with_reducible rfl|exact hset|apply And.intro|exact rfl);done)
set_option maxHeartbeats 4000000 in
noncomputable def filesCCon:Con T O:=fun args cs=>match args,cs with
 |[.ptr 0 0, .raw (.int .i64 id)],[.tab [.raw (.int .i64 m), .raw (.int .i64 now)] 0 64 (ts) none [.ptr 1 0, .ptr 2 0, .own 3, .own 4] 105, .cells [.fn 40 [], .own 5, .own 6] 146, .cells [.ptr 7 0] 156, .vec 4 ev 151, .que 7 nt 84, .vec 5 RL 200, .map 0 RM, .cells [.fn 83 [], .own 8, .own 9] 198, .vec 6 DL 242, .map 0 DM]=>chk (decide (0<=id/\ id<64/\ ts.length=64/\ RL.length<=999/\ DL.length<=999/\ (ethereB id RM=true->0<=ewhereI id RM/\ ewhereI id RM<RL.length)/\ (vthereB (calendarNumber id 0) DM=true->0<=vwhereI (calendarNumber id 0) DM/\ vwhereI (calendarNumber id 0) DM<DL.length))) (.ret (filesCE0 m now ts RL RM DL DM ev nt id))
 |_,_=> .fail
theorem filesCOk:ConOk R Tryz.prog 52 filesCCon:=con_of_fn R (X39) (good (X39) rfl (TabOk.con R X39Ok)) mixed Tryz.call52 Tryz.func52 filesCCon (by
 intro args cs K h
 unfold filesCCon at h
 split at h
 ·rename_i id m now ts ev nt RL RM DL DM
  rw [Tree.holds_chk] at h
  obtain ⟨hp,h⟩:=h
  refine ⟨annOf [] [] [] [5],_,fun v S hv=>⟨_,h,hv⟩, ?_⟩
  have hv:=filesCVc m now ts RL RM DL DM ev nt id
  unfold cs3 at hv
  rw [hv]
  exact filesCHolds m now ts RL RM DL DM ev nt id (of_decide_eq_true hp)
 ·exact h.elim)
noncomputable def tab40:Tab T O:=(52,filesCCon)::tab39
theorem tabOk40:TabOk R Tryz.prog tab40:=TabOk.cons R filesCOk<|tabOk39
noncomputable def X40:Ctx T O:= { X0 with con:=conOf tab40 }
theorem X40Ok:TabOk R X40.P tab40:=tabOk40
end Go.Proofs.YtlfjbnflfdnoaaaGreat
namespace Go.Proofs.YtlfjbnflfdnoaaaGreat
open Go.Sx Go.Proofs Classical
def len64 (a0:Int):Int:=(match (decide (a0>=(4294967296:Int))) with|true=>(match (decide (a0.fdiv ((2:Int)^min (Int.toNat (32:Int)) IntKind.u64.bits)>=(65536:Int))) with|true=>(match (decide ((a0.fdiv ((2:Int)^min (Int.toNat (32:Int)) IntKind.u64.bits)).fdiv ((2:Int)^min (Int.toNat (16:Int)) IntKind.u64.bits)>=(256:Int))) with|true=>(match (inb (IntKind.u8.wrap (((a0.fdiv ((2:Int)^min (Int.toNat (32:Int)) IntKind.u64.bits)).fdiv ((2:Int)^min (Int.toNat (16:Int)) IntKind.u64.bits)).fdiv ((2:Int)^min (Int.toNat (8:Int)) IntKind.u64.bits))) ((((0:UInt8)::(1:UInt8)::(2:UInt8)::(2:UInt8)::(3:UInt8)::(3:UInt8)::(3:UInt8)::(3:UInt8)::(4:UInt8)::(4:UInt8)::(4:UInt8)::(4:UInt8)::(4:UInt8)::(4:UInt8)::(4:UInt8)::(4:UInt8)::(5:UInt8)::(5:UInt8)::(5:UInt8)::(5:UInt8)::(5:UInt8)::(5:UInt8)::(5:UInt8)::(5:UInt8)::(5:UInt8)::(5:UInt8)::(5:UInt8)::(5:UInt8)::(5:UInt8)::(5:UInt8)::(5:UInt8)::(5:UInt8)::List.replicate (32:Nat) (6:UInt8)).append (List.replicate (64:Nat) (7:UInt8))).append ((List.replicate (64:Nat) (8:UInt8)).append (List.replicate (64:Nat) (8:UInt8)))).toArray.size) with|true=>(IntKind.i64.wrap (IntKind.i64.wrap (IntKind.i64.wrap ((32:Int)+(16:Int))+(8:Int))+IntKind.i64.wrap (strAt (ByteArray.mk ((((0:UInt8)::(1:UInt8)::(2:UInt8)::(2:UInt8)::(3:UInt8)::(3:UInt8)::(3:UInt8)::(3:UInt8)::(4:UInt8)::(4:UInt8)::(4:UInt8)::(4:UInt8)::(4:UInt8)::(4:UInt8)::(4:UInt8)::(4:UInt8)::(5:UInt8)::(5:UInt8)::(5:UInt8)::(5:UInt8)::(5:UInt8)::(5:UInt8)::(5:UInt8)::(5:UInt8)::(5:UInt8)::(5:UInt8)::(5:UInt8)::(5:UInt8)::(5:UInt8)::(5:UInt8)::(5:UInt8)::(5:UInt8)::List.replicate (32:Nat) (6:UInt8)).append (List.replicate (64:Nat) (7:UInt8))).append ((List.replicate (64:Nat) (8:UInt8)).append (List.replicate (64:Nat) (8:UInt8)))).toArray) (IntKind.u8.wrap (((a0.fdiv ((2:Int)^min (Int.toNat (32:Int)) IntKind.u64.bits)).fdiv ((2:Int)^min (Int.toNat (16:Int)) IntKind.u64.bits)).fdiv ((2:Int)^min (Int.toNat (8:Int)) IntKind.u64.bits))))))|false=>0)|false=>(match (inb (IntKind.u8.wrap ((a0.fdiv ((2:Int)^min (Int.toNat (32:Int)) IntKind.u64.bits)).fdiv ((2:Int)^min (Int.toNat (16:Int)) IntKind.u64.bits))) ((((0:UInt8)::(1:UInt8)::(2:UInt8)::(2:UInt8)::(3:UInt8)::(3:UInt8)::(3:UInt8)::(3:UInt8)::(4:UInt8)::(4:UInt8)::(4:UInt8)::(4:UInt8)::(4:UInt8)::(4:UInt8)::(4:UInt8)::(4:UInt8)::(5:UInt8)::(5:UInt8)::(5:UInt8)::(5:UInt8)::(5:UInt8)::(5:UInt8)::(5:UInt8)::(5:UInt8)::(5:UInt8)::(5:UInt8)::(5:UInt8)::(5:UInt8)::(5:UInt8)::(5:UInt8)::(5:UInt8)::(5:UInt8)::List.replicate (32:Nat) (6:UInt8)).append (List.replicate (64:Nat) (7:UInt8))).append ((List.replicate (64:Nat) (8:UInt8)).append (List.replicate (64:Nat) (8:UInt8)))).toArray.size) with|true=>(IntKind.i64.wrap (IntKind.i64.wrap ((32:Int)+(16:Int))+IntKind.i64.wrap (strAt (ByteArray.mk ((((0:UInt8)::(1:UInt8)::(2:UInt8)::(2:UInt8)::(3:UInt8)::(3:UInt8)::(3:UInt8)::(3:UInt8)::(4:UInt8)::(4:UInt8)::(4:UInt8)::(4:UInt8)::(4:UInt8)::(4:UInt8)::(4:UInt8)::(4:UInt8)::(5:UInt8)::(5:UInt8)::(5:UInt8)::(5:UInt8)::(5:UInt8)::(5:UInt8)::(5:UInt8)::(5:UInt8)::(5:UInt8)::(5:UInt8)::(5:UInt8)::(5:UInt8)::(5:UInt8)::(5:UInt8)::(5:UInt8)::(5:UInt8)::List.replicate (32:Nat) (6:UInt8)).append (List.replicate (64:Nat) (7:UInt8))).append ((List.replicate (64:Nat) (8:UInt8)).append (List.replicate (64:Nat) (8:UInt8)))).toArray) (IntKind.u8.wrap ((a0.fdiv ((2:Int)^min (Int.toNat (32:Int)) IntKind.u64.bits)).fdiv ((2:Int)^min (Int.toNat (16:Int)) IntKind.u64.bits))))))|false=>0))|false=>(match (decide (a0.fdiv ((2:Int)^min (Int.toNat (32:Int)) IntKind.u64.bits)>=(256:Int))) with|true=>(match (inb (IntKind.u8.wrap ((a0.fdiv ((2:Int)^min (Int.toNat (32:Int)) IntKind.u64.bits)).fdiv ((2:Int)^min (Int.toNat (8:Int)) IntKind.u64.bits))) ((((0:UInt8)::(1:UInt8)::(2:UInt8)::(2:UInt8)::(3:UInt8)::(3:UInt8)::(3:UInt8)::(3:UInt8)::(4:UInt8)::(4:UInt8)::(4:UInt8)::(4:UInt8)::(4:UInt8)::(4:UInt8)::(4:UInt8)::(4:UInt8)::(5:UInt8)::(5:UInt8)::(5:UInt8)::(5:UInt8)::(5:UInt8)::(5:UInt8)::(5:UInt8)::(5:UInt8)::(5:UInt8)::(5:UInt8)::(5:UInt8)::(5:UInt8)::(5:UInt8)::(5:UInt8)::(5:UInt8)::(5:UInt8)::List.replicate (32:Nat) (6:UInt8)).append (List.replicate (64:Nat) (7:UInt8))).append ((List.replicate (64:Nat) (8:UInt8)).append (List.replicate (64:Nat) (8:UInt8)))).toArray.size) with|true=>(IntKind.i64.wrap (IntKind.i64.wrap ((32:Int)+(8:Int))+IntKind.i64.wrap (strAt (ByteArray.mk ((((0:UInt8)::(1:UInt8)::(2:UInt8)::(2:UInt8)::(3:UInt8)::(3:UInt8)::(3:UInt8)::(3:UInt8)::(4:UInt8)::(4:UInt8)::(4:UInt8)::(4:UInt8)::(4:UInt8)::(4:UInt8)::(4:UInt8)::(4:UInt8)::(5:UInt8)::(5:UInt8)::(5:UInt8)::(5:UInt8)::(5:UInt8)::(5:UInt8)::(5:UInt8)::(5:UInt8)::(5:UInt8)::(5:UInt8)::(5:UInt8)::(5:UInt8)::(5:UInt8)::(5:UInt8)::(5:UInt8)::(5:UInt8)::List.replicate (32:Nat) (6:UInt8)).append (List.replicate (64:Nat) (7:UInt8))).append ((List.replicate (64:Nat) (8:UInt8)).append (List.replicate (64:Nat) (8:UInt8)))).toArray) (IntKind.u8.wrap ((a0.fdiv ((2:Int)^min (Int.toNat (32:Int)) IntKind.u64.bits)).fdiv ((2:Int)^min (Int.toNat (8:Int)) IntKind.u64.bits))))))|false=>0)|false=>(match (inb (IntKind.u8.wrap (a0.fdiv ((2:Int)^min (Int.toNat (32:Int)) IntKind.u64.bits))) ((((0:UInt8)::(1:UInt8)::(2:UInt8)::(2:UInt8)::(3:UInt8)::(3:UInt8)::(3:UInt8)::(3:UInt8)::(4:UInt8)::(4:UInt8)::(4:UInt8)::(4:UInt8)::(4:UInt8)::(4:UInt8)::(4:UInt8)::(4:UInt8)::(5:UInt8)::(5:UInt8)::(5:UInt8)::(5:UInt8)::(5:UInt8)::(5:UInt8)::(5:UInt8)::(5:UInt8)::(5:UInt8)::(5:UInt8)::(5:UInt8)::(5:UInt8)::(5:UInt8)::(5:UInt8)::(5:UInt8)::(5:UInt8)::List.replicate (32:Nat) (6:UInt8)).append (List.replicate (64:Nat) (7:UInt8))).append ((List.replicate (64:Nat) (8:UInt8)).append (List.replicate (64:Nat) (8:UInt8)))).toArray.size) with|true=>(IntKind.i64.wrap ((32:Int)+IntKind.i64.wrap (strAt (ByteArray.mk ((((0:UInt8)::(1:UInt8)::(2:UInt8)::(2:UInt8)::(3:UInt8)::(3:UInt8)::(3:UInt8)::(3:UInt8)::(4:UInt8)::(4:UInt8)::(4:UInt8)::(4:UInt8)::(4:UInt8)::(4:UInt8)::(4:UInt8)::(4:UInt8)::(5:UInt8)::(5:UInt8)::(5:UInt8)::(5:UInt8)::(5:UInt8)::(5:UInt8)::(5:UInt8)::(5:UInt8)::(5:UInt8)::(5:UInt8)::(5:UInt8)::(5:UInt8)::(5:UInt8)::(5:UInt8)::(5:UInt8)::(5:UInt8)::List.replicate (32:Nat) (6:UInt8)).append (List.replicate (64:Nat) (7:UInt8))).append ((List.replicate (64:Nat) (8:UInt8)).append (List.replicate (64:Nat) (8:UInt8)))).toArray) (IntKind.u8.wrap (a0.fdiv ((2:Int)^min (Int.toNat (32:Int)) IntKind.u64.bits))))))|false=>0)))|false=>(match (decide (a0>=(65536:Int))) with|true=>(match (decide (a0.fdiv ((2:Int)^min (Int.toNat (16:Int)) IntKind.u64.bits)>=(256:Int))) with|true=>(match (inb (IntKind.u8.wrap ((a0.fdiv ((2:Int)^min (Int.toNat (16:Int)) IntKind.u64.bits)).fdiv ((2:Int)^min (Int.toNat (8:Int)) IntKind.u64.bits))) ((((0:UInt8)::(1:UInt8)::(2:UInt8)::(2:UInt8)::(3:UInt8)::(3:UInt8)::(3:UInt8)::(3:UInt8)::(4:UInt8)::(4:UInt8)::(4:UInt8)::(4:UInt8)::(4:UInt8)::(4:UInt8)::(4:UInt8)::(4:UInt8)::(5:UInt8)::(5:UInt8)::(5:UInt8)::(5:UInt8)::(5:UInt8)::(5:UInt8)::(5:UInt8)::(5:UInt8)::(5:UInt8)::(5:UInt8)::(5:UInt8)::(5:UInt8)::(5:UInt8)::(5:UInt8)::(5:UInt8)::(5:UInt8)::List.replicate (32:Nat) (6:UInt8)).append (List.replicate (64:Nat) (7:UInt8))).append ((List.replicate (64:Nat) (8:UInt8)).append (List.replicate (64:Nat) (8:UInt8)))).toArray.size) with|true=>(IntKind.i64.wrap (IntKind.i64.wrap (IntKind.i64.wrap ((0:Int)+(16:Int))+(8:Int))+IntKind.i64.wrap (strAt (ByteArray.mk ((((0:UInt8)::(1:UInt8)::(2:UInt8)::(2:UInt8)::(3:UInt8)::(3:UInt8)::(3:UInt8)::(3:UInt8)::(4:UInt8)::(4:UInt8)::(4:UInt8)::(4:UInt8)::(4:UInt8)::(4:UInt8)::(4:UInt8)::(4:UInt8)::(5:UInt8)::(5:UInt8)::(5:UInt8)::(5:UInt8)::(5:UInt8)::(5:UInt8)::(5:UInt8)::(5:UInt8)::(5:UInt8)::(5:UInt8)::(5:UInt8)::(5:UInt8)::(5:UInt8)::(5:UInt8)::(5:UInt8)::(5:UInt8)::List.replicate (32:Nat) (6:UInt8)).append (List.replicate (64:Nat) (7:UInt8))).append ((List.replicate (64:Nat) (8:UInt8)).append (List.replicate (64:Nat) (8:UInt8)))).toArray) (IntKind.u8.wrap ((a0.fdiv ((2:Int)^min (Int.toNat (16:Int)) IntKind.u64.bits)).fdiv ((2:Int)^min (Int.toNat (8:Int)) IntKind.u64.bits))))))|false=>0)|false=>(match (inb (IntKind.u8.wrap (a0.fdiv ((2:Int)^min (Int.toNat (16:Int)) IntKind.u64.bits))) ((((0:UInt8)::(1:UInt8)::(2:UInt8)::(2:UInt8)::(3:UInt8)::(3:UInt8)::(3:UInt8)::(3:UInt8)::(4:UInt8)::(4:UInt8)::(4:UInt8)::(4:UInt8)::(4:UInt8)::(4:UInt8)::(4:UInt8)::(4:UInt8)::(5:UInt8)::(5:UInt8)::(5:UInt8)::(5:UInt8)::(5:UInt8)::(5:UInt8)::(5:UInt8)::(5:UInt8)::(5:UInt8)::(5:UInt8)::(5:UInt8)::(5:UInt8)::(5:UInt8)::(5:UInt8)::(5:UInt8)::(5:UInt8)::List.replicate (32:Nat) (6:UInt8)).append (List.replicate (64:Nat) (7:UInt8))).append ((List.replicate (64:Nat) (8:UInt8)).append (List.replicate (64:Nat) (8:UInt8)))).toArray.size) with|true=>(IntKind.i64.wrap (IntKind.i64.wrap ((0:Int)+(16:Int))+IntKind.i64.wrap (strAt (ByteArray.mk ((((0:UInt8)::(1:UInt8)::(2:UInt8)::(2:UInt8)::(3:UInt8)::(3:UInt8)::(3:UInt8)::(3:UInt8)::(4:UInt8)::(4:UInt8)::(4:UInt8)::(4:UInt8)::(4:UInt8)::(4:UInt8)::(4:UInt8)::(4:UInt8)::(5:UInt8)::(5:UInt8)::(5:UInt8)::(5:UInt8)::(5:UInt8)::(5:UInt8)::(5:UInt8)::(5:UInt8)::(5:UInt8)::(5:UInt8)::(5:UInt8)::(5:UInt8)::(5:UInt8)::(5:UInt8)::(5:UInt8)::(5:UInt8)::List.replicate (32:Nat) (6:UInt8)).append (List.replicate (64:Nat) (7:UInt8))).append ((List.replicate (64:Nat) (8:UInt8)).append (List.replicate (64:Nat) (8:UInt8)))).toArray) (IntKind.u8.wrap (a0.fdiv ((2:Int)^min (Int.toNat (16:Int)) IntKind.u64.bits))))))|false=>0))|false=>(match (decide (a0>=(256:Int))) with|true=>(match (inb (IntKind.u8.wrap (a0.fdiv ((2:Int)^min (Int.toNat (8:Int)) IntKind.u64.bits))) ((((0:UInt8)::(1:UInt8)::(2:UInt8)::(2:UInt8)::(3:UInt8)::(3:UInt8)::(3:UInt8)::(3:UInt8)::(4:UInt8)::(4:UInt8)::(4:UInt8)::(4:UInt8)::(4:UInt8)::(4:UInt8)::(4:UInt8)::(4:UInt8)::(5:UInt8)::(5:UInt8)::(5:UInt8)::(5:UInt8)::(5:UInt8)::(5:UInt8)::(5:UInt8)::(5:UInt8)::(5:UInt8)::(5:UInt8)::(5:UInt8)::(5:UInt8)::(5:UInt8)::(5:UInt8)::(5:UInt8)::(5:UInt8)::List.replicate (32:Nat) (6:UInt8)).append (List.replicate (64:Nat) (7:UInt8))).append ((List.replicate (64:Nat) (8:UInt8)).append (List.replicate (64:Nat) (8:UInt8)))).toArray.size) with|true=>(IntKind.i64.wrap (IntKind.i64.wrap ((0:Int)+(8:Int))+IntKind.i64.wrap (strAt (ByteArray.mk ((((0:UInt8)::(1:UInt8)::(2:UInt8)::(2:UInt8)::(3:UInt8)::(3:UInt8)::(3:UInt8)::(3:UInt8)::(4:UInt8)::(4:UInt8)::(4:UInt8)::(4:UInt8)::(4:UInt8)::(4:UInt8)::(4:UInt8)::(4:UInt8)::(5:UInt8)::(5:UInt8)::(5:UInt8)::(5:UInt8)::(5:UInt8)::(5:UInt8)::(5:UInt8)::(5:UInt8)::(5:UInt8)::(5:UInt8)::(5:UInt8)::(5:UInt8)::(5:UInt8)::(5:UInt8)::(5:UInt8)::(5:UInt8)::List.replicate (32:Nat) (6:UInt8)).append (List.replicate (64:Nat) (7:UInt8))).append ((List.replicate (64:Nat) (8:UInt8)).append (List.replicate (64:Nat) (8:UInt8)))).toArray) (IntKind.u8.wrap (a0.fdiv ((2:Int)^min (Int.toNat (8:Int)) IntKind.u64.bits))))))|false=>0)|false=>(match (inb (IntKind.u8.wrap a0) ((((0:UInt8)::(1:UInt8)::(2:UInt8)::(2:UInt8)::(3:UInt8)::(3:UInt8)::(3:UInt8)::(3:UInt8)::(4:UInt8)::(4:UInt8)::(4:UInt8)::(4:UInt8)::(4:UInt8)::(4:UInt8)::(4:UInt8)::(4:UInt8)::(5:UInt8)::(5:UInt8)::(5:UInt8)::(5:UInt8)::(5:UInt8)::(5:UInt8)::(5:UInt8)::(5:UInt8)::(5:UInt8)::(5:UInt8)::(5:UInt8)::(5:UInt8)::(5:UInt8)::(5:UInt8)::(5:UInt8)::(5:UInt8)::List.replicate (32:Nat) (6:UInt8)).append (List.replicate (64:Nat) (7:UInt8))).append ((List.replicate (64:Nat) (8:UInt8)).append (List.replicate (64:Nat) (8:UInt8)))).toArray.size) with|true=>(IntKind.i64.wrap ((0:Int)+IntKind.i64.wrap (strAt (ByteArray.mk ((((0:UInt8)::(1:UInt8)::(2:UInt8)::(2:UInt8)::(3:UInt8)::(3:UInt8)::(3:UInt8)::(3:UInt8)::(4:UInt8)::(4:UInt8)::(4:UInt8)::(4:UInt8)::(4:UInt8)::(4:UInt8)::(4:UInt8)::(4:UInt8)::(5:UInt8)::(5:UInt8)::(5:UInt8)::(5:UInt8)::(5:UInt8)::(5:UInt8)::(5:UInt8)::(5:UInt8)::(5:UInt8)::(5:UInt8)::(5:UInt8)::(5:UInt8)::(5:UInt8)::(5:UInt8)::(5:UInt8)::(5:UInt8)::List.replicate (32:Nat) (6:UInt8)).append (List.replicate (64:Nat) (7:UInt8))).append ((List.replicate (64:Nat) (8:UInt8)).append (List.replicate (64:Nat) (8:UInt8)))).toArray) (IntKind.u8.wrap a0))))|false=>0))))
def len64Pre (a0:Int):Bool:=(match (decide (a0>=(4294967296:Int))) with|true=>(match (decide (a0.fdiv ((2:Int)^min (Int.toNat (32:Int)) IntKind.u64.bits)>=(65536:Int))) with|true=>(match (decide ((a0.fdiv ((2:Int)^min (Int.toNat (32:Int)) IntKind.u64.bits)).fdiv ((2:Int)^min (Int.toNat (16:Int)) IntKind.u64.bits)>=(256:Int))) with|true=>(match (inb (IntKind.u8.wrap (((a0.fdiv ((2:Int)^min (Int.toNat (32:Int)) IntKind.u64.bits)).fdiv ((2:Int)^min (Int.toNat (16:Int)) IntKind.u64.bits)).fdiv ((2:Int)^min (Int.toNat (8:Int)) IntKind.u64.bits))) ((((0:UInt8)::(1:UInt8)::(2:UInt8)::(2:UInt8)::(3:UInt8)::(3:UInt8)::(3:UInt8)::(3:UInt8)::(4:UInt8)::(4:UInt8)::(4:UInt8)::(4:UInt8)::(4:UInt8)::(4:UInt8)::(4:UInt8)::(4:UInt8)::(5:UInt8)::(5:UInt8)::(5:UInt8)::(5:UInt8)::(5:UInt8)::(5:UInt8)::(5:UInt8)::(5:UInt8)::(5:UInt8)::(5:UInt8)::(5:UInt8)::(5:UInt8)::(5:UInt8)::(5:UInt8)::(5:UInt8)::(5:UInt8)::List.replicate (32:Nat) (6:UInt8)).append (List.replicate (64:Nat) (7:UInt8))).append ((List.replicate (64:Nat) (8:UInt8)).append (List.replicate (64:Nat) (8:UInt8)))).toArray.size) with|true=>true|false=>false)|false=>(match (inb (IntKind.u8.wrap ((a0.fdiv ((2:Int)^min (Int.toNat (32:Int)) IntKind.u64.bits)).fdiv ((2:Int)^min (Int.toNat (16:Int)) IntKind.u64.bits))) ((((0:UInt8)::(1:UInt8)::(2:UInt8)::(2:UInt8)::(3:UInt8)::(3:UInt8)::(3:UInt8)::(3:UInt8)::(4:UInt8)::(4:UInt8)::(4:UInt8)::(4:UInt8)::(4:UInt8)::(4:UInt8)::(4:UInt8)::(4:UInt8)::(5:UInt8)::(5:UInt8)::(5:UInt8)::(5:UInt8)::(5:UInt8)::(5:UInt8)::(5:UInt8)::(5:UInt8)::(5:UInt8)::(5:UInt8)::(5:UInt8)::(5:UInt8)::(5:UInt8)::(5:UInt8)::(5:UInt8)::(5:UInt8)::List.replicate (32:Nat) (6:UInt8)).append (List.replicate (64:Nat) (7:UInt8))).append ((List.replicate (64:Nat) (8:UInt8)).append (List.replicate (64:Nat) (8:UInt8)))).toArray.size) with|true=>true|false=>false))|false=>(match (decide (a0.fdiv ((2:Int)^min (Int.toNat (32:Int)) IntKind.u64.bits)>=(256:Int))) with|true=>(match (inb (IntKind.u8.wrap ((a0.fdiv ((2:Int)^min (Int.toNat (32:Int)) IntKind.u64.bits)).fdiv ((2:Int)^min (Int.toNat (8:Int)) IntKind.u64.bits))) ((((0:UInt8)::(1:UInt8)::(2:UInt8)::(2:UInt8)::(3:UInt8)::(3:UInt8)::(3:UInt8)::(3:UInt8)::(4:UInt8)::(4:UInt8)::(4:UInt8)::(4:UInt8)::(4:UInt8)::(4:UInt8)::(4:UInt8)::(4:UInt8)::(5:UInt8)::(5:UInt8)::(5:UInt8)::(5:UInt8)::(5:UInt8)::(5:UInt8)::(5:UInt8)::(5:UInt8)::(5:UInt8)::(5:UInt8)::(5:UInt8)::(5:UInt8)::(5:UInt8)::(5:UInt8)::(5:UInt8)::(5:UInt8)::List.replicate (32:Nat) (6:UInt8)).append (List.replicate (64:Nat) (7:UInt8))).append ((List.replicate (64:Nat) (8:UInt8)).append (List.replicate (64:Nat) (8:UInt8)))).toArray.size) with|true=>true|false=>false)|false=>(match (inb (IntKind.u8.wrap (a0.fdiv ((2:Int)^min (Int.toNat (32:Int)) IntKind.u64.bits))) ((((0:UInt8)::(1:UInt8)::(2:UInt8)::(2:UInt8)::(3:UInt8)::(3:UInt8)::(3:UInt8)::(3:UInt8)::(4:UInt8)::(4:UInt8)::(4:UInt8)::(4:UInt8)::(4:UInt8)::(4:UInt8)::(4:UInt8)::(4:UInt8)::(5:UInt8)::(5:UInt8)::(5:UInt8)::(5:UInt8)::(5:UInt8)::(5:UInt8)::(5:UInt8)::(5:UInt8)::(5:UInt8)::(5:UInt8)::(5:UInt8)::(5:UInt8)::(5:UInt8)::(5:UInt8)::(5:UInt8)::(5:UInt8)::List.replicate (32:Nat) (6:UInt8)).append (List.replicate (64:Nat) (7:UInt8))).append ((List.replicate (64:Nat) (8:UInt8)).append (List.replicate (64:Nat) (8:UInt8)))).toArray.size) with|true=>true|false=>false)))|false=>(match (decide (a0>=(65536:Int))) with|true=>(match (decide (a0.fdiv ((2:Int)^min (Int.toNat (16:Int)) IntKind.u64.bits)>=(256:Int))) with|true=>(match (inb (IntKind.u8.wrap ((a0.fdiv ((2:Int)^min (Int.toNat (16:Int)) IntKind.u64.bits)).fdiv ((2:Int)^min (Int.toNat (8:Int)) IntKind.u64.bits))) ((((0:UInt8)::(1:UInt8)::(2:UInt8)::(2:UInt8)::(3:UInt8)::(3:UInt8)::(3:UInt8)::(3:UInt8)::(4:UInt8)::(4:UInt8)::(4:UInt8)::(4:UInt8)::(4:UInt8)::(4:UInt8)::(4:UInt8)::(4:UInt8)::(5:UInt8)::(5:UInt8)::(5:UInt8)::(5:UInt8)::(5:UInt8)::(5:UInt8)::(5:UInt8)::(5:UInt8)::(5:UInt8)::(5:UInt8)::(5:UInt8)::(5:UInt8)::(5:UInt8)::(5:UInt8)::(5:UInt8)::(5:UInt8)::List.replicate (32:Nat) (6:UInt8)).append (List.replicate (64:Nat) (7:UInt8))).append ((List.replicate (64:Nat) (8:UInt8)).append (List.replicate (64:Nat) (8:UInt8)))).toArray.size) with|true=>true|false=>false)|false=>(match (inb (IntKind.u8.wrap (a0.fdiv ((2:Int)^min (Int.toNat (16:Int)) IntKind.u64.bits))) ((((0:UInt8)::(1:UInt8)::(2:UInt8)::(2:UInt8)::(3:UInt8)::(3:UInt8)::(3:UInt8)::(3:UInt8)::(4:UInt8)::(4:UInt8)::(4:UInt8)::(4:UInt8)::(4:UInt8)::(4:UInt8)::(4:UInt8)::(4:UInt8)::(5:UInt8)::(5:UInt8)::(5:UInt8)::(5:UInt8)::(5:UInt8)::(5:UInt8)::(5:UInt8)::(5:UInt8)::(5:UInt8)::(5:UInt8)::(5:UInt8)::(5:UInt8)::(5:UInt8)::(5:UInt8)::(5:UInt8)::(5:UInt8)::List.replicate (32:Nat) (6:UInt8)).append (List.replicate (64:Nat) (7:UInt8))).append ((List.replicate (64:Nat) (8:UInt8)).append (List.replicate (64:Nat) (8:UInt8)))).toArray.size) with|true=>true|false=>false))|false=>(match (decide (a0>=(256:Int))) with|true=>(match (inb (IntKind.u8.wrap (a0.fdiv ((2:Int)^min (Int.toNat (8:Int)) IntKind.u64.bits))) ((((0:UInt8)::(1:UInt8)::(2:UInt8)::(2:UInt8)::(3:UInt8)::(3:UInt8)::(3:UInt8)::(3:UInt8)::(4:UInt8)::(4:UInt8)::(4:UInt8)::(4:UInt8)::(4:UInt8)::(4:UInt8)::(4:UInt8)::(4:UInt8)::(5:UInt8)::(5:UInt8)::(5:UInt8)::(5:UInt8)::(5:UInt8)::(5:UInt8)::(5:UInt8)::(5:UInt8)::(5:UInt8)::(5:UInt8)::(5:UInt8)::(5:UInt8)::(5:UInt8)::(5:UInt8)::(5:UInt8)::(5:UInt8)::List.replicate (32:Nat) (6:UInt8)).append (List.replicate (64:Nat) (7:UInt8))).append ((List.replicate (64:Nat) (8:UInt8)).append (List.replicate (64:Nat) (8:UInt8)))).toArray.size) with|true=>true|false=>false)|false=>(match (inb (IntKind.u8.wrap a0) ((((0:UInt8)::(1:UInt8)::(2:UInt8)::(2:UInt8)::(3:UInt8)::(3:UInt8)::(3:UInt8)::(3:UInt8)::(4:UInt8)::(4:UInt8)::(4:UInt8)::(4:UInt8)::(4:UInt8)::(4:UInt8)::(4:UInt8)::(4:UInt8)::(5:UInt8)::(5:UInt8)::(5:UInt8)::(5:UInt8)::(5:UInt8)::(5:UInt8)::(5:UInt8)::(5:UInt8)::(5:UInt8)::(5:UInt8)::(5:UInt8)::(5:UInt8)::(5:UInt8)::(5:UInt8)::(5:UInt8)::(5:UInt8)::List.replicate (32:Nat) (6:UInt8)).append (List.replicate (64:Nat) (7:UInt8))).append ((List.replicate (64:Nat) (8:UInt8)).append (List.replicate (64:Nat) (8:UInt8)))).toArray.size) with|true=>true|false=>false))))
noncomputable def len64Con:Con T O:=fun args cs=>match args,cs with
 |[.raw (.int .u64 a0)],[]=>chk (len64Pre a0) (retv (.raw (.int .i64 (len64 a0))))
 |_,_=> .fail
theorem len64Vc (a0:Int):fnX X40 noAnn Tryz.f139 [.raw (.int .u64 a0)] [] (ends [] ⟨some (.raw (.int .i64 (len64 a0))),[]⟩)=((match (decide (a0>=(4294967296:Int))) with|true=>(match (decide (a0.fdiv ((2:Int)^min (Int.toNat (32:Int)) IntKind.u64.bits)>=(65536:Int))) with|true=>(match (decide ((a0.fdiv ((2:Int)^min (Int.toNat (32:Int)) IntKind.u64.bits)).fdiv ((2:Int)^min (Int.toNat (16:Int)) IntKind.u64.bits)>=(256:Int))) with|true=>(match (inb (IntKind.u8.wrap (((a0.fdiv ((2:Int)^min (Int.toNat (32:Int)) IntKind.u64.bits)).fdiv ((2:Int)^min (Int.toNat (16:Int)) IntKind.u64.bits)).fdiv ((2:Int)^min (Int.toNat (8:Int)) IntKind.u64.bits))) ((((0:UInt8)::(1:UInt8)::(2:UInt8)::(2:UInt8)::(3:UInt8)::(3:UInt8)::(3:UInt8)::(3:UInt8)::(4:UInt8)::(4:UInt8)::(4:UInt8)::(4:UInt8)::(4:UInt8)::(4:UInt8)::(4:UInt8)::(4:UInt8)::(5:UInt8)::(5:UInt8)::(5:UInt8)::(5:UInt8)::(5:UInt8)::(5:UInt8)::(5:UInt8)::(5:UInt8)::(5:UInt8)::(5:UInt8)::(5:UInt8)::(5:UInt8)::(5:UInt8)::(5:UInt8)::(5:UInt8)::(5:UInt8)::List.replicate (32:Nat) (6:UInt8)).append (List.replicate (64:Nat) (7:UInt8))).append ((List.replicate (64:Nat) (8:UInt8)).append (List.replicate (64:Nat) (8:UInt8)))).toArray.size) with|true=>((len64 a0=(IntKind.i64.wrap (IntKind.i64.wrap (IntKind.i64.wrap ((32:Int)+(16:Int))+(8:Int))+IntKind.i64.wrap (strAt (ByteArray.mk ((((0:UInt8)::(1:UInt8)::(2:UInt8)::(2:UInt8)::(3:UInt8)::(3:UInt8)::(3:UInt8)::(3:UInt8)::(4:UInt8)::(4:UInt8)::(4:UInt8)::(4:UInt8)::(4:UInt8)::(4:UInt8)::(4:UInt8)::(4:UInt8)::(5:UInt8)::(5:UInt8)::(5:UInt8)::(5:UInt8)::(5:UInt8)::(5:UInt8)::(5:UInt8)::(5:UInt8)::(5:UInt8)::(5:UInt8)::(5:UInt8)::(5:UInt8)::(5:UInt8)::(5:UInt8)::(5:UInt8)::(5:UInt8)::List.replicate (32:Nat) (6:UInt8)).append (List.replicate (64:Nat) (7:UInt8))).append ((List.replicate (64:Nat) (8:UInt8)).append (List.replicate (64:Nat) (8:UInt8)))).toArray) (IntKind.u8.wrap (((a0.fdiv ((2:Int)^min (Int.toNat (32:Int)) IntKind.u64.bits)).fdiv ((2:Int)^min (Int.toNat (16:Int)) IntKind.u64.bits)).fdiv ((2:Int)^min (Int.toNat (8:Int)) IntKind.u64.bits)))))))/\ True)/\ True|false=>False)|false=>(match (inb (IntKind.u8.wrap ((a0.fdiv ((2:Int)^min (Int.toNat (32:Int)) IntKind.u64.bits)).fdiv ((2:Int)^min (Int.toNat (16:Int)) IntKind.u64.bits))) ((((0:UInt8)::(1:UInt8)::(2:UInt8)::(2:UInt8)::(3:UInt8)::(3:UInt8)::(3:UInt8)::(3:UInt8)::(4:UInt8)::(4:UInt8)::(4:UInt8)::(4:UInt8)::(4:UInt8)::(4:UInt8)::(4:UInt8)::(4:UInt8)::(5:UInt8)::(5:UInt8)::(5:UInt8)::(5:UInt8)::(5:UInt8)::(5:UInt8)::(5:UInt8)::(5:UInt8)::(5:UInt8)::(5:UInt8)::(5:UInt8)::(5:UInt8)::(5:UInt8)::(5:UInt8)::(5:UInt8)::(5:UInt8)::List.replicate (32:Nat) (6:UInt8)).append (List.replicate (64:Nat) (7:UInt8))).append ((List.replicate (64:Nat) (8:UInt8)).append (List.replicate (64:Nat) (8:UInt8)))).toArray.size) with|true=>((len64 a0=(IntKind.i64.wrap (IntKind.i64.wrap ((32:Int)+(16:Int))+IntKind.i64.wrap (strAt (ByteArray.mk ((((0:UInt8)::(1:UInt8)::(2:UInt8)::(2:UInt8)::(3:UInt8)::(3:UInt8)::(3:UInt8)::(3:UInt8)::(4:UInt8)::(4:UInt8)::(4:UInt8)::(4:UInt8)::(4:UInt8)::(4:UInt8)::(4:UInt8)::(4:UInt8)::(5:UInt8)::(5:UInt8)::(5:UInt8)::(5:UInt8)::(5:UInt8)::(5:UInt8)::(5:UInt8)::(5:UInt8)::(5:UInt8)::(5:UInt8)::(5:UInt8)::(5:UInt8)::(5:UInt8)::(5:UInt8)::(5:UInt8)::(5:UInt8)::List.replicate (32:Nat) (6:UInt8)).append (List.replicate (64:Nat) (7:UInt8))).append ((List.replicate (64:Nat) (8:UInt8)).append (List.replicate (64:Nat) (8:UInt8)))).toArray) (IntKind.u8.wrap ((a0.fdiv ((2:Int)^min (Int.toNat (32:Int)) IntKind.u64.bits)).fdiv ((2:Int)^min (Int.toNat (16:Int)) IntKind.u64.bits)))))))/\ True)/\ True|false=>False))|false=>(match (decide (a0.fdiv ((2:Int)^min (Int.toNat (32:Int)) IntKind.u64.bits)>=(256:Int))) with|true=>(match (inb (IntKind.u8.wrap ((a0.fdiv ((2:Int)^min (Int.toNat (32:Int)) IntKind.u64.bits)).fdiv ((2:Int)^min (Int.toNat (8:Int)) IntKind.u64.bits))) ((((0:UInt8)::(1:UInt8)::(2:UInt8)::(2:UInt8)::(3:UInt8)::(3:UInt8)::(3:UInt8)::(3:UInt8)::(4:UInt8)::(4:UInt8)::(4:UInt8)::(4:UInt8)::(4:UInt8)::(4:UInt8)::(4:UInt8)::(4:UInt8)::(5:UInt8)::(5:UInt8)::(5:UInt8)::(5:UInt8)::(5:UInt8)::(5:UInt8)::(5:UInt8)::(5:UInt8)::(5:UInt8)::(5:UInt8)::(5:UInt8)::(5:UInt8)::(5:UInt8)::(5:UInt8)::(5:UInt8)::(5:UInt8)::List.replicate (32:Nat) (6:UInt8)).append (List.replicate (64:Nat) (7:UInt8))).append ((List.replicate (64:Nat) (8:UInt8)).append (List.replicate (64:Nat) (8:UInt8)))).toArray.size) with|true=>((len64 a0=(IntKind.i64.wrap (IntKind.i64.wrap ((32:Int)+(8:Int))+IntKind.i64.wrap (strAt (ByteArray.mk ((((0:UInt8)::(1:UInt8)::(2:UInt8)::(2:UInt8)::(3:UInt8)::(3:UInt8)::(3:UInt8)::(3:UInt8)::(4:UInt8)::(4:UInt8)::(4:UInt8)::(4:UInt8)::(4:UInt8)::(4:UInt8)::(4:UInt8)::(4:UInt8)::(5:UInt8)::(5:UInt8)::(5:UInt8)::(5:UInt8)::(5:UInt8)::(5:UInt8)::(5:UInt8)::(5:UInt8)::(5:UInt8)::(5:UInt8)::(5:UInt8)::(5:UInt8)::(5:UInt8)::(5:UInt8)::(5:UInt8)::(5:UInt8)::List.replicate (32:Nat) (6:UInt8)).append (List.replicate (64:Nat) (7:UInt8))).append ((List.replicate (64:Nat) (8:UInt8)).append (List.replicate (64:Nat) (8:UInt8)))).toArray) (IntKind.u8.wrap ((a0.fdiv ((2:Int)^min (Int.toNat (32:Int)) IntKind.u64.bits)).fdiv ((2:Int)^min (Int.toNat (8:Int)) IntKind.u64.bits)))))))/\ True)/\ True|false=>False)|false=>(match (inb (IntKind.u8.wrap (a0.fdiv ((2:Int)^min (Int.toNat (32:Int)) IntKind.u64.bits))) ((((0:UInt8)::(1:UInt8)::(2:UInt8)::(2:UInt8)::(3:UInt8)::(3:UInt8)::(3:UInt8)::(3:UInt8)::(4:UInt8)::(4:UInt8)::(4:UInt8)::(4:UInt8)::(4:UInt8)::(4:UInt8)::(4:UInt8)::(4:UInt8)::(5:UInt8)::(5:UInt8)::(5:UInt8)::(5:UInt8)::(5:UInt8)::(5:UInt8)::(5:UInt8)::(5:UInt8)::(5:UInt8)::(5:UInt8)::(5:UInt8)::(5:UInt8)::(5:UInt8)::(5:UInt8)::(5:UInt8)::(5:UInt8)::List.replicate (32:Nat) (6:UInt8)).append (List.replicate (64:Nat) (7:UInt8))).append ((List.replicate (64:Nat) (8:UInt8)).append (List.replicate (64:Nat) (8:UInt8)))).toArray.size) with|true=>((len64 a0=(IntKind.i64.wrap ((32:Int)+IntKind.i64.wrap (strAt (ByteArray.mk ((((0:UInt8)::(1:UInt8)::(2:UInt8)::(2:UInt8)::(3:UInt8)::(3:UInt8)::(3:UInt8)::(3:UInt8)::(4:UInt8)::(4:UInt8)::(4:UInt8)::(4:UInt8)::(4:UInt8)::(4:UInt8)::(4:UInt8)::(4:UInt8)::(5:UInt8)::(5:UInt8)::(5:UInt8)::(5:UInt8)::(5:UInt8)::(5:UInt8)::(5:UInt8)::(5:UInt8)::(5:UInt8)::(5:UInt8)::(5:UInt8)::(5:UInt8)::(5:UInt8)::(5:UInt8)::(5:UInt8)::(5:UInt8)::List.replicate (32:Nat) (6:UInt8)).append (List.replicate (64:Nat) (7:UInt8))).append ((List.replicate (64:Nat) (8:UInt8)).append (List.replicate (64:Nat) (8:UInt8)))).toArray) (IntKind.u8.wrap (a0.fdiv ((2:Int)^min (Int.toNat (32:Int)) IntKind.u64.bits)))))))/\ True)/\ True|false=>False)))|false=>(match (decide (a0>=(65536:Int))) with|true=>(match (decide (a0.fdiv ((2:Int)^min (Int.toNat (16:Int)) IntKind.u64.bits)>=(256:Int))) with|true=>(match (inb (IntKind.u8.wrap ((a0.fdiv ((2:Int)^min (Int.toNat (16:Int)) IntKind.u64.bits)).fdiv ((2:Int)^min (Int.toNat (8:Int)) IntKind.u64.bits))) ((((0:UInt8)::(1:UInt8)::(2:UInt8)::(2:UInt8)::(3:UInt8)::(3:UInt8)::(3:UInt8)::(3:UInt8)::(4:UInt8)::(4:UInt8)::(4:UInt8)::(4:UInt8)::(4:UInt8)::(4:UInt8)::(4:UInt8)::(4:UInt8)::(5:UInt8)::(5:UInt8)::(5:UInt8)::(5:UInt8)::(5:UInt8)::(5:UInt8)::(5:UInt8)::(5:UInt8)::(5:UInt8)::(5:UInt8)::(5:UInt8)::(5:UInt8)::(5:UInt8)::(5:UInt8)::(5:UInt8)::(5:UInt8)::List.replicate (32:Nat) (6:UInt8)).append (List.replicate (64:Nat) (7:UInt8))).append ((List.replicate (64:Nat) (8:UInt8)).append (List.replicate (64:Nat) (8:UInt8)))).toArray.size) with|true=>((len64 a0=(IntKind.i64.wrap (IntKind.i64.wrap (IntKind.i64.wrap ((0:Int)+(16:Int))+(8:Int))+IntKind.i64.wrap (strAt (ByteArray.mk ((((0:UInt8)::(1:UInt8)::(2:UInt8)::(2:UInt8)::(3:UInt8)::(3:UInt8)::(3:UInt8)::(3:UInt8)::(4:UInt8)::(4:UInt8)::(4:UInt8)::(4:UInt8)::(4:UInt8)::(4:UInt8)::(4:UInt8)::(4:UInt8)::(5:UInt8)::(5:UInt8)::(5:UInt8)::(5:UInt8)::(5:UInt8)::(5:UInt8)::(5:UInt8)::(5:UInt8)::(5:UInt8)::(5:UInt8)::(5:UInt8)::(5:UInt8)::(5:UInt8)::(5:UInt8)::(5:UInt8)::(5:UInt8)::List.replicate (32:Nat) (6:UInt8)).append (List.replicate (64:Nat) (7:UInt8))).append ((List.replicate (64:Nat) (8:UInt8)).append (List.replicate (64:Nat) (8:UInt8)))).toArray) (IntKind.u8.wrap ((a0.fdiv ((2:Int)^min (Int.toNat (16:Int)) IntKind.u64.bits)).fdiv ((2:Int)^min (Int.toNat (8:Int)) IntKind.u64.bits)))))))/\ True)/\ True|false=>False)|false=>(match (inb (IntKind.u8.wrap (a0.fdiv ((2:Int)^min (Int.toNat (16:Int)) IntKind.u64.bits))) ((((0:UInt8)::(1:UInt8)::(2:UInt8)::(2:UInt8)::(3:UInt8)::(3:UInt8)::(3:UInt8)::(3:UInt8)::(4:UInt8)::(4:UInt8)::(4:UInt8)::(4:UInt8)::(4:UInt8)::(4:UInt8)::(4:UInt8)::(4:UInt8)::(5:UInt8)::(5:UInt8)::(5:UInt8)::(5:UInt8)::(5:UInt8)::(5:UInt8)::(5:UInt8)::(5:UInt8)::(5:UInt8)::(5:UInt8)::(5:UInt8)::(5:UInt8)::(5:UInt8)::(5:UInt8)::(5:UInt8)::(5:UInt8)::List.replicate (32:Nat) (6:UInt8)).append (List.replicate (64:Nat) (7:UInt8))).append ((List.replicate (64:Nat) (8:UInt8)).append (List.replicate (64:Nat) (8:UInt8)))).toArray.size) with|true=>((len64 a0=(IntKind.i64.wrap (IntKind.i64.wrap ((0:Int)+(16:Int))+IntKind.i64.wrap (strAt (ByteArray.mk ((((0:UInt8)::(1:UInt8)::(2:UInt8)::(2:UInt8)::(3:UInt8)::(3:UInt8)::(3:UInt8)::(3:UInt8)::(4:UInt8)::(4:UInt8)::(4:UInt8)::(4:UInt8)::(4:UInt8)::(4:UInt8)::(4:UInt8)::(4:UInt8)::(5:UInt8)::(5:UInt8)::(5:UInt8)::(5:UInt8)::(5:UInt8)::(5:UInt8)::(5:UInt8)::(5:UInt8)::(5:UInt8)::(5:UInt8)::(5:UInt8)::(5:UInt8)::(5:UInt8)::(5:UInt8)::(5:UInt8)::(5:UInt8)::List.replicate (32:Nat) (6:UInt8)).append (List.replicate (64:Nat) (7:UInt8))).append ((List.replicate (64:Nat) (8:UInt8)).append (List.replicate (64:Nat) (8:UInt8)))).toArray) (IntKind.u8.wrap (a0.fdiv ((2:Int)^min (Int.toNat (16:Int)) IntKind.u64.bits)))))))/\ True)/\ True|false=>False))|false=>(match (decide (a0>=(256:Int))) with|true=>(match (inb (IntKind.u8.wrap (a0.fdiv ((2:Int)^min (Int.toNat (8:Int)) IntKind.u64.bits))) ((((0:UInt8)::(1:UInt8)::(2:UInt8)::(2:UInt8)::(3:UInt8)::(3:UInt8)::(3:UInt8)::(3:UInt8)::(4:UInt8)::(4:UInt8)::(4:UInt8)::(4:UInt8)::(4:UInt8)::(4:UInt8)::(4:UInt8)::(4:UInt8)::(5:UInt8)::(5:UInt8)::(5:UInt8)::(5:UInt8)::(5:UInt8)::(5:UInt8)::(5:UInt8)::(5:UInt8)::(5:UInt8)::(5:UInt8)::(5:UInt8)::(5:UInt8)::(5:UInt8)::(5:UInt8)::(5:UInt8)::(5:UInt8)::List.replicate (32:Nat) (6:UInt8)).append (List.replicate (64:Nat) (7:UInt8))).append ((List.replicate (64:Nat) (8:UInt8)).append (List.replicate (64:Nat) (8:UInt8)))).toArray.size) with|true=>((len64 a0=(IntKind.i64.wrap (IntKind.i64.wrap ((0:Int)+(8:Int))+IntKind.i64.wrap (strAt (ByteArray.mk ((((0:UInt8)::(1:UInt8)::(2:UInt8)::(2:UInt8)::(3:UInt8)::(3:UInt8)::(3:UInt8)::(3:UInt8)::(4:UInt8)::(4:UInt8)::(4:UInt8)::(4:UInt8)::(4:UInt8)::(4:UInt8)::(4:UInt8)::(4:UInt8)::(5:UInt8)::(5:UInt8)::(5:UInt8)::(5:UInt8)::(5:UInt8)::(5:UInt8)::(5:UInt8)::(5:UInt8)::(5:UInt8)::(5:UInt8)::(5:UInt8)::(5:UInt8)::(5:UInt8)::(5:UInt8)::(5:UInt8)::(5:UInt8)::List.replicate (32:Nat) (6:UInt8)).append (List.replicate (64:Nat) (7:UInt8))).append ((List.replicate (64:Nat) (8:UInt8)).append (List.replicate (64:Nat) (8:UInt8)))).toArray) (IntKind.u8.wrap (a0.fdiv ((2:Int)^min (Int.toNat (8:Int)) IntKind.u64.bits)))))))/\ True)/\ True|false=>False)|false=>(match (inb (IntKind.u8.wrap a0) ((((0:UInt8)::(1:UInt8)::(2:UInt8)::(2:UInt8)::(3:UInt8)::(3:UInt8)::(3:UInt8)::(3:UInt8)::(4:UInt8)::(4:UInt8)::(4:UInt8)::(4:UInt8)::(4:UInt8)::(4:UInt8)::(4:UInt8)::(4:UInt8)::(5:UInt8)::(5:UInt8)::(5:UInt8)::(5:UInt8)::(5:UInt8)::(5:UInt8)::(5:UInt8)::(5:UInt8)::(5:UInt8)::(5:UInt8)::(5:UInt8)::(5:UInt8)::(5:UInt8)::(5:UInt8)::(5:UInt8)::(5:UInt8)::List.replicate (32:Nat) (6:UInt8)).append (List.replicate (64:Nat) (7:UInt8))).append ((List.replicate (64:Nat) (8:UInt8)).append (List.replicate (64:Nat) (8:UInt8)))).toArray.size) with|true=>((len64 a0=(IntKind.i64.wrap ((0:Int)+IntKind.i64.wrap (strAt (ByteArray.mk ((((0:UInt8)::(1:UInt8)::(2:UInt8)::(2:UInt8)::(3:UInt8)::(3:UInt8)::(3:UInt8)::(3:UInt8)::(4:UInt8)::(4:UInt8)::(4:UInt8)::(4:UInt8)::(4:UInt8)::(4:UInt8)::(4:UInt8)::(4:UInt8)::(5:UInt8)::(5:UInt8)::(5:UInt8)::(5:UInt8)::(5:UInt8)::(5:UInt8)::(5:UInt8)::(5:UInt8)::(5:UInt8)::(5:UInt8)::(5:UInt8)::(5:UInt8)::(5:UInt8)::(5:UInt8)::(5:UInt8)::(5:UInt8)::List.replicate (32:Nat) (6:UInt8)).append (List.replicate (64:Nat) (7:UInt8))).append ((List.replicate (64:Nat) (8:UInt8)).append (List.replicate (64:Nat) (8:UInt8)))).toArray) (IntKind.u8.wrap a0)))))/\ True)/\ True|false=>False))))):=by kernel_rfl
theorem len64Ok:ConOk R Tryz.prog 139 len64Con:=con_of_fn R X40 (good (X40) rfl (TabOk.con R X40Ok)) mixed Tryz.call139 Tryz.func139 len64Con (by
 intro args cs K h
 unfold len64Con at h
 split at h
 ·rename_i a0
  rw [Tree.holds_chk] at h
  obtain ⟨hp,h⟩:=h
  refine ⟨noAnn,_,fun v S hv=>⟨_,h,hv⟩, ?_⟩
  rw [len64Vc a0]
  revert hp
  unfold len64 len64Pre
  cases (decide (a0>=(4294967296:Int)))
  ·
   cases (decide (a0>=(65536:Int)))
   ·
    cases (decide (a0>=(256:Int)))
    ·
     cases (inb (IntKind.u8.wrap a0) ((((0:UInt8)::(1:UInt8)::(2:UInt8)::(2:UInt8)::(3:UInt8)::(3:UInt8)::(3:UInt8)::(3:UInt8)::(4:UInt8)::(4:UInt8)::(4:UInt8)::(4:UInt8)::(4:UInt8)::(4:UInt8)::(4:UInt8)::(4:UInt8)::(5:UInt8)::(5:UInt8)::(5:UInt8)::(5:UInt8)::(5:UInt8)::(5:UInt8)::(5:UInt8)::(5:UInt8)::(5:UInt8)::(5:UInt8)::(5:UInt8)::(5:UInt8)::(5:UInt8)::(5:UInt8)::(5:UInt8)::(5:UInt8)::List.replicate (32:Nat) (6:UInt8)).append (List.replicate (64:Nat) (7:UInt8))).append ((List.replicate (64:Nat) (8:UInt8)).append (List.replicate (64:Nat) (8:UInt8)))).toArray.size)
     ·
      intro hp;cases hp
     ·
      intro _;exact ⟨⟨rfl,trivial⟩,trivial⟩
    ·
     cases (inb (IntKind.u8.wrap (a0.fdiv ((2:Int)^min (Int.toNat (8:Int)) IntKind.u64.bits))) ((((0:UInt8)::(1:UInt8)::(2:UInt8)::(2:UInt8)::(3:UInt8)::(3:UInt8)::(3:UInt8)::(3:UInt8)::(4:UInt8)::(4:UInt8)::(4:UInt8)::(4:UInt8)::(4:UInt8)::(4:UInt8)::(4:UInt8)::(4:UInt8)::(5:UInt8)::(5:UInt8)::(5:UInt8)::(5:UInt8)::(5:UInt8)::(5:UInt8)::(5:UInt8)::(5:UInt8)::(5:UInt8)::(5:UInt8)::(5:UInt8)::(5:UInt8)::(5:UInt8)::(5:UInt8)::(5:UInt8)::(5:UInt8)::List.replicate (32:Nat) (6:UInt8)).append (List.replicate (64:Nat) (7:UInt8))).append ((List.replicate (64:Nat) (8:UInt8)).append (List.replicate (64:Nat) (8:UInt8)))).toArray.size)
     ·
      intro hp;cases hp
     ·
      intro _;exact ⟨⟨rfl,trivial⟩,trivial⟩
   ·
    cases (decide (a0.fdiv ((2:Int)^min (Int.toNat (16:Int)) IntKind.u64.bits)>=(256:Int)))
    ·
     cases (inb (IntKind.u8.wrap (a0.fdiv ((2:Int)^min (Int.toNat (16:Int)) IntKind.u64.bits))) ((((0:UInt8)::(1:UInt8)::(2:UInt8)::(2:UInt8)::(3:UInt8)::(3:UInt8)::(3:UInt8)::(3:UInt8)::(4:UInt8)::(4:UInt8)::(4:UInt8)::(4:UInt8)::(4:UInt8)::(4:UInt8)::(4:UInt8)::(4:UInt8)::(5:UInt8)::(5:UInt8)::(5:UInt8)::(5:UInt8)::(5:UInt8)::(5:UInt8)::(5:UInt8)::(5:UInt8)::(5:UInt8)::(5:UInt8)::(5:UInt8)::(5:UInt8)::(5:UInt8)::(5:UInt8)::(5:UInt8)::(5:UInt8)::List.replicate (32:Nat) (6:UInt8)).append (List.replicate (64:Nat) (7:UInt8))).append ((List.replicate (64:Nat) (8:UInt8)).append (List.replicate (64:Nat) (8:UInt8)))).toArray.size)
     ·
      intro hp;cases hp
     ·
      intro _;exact ⟨⟨rfl,trivial⟩,trivial⟩
    ·
     cases (inb (IntKind.u8.wrap ((a0.fdiv ((2:Int)^min (Int.toNat (16:Int)) IntKind.u64.bits)).fdiv ((2:Int)^min (Int.toNat (8:Int)) IntKind.u64.bits))) ((((0:UInt8)::(1:UInt8)::(2:UInt8)::(2:UInt8)::(3:UInt8)::(3:UInt8)::(3:UInt8)::(3:UInt8)::(4:UInt8)::(4:UInt8)::(4:UInt8)::(4:UInt8)::(4:UInt8)::(4:UInt8)::(4:UInt8)::(4:UInt8)::(5:UInt8)::(5:UInt8)::(5:UInt8)::(5:UInt8)::(5:UInt8)::(5:UInt8)::(5:UInt8)::(5:UInt8)::(5:UInt8)::(5:UInt8)::(5:UInt8)::(5:UInt8)::(5:UInt8)::(5:UInt8)::(5:UInt8)::(5:UInt8)::List.replicate (32:Nat) (6:UInt8)).append (List.replicate (64:Nat) (7:UInt8))).append ((List.replicate (64:Nat) (8:UInt8)).append (List.replicate (64:Nat) (8:UInt8)))).toArray.size)
     ·
      intro hp;cases hp
     ·
      intro _;exact ⟨⟨rfl,trivial⟩,trivial⟩
  ·
   cases (decide (a0.fdiv ((2:Int)^min (Int.toNat (32:Int)) IntKind.u64.bits)>=(65536:Int)))
   ·
    cases (decide (a0.fdiv ((2:Int)^min (Int.toNat (32:Int)) IntKind.u64.bits)>=(256:Int)))
    ·
     cases (inb (IntKind.u8.wrap (a0.fdiv ((2:Int)^min (Int.toNat (32:Int)) IntKind.u64.bits))) ((((0:UInt8)::(1:UInt8)::(2:UInt8)::(2:UInt8)::(3:UInt8)::(3:UInt8)::(3:UInt8)::(3:UInt8)::(4:UInt8)::(4:UInt8)::(4:UInt8)::(4:UInt8)::(4:UInt8)::(4:UInt8)::(4:UInt8)::(4:UInt8)::(5:UInt8)::(5:UInt8)::(5:UInt8)::(5:UInt8)::(5:UInt8)::(5:UInt8)::(5:UInt8)::(5:UInt8)::(5:UInt8)::(5:UInt8)::(5:UInt8)::(5:UInt8)::(5:UInt8)::(5:UInt8)::(5:UInt8)::(5:UInt8)::List.replicate (32:Nat) (6:UInt8)).append (List.replicate (64:Nat) (7:UInt8))).append ((List.replicate (64:Nat) (8:UInt8)).append (List.replicate (64:Nat) (8:UInt8)))).toArray.size)
     ·
      intro hp;cases hp
     ·
      intro _;exact ⟨⟨rfl,trivial⟩,trivial⟩
    ·
     cases (inb (IntKind.u8.wrap ((a0.fdiv ((2:Int)^min (Int.toNat (32:Int)) IntKind.u64.bits)).fdiv ((2:Int)^min (Int.toNat (8:Int)) IntKind.u64.bits))) ((((0:UInt8)::(1:UInt8)::(2:UInt8)::(2:UInt8)::(3:UInt8)::(3:UInt8)::(3:UInt8)::(3:UInt8)::(4:UInt8)::(4:UInt8)::(4:UInt8)::(4:UInt8)::(4:UInt8)::(4:UInt8)::(4:UInt8)::(4:UInt8)::(5:UInt8)::(5:UInt8)::(5:UInt8)::(5:UInt8)::(5:UInt8)::(5:UInt8)::(5:UInt8)::(5:UInt8)::(5:UInt8)::(5:UInt8)::(5:UInt8)::(5:UInt8)::(5:UInt8)::(5:UInt8)::(5:UInt8)::(5:UInt8)::List.replicate (32:Nat) (6:UInt8)).append (List.replicate (64:Nat) (7:UInt8))).append ((List.replicate (64:Nat) (8:UInt8)).append (List.replicate (64:Nat) (8:UInt8)))).toArray.size)
     ·
      intro hp;cases hp
     ·
      intro _;exact ⟨⟨rfl,trivial⟩,trivial⟩
   ·
    cases (decide ((a0.fdiv ((2:Int)^min (Int.toNat (32:Int)) IntKind.u64.bits)).fdiv ((2:Int)^min (Int.toNat (16:Int)) IntKind.u64.bits)>=(256:Int)))
    ·
     cases (inb (IntKind.u8.wrap ((a0.fdiv ((2:Int)^min (Int.toNat (32:Int)) IntKind.u64.bits)).fdiv ((2:Int)^min (Int.toNat (16:Int)) IntKind.u64.bits))) ((((0:UInt8)::(1:UInt8)::(2:UInt8)::(2:UInt8)::(3:UInt8)::(3:UInt8)::(3:UInt8)::(3:UInt8)::(4:UInt8)::(4:UInt8)::(4:UInt8)::(4:UInt8)::(4:UInt8)::(4:UInt8)::(4:UInt8)::(4:UInt8)::(5:UInt8)::(5:UInt8)::(5:UInt8)::(5:UInt8)::(5:UInt8)::(5:UInt8)::(5:UInt8)::(5:UInt8)::(5:UInt8)::(5:UInt8)::(5:UInt8)::(5:UInt8)::(5:UInt8)::(5:UInt8)::(5:UInt8)::(5:UInt8)::List.replicate (32:Nat) (6:UInt8)).append (List.replicate (64:Nat) (7:UInt8))).append ((List.replicate (64:Nat) (8:UInt8)).append (List.replicate (64:Nat) (8:UInt8)))).toArray.size)
     ·
      intro hp;cases hp
     ·
      intro _;exact ⟨⟨rfl,trivial⟩,trivial⟩
    ·
     cases (inb (IntKind.u8.wrap (((a0.fdiv ((2:Int)^min (Int.toNat (32:Int)) IntKind.u64.bits)).fdiv ((2:Int)^min (Int.toNat (16:Int)) IntKind.u64.bits)).fdiv ((2:Int)^min (Int.toNat (8:Int)) IntKind.u64.bits))) ((((0:UInt8)::(1:UInt8)::(2:UInt8)::(2:UInt8)::(3:UInt8)::(3:UInt8)::(3:UInt8)::(3:UInt8)::(4:UInt8)::(4:UInt8)::(4:UInt8)::(4:UInt8)::(4:UInt8)::(4:UInt8)::(4:UInt8)::(4:UInt8)::(5:UInt8)::(5:UInt8)::(5:UInt8)::(5:UInt8)::(5:UInt8)::(5:UInt8)::(5:UInt8)::(5:UInt8)::(5:UInt8)::(5:UInt8)::(5:UInt8)::(5:UInt8)::(5:UInt8)::(5:UInt8)::(5:UInt8)::(5:UInt8)::List.replicate (32:Nat) (6:UInt8)).append (List.replicate (64:Nat) (7:UInt8))).append ((List.replicate (64:Nat) (8:UInt8)).append (List.replicate (64:Nat) (8:UInt8)))).toArray.size)
     ·
      intro hp;cases hp
     ·
      intro _;exact ⟨⟨rfl,trivial⟩,trivial⟩
 ·exact h.elim)
def tickCmpText (a b:Run):Prop:=(((cmpI a.Core b.Core=cmpI a.Core b.Core)/\ True)/\ True)
theorem tickCmpVc (a b:Run):fnX X40 (noAnn) Tryz.f49 [.agg [.raw (.int .i64 a.ID), .raw (.int .i64 a.Core), .raw (.int .i64 a.Index)], .agg [.raw (.int .i64 b.ID), .raw (.int .i64 b.Core), .raw (.int .i64 b.Index)]] [] (ends [] ⟨some (.raw (.int .i64 (cmpI a.Core b.Core))),[]⟩)=tickCmpText a b:=by kernel_rfl
theorem tickCmpHolds (a b:Run):tickCmpText a b:=by
 unfold tickCmpText
 repeat' first|trivial|rfl|apply And.intro
noncomputable def tickCmpCon:Con T O:=fun args cs=>match args,cs with
 |[.agg [.raw (.int .i64 a_0), .raw (.int .i64 a_1), .raw (.int .i64 a_2)], .agg [.raw (.int .i64 b_0), .raw (.int .i64 b_1), .raw (.int .i64 b_2)]],[]=> .ret ⟨some (.raw (.int .i64 (cmpI (⟨a_0,a_1,a_2⟩:Run).Core (⟨b_0,b_1,b_2⟩:Run).Core))),[]⟩
 |_,_=> .fail
theorem tickCmpOk:ConOk R Tryz.prog 49 tickCmpCon:=con_of_fn R (X40) (good (X40) rfl (TabOk.con R X40Ok)) mixed Tryz.call49 Tryz.func49 tickCmpCon (by
 intro args cs K h
 unfold tickCmpCon at h
 split at h
 ·rename_i a_0 a_1 a_2 b_0 b_1 b_2
  refine ⟨noAnn,_,fun v S hv=>⟨_,h,hv⟩, ?_⟩
  rw [tickCmpVc (⟨a_0,a_1,a_2⟩:Run) (⟨b_0,b_1,b_2⟩:Run)]
  exact tickCmpHolds (⟨a_0,a_1,a_2⟩:Run) (⟨b_0,b_1,b_2⟩:Run)
 ·exact h.elim)
noncomputable def tab41:Tab T O:=(139,len64Con)::(49,tickCmpCon)::tab40
theorem tabOk41:TabOk R Tryz.prog tab41:=TabOk.cons R len64Ok<|TabOk.cons R tickCmpOk<|tabOk40
noncomputable def X41:Ctx T O:= { X0 with con:=conOf tab41 }
theorem X41Ok:TabOk R X41.P tab41:=tabOk41
end Go.Proofs.YtlfjbnflfdnoaaaGreat
namespace Go.Proofs.YtlfjbnflfdnoaaaGreat
open Go.Sx Go.Proofs Classical
def insZ {α:Type} (z:α) (lt:α->α->Bool):List α->Nat->List α
 |L,0=>L
 |L,j+1=>bif lt (at' z L ((j+1:Nat):Int)) (at' z L (j:Int)) then insZ z lt ((L.set (j+1) (at' z L (j:Int))).set j (at' z L ((j+1:Nat):Int))) j else L
def isrtZ {α:Type} (z:α) (lt:α->α->Bool) (L:List α):Nat->List α
 |0=>L
 |k+1=>insZ z lt (isrtZ z lt L k) k
theorem insZ_length {α:Type} (z:α) (lt:α->α->Bool): ∀(j:Nat) (L:List α),(insZ z lt L j).length=L.length
 |0,_=>rfl
 |j+1,L=>by
  simp only [insZ]
  cases lt (at' z L ((j+1:Nat):Int)) (at' z L (j:Int))
  ·rfl
  ·rw [cond_true,insZ_length z lt j]
   simp
theorem isrtZ_length {α:Type} (z:α) (lt:α->α->Bool) (L:List α): ∀k,(isrtZ z lt L k).length=L.length
 |0=>rfl
 |k+1=>by rw [isrtZ,insZ_length,isrtZ_length z lt L k]
abbrev zRun:Run:=⟨0,0,0⟩
abbrev zI:Int:=0
def ltI (a b:Int):Bool:=lessI a b
def ltRun (a b:Run):Bool:=decide (cmpI a.Core b.Core<0)
def srtI (L:List Int):List Int:=isrtZ zI ltI L L.length
def srtRun (L:List Run):List Run:=isrtZ zRun ltRun L L.length
def bitsLen (a0:Int):Int:=(match (len64Pre a0) with|true=>(len64 a0)|false=>0)
def bitsLenPre (a0:Int):Bool:=(match (len64Pre a0) with|true=>true|false=>false)
noncomputable def bitsLenCon:Con T O:=fun args cs=>match args,cs with
 |[.raw (.int .u64 a0)],[]=>chk (bitsLenPre a0) (retv (.raw (.int .i64 (bitsLen a0))))
 |_,_=> .fail
theorem bitsLenVc (a0:Int):fnX X41 noAnn Tryz.f91 [.raw (.int .u64 a0)] [] (ends [] ⟨some (.raw (.int .i64 (bitsLen a0))),[]⟩)=((match (len64Pre a0) with|true=>((bitsLen a0=(len64 a0))/\ True)/\ True|false=>False)):=by kernel_rfl
theorem bitsLenOk:ConOk R Tryz.prog 91 bitsLenCon:=con_of_fn R X41 (good (X41) rfl (TabOk.con R X41Ok)) mixed Tryz.call91 Tryz.func91 bitsLenCon (by
 intro args cs K h
 unfold bitsLenCon at h
 split at h
 ·rename_i a0
  rw [Tree.holds_chk] at h
  obtain ⟨hp,h⟩:=h
  refine ⟨noAnn,_,fun v S hv=>⟨_,h,hv⟩, ?_⟩
  rw [bitsLenVc a0]
  revert hp
  unfold bitsLen bitsLenPre
  cases (len64Pre a0)
  ·
   intro hp;cases hp
  ·
   intro _;exact ⟨⟨rfl,trivial⟩,trivial⟩
 ·exact h.elim)
noncomputable def insSIA (L:List Int) (b:Int):Ann T O:=annOf [(1, { σ:=Nat×List Int,st:=fun S x=>((S.keep [0,1,2]).int 6 x.1).at' 0 (.vec 0 x.2 3),inv:=fun _ x=>1<=x.1/\ (x.1<=b.toNat \/x.1=1)/\ x.2=isrtZ zI ltI L (min x.1 b.toNat),m:=fun x=>1001-x.1 }),(4, { σ:=Nat×List Int,st:=fun S x=>((S.keep [0,1,2,6]).int 7 x.1).at' 0 (.vec 0 x.2 3),inv:=fun S x=>x.1<=(S.gi 6).toNat/\ x.2.length=L.length/\ insZ zI ltI x.2 x.1=insZ zI ltI (S.gv 0 0) (S.gi 6).toNat,m:=fun x=>x.1 })] []
def insSIText (L:List Int) (b:Int):Prop:=let q6:=((0:Int)=(0:Int));((∃x:Nat×List Int,let q5:=(((1:Nat)<=x.fst)/\ ((x.fst<=b.toNat \/x.fst=(1:Nat))/\ (x.snd=isrtZ zI ltI L (min x.fst b.toNat))));(q5/\ ((True/\ (q6/\ ((b=b)/\ (((↑x.fst:Int)=IntKind.i64.wrap ((0:Int)+(1:Int)))/\ True))))/\ ((x.snd=L)/\ True))))/\ (∀x:Nat×List Int,let q5:=(((1:Nat)<=x.fst)/\ ((x.fst<=b.toNat \/x.fst=(1:Nat))/\ (x.snd=isrtZ zI ltI L (min x.fst b.toNat))));(q5->(match (decide ((↑x.fst:Int)<b)) with|true=>((∃x1:Nat×List Int,let q3:=((x1.fst<=(↑x.fst:Int).toNat)/\ ((x1.snd.length=L.length)/\ (insZ zI ltI x1.snd x1.fst=insZ zI ltI x.snd (↑x.fst:Int).toNat)));(q3/\ ((True/\ (q6/\ ((b=b)/\ (((↑x.fst:Int)=(↑x.fst:Int))/\ (((↑x1.fst:Int)=(↑x.fst:Int))/\ True)))))/\ ((x1.snd=x.snd)/\ True))))/\ (∀x1:Nat×List Int,let q0:=(IntKind.i64.wrap ((↑x1.fst:Int)-(1:Int)));let q1:=(∃x':Nat×List Int,((((1:Nat)<=x'.fst)/\ ((x'.fst<=b.toNat \/x'.fst=(1:Nat))/\ (x'.snd=isrtZ zI ltI L (min x'.fst b.toNat))))/\ (((1001:Nat)-x'.fst<(1001:Nat)-x.fst)/\ ((True/\ (q6/\ ((b=b)/\ (((↑x'.fst:Int)=IntKind.i64.wrap ((↑x.fst:Int)+(1:Int)))/\ True))))/\ ((x'.snd=x1.snd)/\ True)))));let q2:=(inb (↑x1.fst:Int) x1.snd.length);let q3:=((x1.fst<=(↑x.fst:Int).toNat)/\ ((x1.snd.length=L.length)/\ (insZ zI ltI x1.snd x1.fst=insZ zI ltI x.snd (↑x.fst:Int).toNat)));let q4:=(x1.snd.set (↑x1.fst:Int).toNat (at' (0:Int) x1.snd q0));let q7:=(inb q0 x1.snd.length);(q3->(match (decide ((↑x1.fst:Int)>(0:Int))) with|true=>(match q2 with|true=>(match q2 with|true=>(match q7 with|true=>(match q7 with|true=>(match (lessI (at' (0:Int) x1.snd (↑x1.fst:Int)) (at' (0:Int) x1.snd q0)) with|true=>(match q7 with|true=>(match q7 with|true=>(match q2 with|true=>(match q2 with|true=>(match q2 with|true=>(match q2 with|true=>(match (inb q0 q4.length) with|true=>(match (inb q0 q4.length) with|true=>(∃x':Nat×List Int,(((x'.fst<=(↑x.fst:Int).toNat)/\ ((x'.snd.length=L.length)/\ (insZ zI ltI x'.snd x'.fst=insZ zI ltI x.snd (↑x.fst:Int).toNat)))/\ ((x'.fst<x1.fst)/\ ((True/\ (q6/\ ((b=b)/\ (((↑x.fst:Int)=(↑x.fst:Int))/\ (((↑x'.fst:Int)=IntKind.i64.wrap ((↑x1.fst:Int)-(1:Int)))/\ True)))))/\ ((x'.snd=q4.set q0.toNat (at' (0:Int) x1.snd (↑x1.fst:Int)))/\ True)))))|false=>False)|false=>False)|false=>False)|false=>False)|false=>False)|false=>False)|false=>False)|false=>False)|false=>q1)|false=>False)|false=>False)|false=>False)|false=>False)|false=>q1))))|false=>((True/\ True)/\ ((isrtZ zI ltI L b.toNat=x.snd)/\ True))))))
theorem insSIVc (L:List Int) (b:Int):fnX X41 ((insSIA L b)) Tryz.f176 [.own 0, .raw (.int .i64 0), .raw (.int .i64 b)] [.vec 0 L 3] (ends [.vec 0 L 3] ⟨some (.tup []),[(0,some (.vec 0 (isrtZ zI ltI L b.toNat) 3))]⟩)=insSIText L b:=by kernel_rfl
theorem insSIHolds (L:List Int) (b:Int) (hp:0<=b/\ b<=L.length/\ L.length<=1000):insSIText L b:=by
 unfold insSIText
 conv=>zeta
 obtain ⟨p0,p1,p2⟩:=hp
 obtain ⟨n,rfl⟩:=Int.eq_ofNat_of_zero_le p0
 rw [Int.toNat_natCast]
 refine ⟨⟨(1,L),⟨Nat.le_refl _, .inr rfl, ?_⟩,by repeat' first|exact True.intro|exact rfl|apply And.intro⟩, ?_⟩
 ·have:min 1 n=0 \/min 1 n=1:=by omega
  rcases this with h|h<;>rw [h]<;>rfl
 rintro ⟨x,Q⟩ ⟨h1,h2,h3⟩
 dsimp only at h1 h2 h3 ⊢
 rw [Int.toNat_natCast]
 by_cases c:x<n
 ·have hwx:((x+1:Nat):Int)=IntKind.i64.wrap ((x:Int)+(1:Int)):=by rw [wrap_id (by omega) (by omega)];rfl
  rw [show min x n=x by omega] at h3
  have hM:Q.length=L.length:=by rw [h3,isrtZ_length]
  rw [show decide ((x:Int)<(n:Int))=true from decide_eq_true (by omega)]
  refine ⟨⟨(x,Q),⟨Nat.le_refl _,hM,rfl⟩,by repeat' first|exact True.intro|exact rfl|apply And.intro⟩, ?_⟩
  have fin: ∀N,N=insZ zI ltI Q x->N=isrtZ zI ltI L (min (x+1) n):=by
   intro N e
   rw [show min (x+1) n=x+1 by omega,isrtZ,←h3]
   exact e
  rintro ⟨y,N⟩ ⟨k1,k2,k3⟩
  dsimp only at k1 k2 k3 ⊢
  cases y with
  |zero=>
   rw [show decide (((0:Nat):Int)>0)=false from rfl]
   refine ⟨(x+1,N),⟨by dsimp only;omega, .inl (by dsimp only;omega),fin N k3⟩,by dsimp only;omega, ?_⟩
   repeat' first|exact hwx|exact True.intro|exact rfl|apply And.intro
  |succ z=>
   have hz:z+1<N.length:=by omega
   have hwz:IntKind.i64.wrap (((z+1:Nat):Int)-1)=(z:Int):=by rw [wrap_id (by omega) (by omega)];omega
   rw [show decide (((z+1:Nat):Int)>0)=true from decide_eq_true (by omega),hwz,inb_nat hz,inb_nat (show z<N.length by omega),List.length_set,inb_nat (show z<N.length by omega)]
   simp only [insZ] at k3
   have hlt:lessI (at' (0:Int) N ((z+1:Nat):Int)) (at' (0:Int) N (z:Int))=ltI (at' zI N ((z+1:Nat):Int)) (at' zI N (z:Int)):=rfl
   rw [hlt]
   cases ho:ltI (at' zI N ((z+1:Nat):Int)) (at' zI N (z:Int))
   ·rw [ho] at k3
    refine ⟨(x+1,N),⟨by dsimp only;omega, .inl (by dsimp only;omega),fin N k3⟩,by dsimp only;omega, ?_⟩
    repeat' first|exact hwx|exact True.intro|exact rfl|apply And.intro
   ·rw [ho] at k3
    rw [Int.toNat_natCast,Int.toNat_natCast]
    refine ⟨(z,(N.set (z+1) (at' zI N (z:Int))).set z (at' zI N ((z+1:Nat):Int))),⟨by dsimp only;omega,by dsimp only;rw [List.length_set,List.length_set];exact k2,k3⟩,by dsimp only;omega, ?_⟩
    repeat' first|exact True.intro|exact rfl|apply And.intro
 ·rw [show decide ((x:Int)<(n:Int))=false from decide_eq_false (by omega)]
  have hx:isrtZ zI ltI L n=Q:=by rw [h3,show min x n=n by omega]
  repeat' first|exact hx|exact True.intro|exact rfl|apply And.intro
noncomputable def insSICon:Con T O:=fun args cs=>match args,cs with
 |[.own 0, .raw (.int .i64 0), .raw (.int .i64 b)],[.vec 0 L 3]=>chk (decide (0<=b/\ b<=L.length/\ L.length<=1000)) (.ret ⟨some (.tup []),[(0,some (.vec 0 (isrtZ zI ltI L b.toNat) 3))]⟩)
 |_,_=> .fail
theorem insSIOk:ConOk R Tryz.prog 176 insSICon:=con_of_fn R (X41) (good (X41) rfl (TabOk.con R X41Ok)) mixed Tryz.call176 Tryz.func176 insSICon (by
 intro args cs K h
 unfold insSICon at h
 split at h
 ·rename_i b L
  rw [Tree.holds_chk] at h
  obtain ⟨hp,h⟩:=h
  refine ⟨(insSIA L b),_,fun v S hv=>⟨_,h,hv⟩, ?_⟩
  rw [insSIVc L b]
  exact insSIHolds L b (of_decide_eq_true hp)
 ·exact h.elim)
noncomputable def insSRA (L:List Run) (b:Int):Ann T O:=annOf [(1, { σ:=Nat×List Run,st:=fun S x=>((S.keep [0,1,2,3]).int 8 x.1).at' 0 (.vec 8 x.2 61),inv:=fun _ x=>1<=x.1/\ (x.1<=b.toNat \/x.1=1)/\ x.2=isrtZ zRun ltRun L (min x.1 b.toNat),m:=fun x=>1001-x.1 }),(4, { σ:=Nat×List Run,st:=fun S x=>((S.keep [0,1,2,3,8]).int 9 x.1).at' 0 (.vec 8 x.2 61),inv:=fun S x=>x.1<=(S.gi 8).toNat/\ x.2.length=L.length/\ insZ zRun ltRun x.2 x.1=insZ zRun ltRun (S.gv 0 8) (S.gi 8).toNat,m:=fun x=>x.1 })] []
def insSRText (L:List Run) (b:Int):Prop:=let q6:=((0:Int)=(0:Int));((∃x:Nat×List Run,let q5:=(((1:Nat)<=x.fst)/\ ((x.fst<=b.toNat \/x.fst=(1:Nat))/\ (x.snd=isrtZ zRun ltRun L (min x.fst b.toNat))));(q5/\ ((True/\ (q6/\ ((b=b)/\ (True/\ (((↑x.fst:Int)=IntKind.i64.wrap ((0:Int)+(1:Int)))/\ True)))))/\ ((x.snd=L)/\ True))))/\ (∀x:Nat×List Run,let q5:=(((1:Nat)<=x.fst)/\ ((x.fst<=b.toNat \/x.fst=(1:Nat))/\ (x.snd=isrtZ zRun ltRun L (min x.fst b.toNat))));(q5->(match (decide ((↑x.fst:Int)<b)) with|true=>((∃x1:Nat×List Run,let q3:=((x1.fst<=(↑x.fst:Int).toNat)/\ ((x1.snd.length=L.length)/\ (insZ zRun ltRun x1.snd x1.fst=insZ zRun ltRun x.snd (↑x.fst:Int).toNat)));(q3/\ ((True/\ (q6/\ ((b=b)/\ (True/\ (((↑x.fst:Int)=(↑x.fst:Int))/\ (((↑x1.fst:Int)=(↑x.fst:Int))/\ True))))))/\ ((x1.snd=x.snd)/\ True))))/\ (∀x1:Nat×List Run,let q0:=(IntKind.i64.wrap ((↑x1.fst:Int)-(1:Int)));let q1:=(∃x':Nat×List Run,((((1:Nat)<=x'.fst)/\ ((x'.fst<=b.toNat \/x'.fst=(1:Nat))/\ (x'.snd=isrtZ zRun ltRun L (min x'.fst b.toNat))))/\ (((1001:Nat)-x'.fst<(1001:Nat)-x.fst)/\ ((True/\ (q6/\ ((b=b)/\ (True/\ (((↑x'.fst:Int)=IntKind.i64.wrap ((↑x.fst:Int)+(1:Int)))/\ True)))))/\ ((x'.snd=x1.snd)/\ True)))));let q2:=(inb (↑x1.fst:Int) x1.snd.length);let q3:=((x1.fst<=(↑x.fst:Int).toNat)/\ ((x1.snd.length=L.length)/\ (insZ zRun ltRun x1.snd x1.fst=insZ zRun ltRun x.snd (↑x.fst:Int).toNat)));let q4:=(x1.snd.set (↑x1.fst:Int).toNat (at' runE.zero x1.snd q0));let q7:=(inb q0 x1.snd.length);(q3->(match (decide ((↑x1.fst:Int)>(0:Int))) with|true=>(match q2 with|true=>(match q2 with|true=>(match q7 with|true=>(match q7 with|true=>(match (decide (cmpI (at' runE.zero x1.snd (↑x1.fst:Int)).Core (at' runE.zero x1.snd q0).Core<(0:Int))) with|true=>(match q7 with|true=>(match q7 with|true=>(match q2 with|true=>(match q2 with|true=>(match q2 with|true=>(match q2 with|true=>(match (inb q0 q4.length) with|true=>(match (inb q0 q4.length) with|true=>(∃x':Nat×List Run,(((x'.fst<=(↑x.fst:Int).toNat)/\ ((x'.snd.length=L.length)/\ (insZ zRun ltRun x'.snd x'.fst=insZ zRun ltRun x.snd (↑x.fst:Int).toNat)))/\ ((x'.fst<x1.fst)/\ ((True/\ (q6/\ ((b=b)/\ (True/\ (((↑x.fst:Int)=(↑x.fst:Int))/\ (((↑x'.fst:Int)=IntKind.i64.wrap ((↑x1.fst:Int)-(1:Int)))/\ True))))))/\ ((x'.snd=q4.set q0.toNat (at' runE.zero x1.snd (↑x1.fst:Int)))/\ True)))))|false=>False)|false=>False)|false=>False)|false=>False)|false=>False)|false=>False)|false=>False)|false=>False)|false=>q1)|false=>False)|false=>False)|false=>False)|false=>False)|false=>q1))))|false=>((True/\ True)/\ ((isrtZ zRun ltRun L b.toNat=x.snd)/\ True))))))
theorem insSRVc (L:List Run) (b:Int):fnX X41 ((insSRA L b)) Tryz.f130 [.own 0, .raw (.int .i64 0), .raw (.int .i64 b), .fn 49 []] [.vec 8 L 61] (ends [.vec 8 L 61] ⟨some (.tup []),[(0,some (.vec 8 (isrtZ zRun ltRun L b.toNat) 61))]⟩)=insSRText L b:=by kernel_rfl
theorem insSRHolds (L:List Run) (b:Int) (hp:0<=b/\ b<=L.length/\ L.length<=1000):insSRText L b:=by
 unfold insSRText
 conv=>zeta
 obtain ⟨p0,p1,p2⟩:=hp
 obtain ⟨n,rfl⟩:=Int.eq_ofNat_of_zero_le p0
 rw [Int.toNat_natCast]
 refine ⟨⟨(1,L),⟨Nat.le_refl _, .inr rfl, ?_⟩,by repeat' first|exact True.intro|exact rfl|apply And.intro⟩, ?_⟩
 ·have:min 1 n=0 \/min 1 n=1:=by omega
  rcases this with h|h<;>rw [h]<;>rfl
 rintro ⟨x,Q⟩ ⟨h1,h2,h3⟩
 dsimp only at h1 h2 h3 ⊢
 rw [Int.toNat_natCast]
 by_cases c:x<n
 ·have hwx:((x+1:Nat):Int)=IntKind.i64.wrap ((x:Int)+(1:Int)):=by rw [wrap_id (by omega) (by omega)];rfl
  rw [show min x n=x by omega] at h3
  have hM:Q.length=L.length:=by rw [h3,isrtZ_length]
  rw [show decide ((x:Int)<(n:Int))=true from decide_eq_true (by omega)]
  refine ⟨⟨(x,Q),⟨Nat.le_refl _,hM,rfl⟩,by repeat' first|exact True.intro|exact rfl|apply And.intro⟩, ?_⟩
  have fin: ∀N,N=insZ zRun ltRun Q x->N=isrtZ zRun ltRun L (min (x+1) n):=by
   intro N e
   rw [show min (x+1) n=x+1 by omega,isrtZ,←h3]
   exact e
  rintro ⟨y,N⟩ ⟨k1,k2,k3⟩
  dsimp only at k1 k2 k3 ⊢
  cases y with
  |zero=>
   rw [show decide (((0:Nat):Int)>0)=false from rfl]
   refine ⟨(x+1,N),⟨by dsimp only;omega, .inl (by dsimp only;omega),fin N k3⟩,by dsimp only;omega, ?_⟩
   repeat' first|exact hwx|exact True.intro|exact rfl|apply And.intro
  |succ z=>
   have hz:z+1<N.length:=by omega
   have hwz:IntKind.i64.wrap (((z+1:Nat):Int)-1)=(z:Int):=by rw [wrap_id (by omega) (by omega)];omega
   rw [show decide (((z+1:Nat):Int)>0)=true from decide_eq_true (by omega),hwz,inb_nat hz,inb_nat (show z<N.length by omega),List.length_set,inb_nat (show z<N.length by omega)]
   simp only [insZ] at k3
   have hlt:decide (cmpI (at' runE.zero N ((z+1:Nat):Int)).Core (at' runE.zero N (z:Int)).Core<0)=ltRun (at' zRun N ((z+1:Nat):Int)) (at' zRun N (z:Int)):=rfl
   rw [hlt]
   cases ho:ltRun (at' zRun N ((z+1:Nat):Int)) (at' zRun N (z:Int))
   ·rw [ho] at k3
    refine ⟨(x+1,N),⟨by dsimp only;omega, .inl (by dsimp only;omega),fin N k3⟩,by dsimp only;omega, ?_⟩
    repeat' first|exact hwx|exact True.intro|exact rfl|apply And.intro
   ·rw [ho] at k3
    rw [Int.toNat_natCast,Int.toNat_natCast]
    refine ⟨(z,(N.set (z+1) (at' zRun N (z:Int))).set z (at' zRun N ((z+1:Nat):Int))),⟨by dsimp only;omega,by dsimp only;rw [List.length_set,List.length_set];exact k2,k3⟩,by dsimp only;omega, ?_⟩
    repeat' first|exact True.intro|exact rfl|apply And.intro
 ·rw [show decide ((x:Int)<(n:Int))=false from decide_eq_false (by omega)]
  have hx:isrtZ zRun ltRun L n=Q:=by rw [h3,show min x n=n by omega]
  repeat' first|exact hx|exact True.intro|exact rfl|apply And.intro
noncomputable def insSRCon:Con T O:=fun args cs=>match args,cs with
 |[.own 0, .raw (.int .i64 0), .raw (.int .i64 b), .fn 49 []],[.vec 8 L 61]=>chk (decide (0<=b/\ b<=L.length/\ L.length<=1000)) (.ret ⟨some (.tup []),[(0,some (.vec 8 (isrtZ zRun ltRun L b.toNat) 61))]⟩)
 |_,_=> .fail
theorem insSROk:ConOk R Tryz.prog 130 insSRCon:=con_of_fn R (X41) (good (X41) rfl (TabOk.con R X41Ok)) mixed Tryz.call130 Tryz.func130 insSRCon (by
 intro args cs K h
 unfold insSRCon at h
 split at h
 ·rename_i b L
  rw [Tree.holds_chk] at h
  obtain ⟨hp,h⟩:=h
  refine ⟨(insSRA L b),_,fun v S hv=>⟨_,h,hv⟩, ?_⟩
  rw [insSRVc L b]
  exact insSRHolds L b (of_decide_eq_true hp)
 ·exact h.elim)
noncomputable def tab42:Tab T O:=(91,bitsLenCon)::(176,insSICon)::(130,insSRCon)::tab41
theorem tabOk42:TabOk R Tryz.prog tab42:=TabOk.cons R bitsLenOk<|TabOk.cons R insSIOk<|TabOk.cons R insSROk<|tabOk41
noncomputable def X42:Ctx T O:= { X0 with con:=conOf tab42 }
theorem X42Ok:TabOk R X42.P tab42:=tabOk42
end Go.Proofs.YtlfjbnflfdnoaaaGreat
namespace Go.Proofs.YtlfjbnflfdnoaaaGreat
open Go.Sx Go.Proofs Classical
theorem bitsLen_small {n:Nat} (h:n<=12):bitsLenPre (IntKind.u64.wrap (n:Int))=true:=by
 have: ∀n:Fin 13,bitsLenPre (IntKind.u64.wrap (n.val:Int))=true:=by decide+kernel
 exact this ⟨n,by omega⟩
theorem mT {b:Bool} {A B:Prop} (h:b=true) (hA:A):(match (generalizing:=false) b with|true=>A|false=>B):=by subst h;exact hA
theorem mF {b:Bool} {A B:Prop} (h:b=false) (hB:B):(match (generalizing:=false) b with|true=>A|false=>B):=by subst h;exact hB
theorem mD {P:Prop} {_:Decidable P} {A B:Prop} (h:P) (hA:A):(match (generalizing:=false) decide P with|true=>A|false=>B):=mT (decide_eq_true h) hA
theorem mN {P:Prop} {_:Decidable P} {A B:Prop} (h: ¬P) (hA:B):(match (generalizing:=false) decide P with|true=>A|false=>B):=mF (decide_eq_false h) hA
def idOk (id:Int):Bool:=decide (id>=0)&&decide (id<64)
theorem idOk_iff {id:Int}:idOk id=true↔0<=id/\ id<64:=by unfold idOk;simp
theorem idOk_inb {id:Int} (h:idOk id=true):inb id 64=true:=inb_iff.2 (idOk_iff.1 h)
def pinB (pin:Int) (t:Option Rnr):Bool:=match t with
 |none=>false
 |some t=>pin != -1&&t.pin==pin
def pinIn (ts:List (Option Rnr)) (pin:Int):Bool:=ts.any (pinB pin)
def tellsG (g:EG) (id kind:Int):EG:= { g with ev:=g.ev++[⟨g.now,id,kind⟩] }
def idCK0Text (id:Int):Prop:=(((false=false)/\ True)/\ True)
theorem idCK0Vc (id:Int):fnX X42 (noAnn) Tryz.f64 [.raw (.pointer none), .raw (.int .i64 id)] [] (ends [] ⟨some (.raw (.bool false)),[]⟩)=idCK0Text id:=by kernel_rfl
theorem idCK0Holds (id:Int):idCK0Text id:=by
 unfold idCK0Text
 repeat' first|trivial|rfl|apply And.intro
noncomputable def idCK1E0 (m:Int) (now:Int) (ts:List (Option Rnr)) (RL:List EThing) (RM:List (Int×Int)) (DL:List VThing) (DM:List (Int×Int)) (ev:List Ev) (nt:List Note) (id:Int):Eff T O:=⟨some (.raw (.bool (idOk id))),[(0,some (.tab [.raw (.int .i64 m), .raw (.int .i64 now)] 0 64 (ts) none [.ptr 1 0, .ptr 2 0, .own 3, .own 4] 105)),(3,some (.vec 4 ev 151)),(4,some (.que 7 nt 84)),(5,some (.vec 5 RL 200)),(6,some (.map 0 RM)),(8,some (.vec 6 DL 242)),(9,some (.map 0 DM))]⟩
def idCK1Text (m now:Int) (ts:List (Option Rnr)) (RL:List EThing) (RM:List (Int×Int)) (DL:List VThing) (DM:List (Int×Int)) (ev:List Ev) (nt:List Note) (id:Int):Prop:=let q1:=(True/\ (True/\ (True/\ True)));let q0:=((((m=m)/\ ((now=now)/\ True))/\ ((ts=ts)/\ ((True/\ q1)/\ True)))/\ (q1/\ ((True/\ True)/\ ((ev=ev)/\ ((nt=nt)/\ ((RL=RL)/\ ((RM=RM)/\ (q1/\ ((DL=DL)/\ ((DM=DM)/\ True))))))))));(match (decide (id>=(0:Int))) with|true=>(((idOk id=decide (id<(64:Int)))/\ True)/\ q0)|false=>(((idOk id=false)/\ True)/\ q0))
theorem idCK1Vc (m now:Int) (ts:List (Option Rnr)) (RL:List EThing) (RM:List (Int×Int)) (DL:List VThing) (DM:List (Int×Int)) (ev:List Ev) (nt:List Note) (id:Int):fnX X42 (noAnn) Tryz.f64 [.ptr 0 0, .raw (.int .i64 id)] (cs3 m now ts RL RM DL DM ev nt) (ends (cs3 m now ts RL RM DL DM ev nt) (idCK1E0 m now ts RL RM DL DM ev nt id))=idCK1Text m now ts RL RM DL DM ev nt id:=by kernel_rfl
theorem idCK1Holds (m now:Int) (ts:List (Option Rnr)) (RL:List EThing) (RM:List (Int×Int)) (DL:List VThing) (DM:List (Int×Int)) (ev:List Ev) (nt:List Note) (id:Int):idCK1Text m now ts RL RM DL DM ev nt id:=by
 unfold idCK1Text
 conv=>zeta
 unfold idOk
 cases decide (id>=0)<;>(repeat' first|exact True.intro|with_reducible rfl|apply And.intro|exact rfl)
set_option maxHeartbeats 4000000 in
noncomputable def idCCon:Con T O:=fun args cs=>match args,cs with
 |[.raw (.pointer none), .raw (.int .i64 _)],[]=> .ret ⟨some (.raw (.bool false)),[]⟩
 |[.ptr 0 0, .raw (.int .i64 id)],[.tab [.raw (.int .i64 m), .raw (.int .i64 now)] 0 64 (ts) none [.ptr 1 0, .ptr 2 0, .own 3, .own 4] 105, .cells [.fn 40 [], .own 5, .own 6] 146, .cells [.ptr 7 0] 156, .vec 4 ev 151, .que 7 nt 84, .vec 5 RL 200, .map 0 RM, .cells [.fn 83 [], .own 8, .own 9] 198, .vec 6 DL 242, .map 0 DM]=> .ret (idCK1E0 m now ts RL RM DL DM ev nt id)
 |_,_=> .fail
theorem idCOk:ConOk R Tryz.prog 64 idCCon:=con_of_fn R (X42) (good (X42) rfl (TabOk.con R X42Ok)) mixed Tryz.call64 Tryz.func64 idCCon (by
 intro args cs K h
 unfold idCCon at h
 split at h
 ·rename_i id
  refine ⟨noAnn,_,fun v S hv=>⟨_,h,hv⟩, ?_⟩
  rw [idCK0Vc id]
  exact idCK0Holds id
 ·rename_i id m now ts ev nt RL RM DL DM
  refine ⟨noAnn,_,fun v S hv=>⟨_,h,hv⟩, ?_⟩
  have hv:=idCK1Vc m now ts RL RM DL DM ev nt id
  unfold cs3 at hv
  rw [hv]
  exact idCK1Holds m now ts RL RM DL DM ev nt id
 ·exact h.elim)
noncomputable def tellsCE0 (m:Int) (now:Int) (ts:List (Option Rnr)) (RL:List EThing) (RM:List (Int×Int)) (DL:List VThing) (DM:List (Int×Int)) (ev:List Ev) (nt:List Note) (id:Int) (kind:Int):Eff T O:=⟨some (.tup []),[(0,some (.tab [.raw (.int .i64 ((tellsG ⟨m,now,ts,(RL,RM),(DL,DM),ev,nt⟩ id kind).m)), .raw (.int .i64 ((tellsG ⟨m,now,ts,(RL,RM),(DL,DM),ev,nt⟩ id kind).now))] 0 64 ((tellsG ⟨m,now,ts,(RL,RM),(DL,DM),ev,nt⟩ id kind).ts) none [.ptr 1 0, .ptr 2 0, .own 10, .own 11] 105)),(1,some (.cells [.fn 40 [], .own 12, .own 6] 146)),(3,none),(4,none),(5,none),(6,some (.map 0 (tellsG ⟨m,now,ts,(RL,RM),(DL,DM),ev,nt⟩ id kind).rq.2)),(7,some (.cells [.fn 83 [], .own 13, .own 9] 198)),(8,none),(9,some (.map 0 (tellsG ⟨m,now,ts,(RL,RM),(DL,DM),ev,nt⟩ id kind).dq.2)),(10,some (.vec 4 (tellsG ⟨m,now,ts,(RL,RM),(DL,DM),ev,nt⟩ id kind).ev 151)),(11,some (.que 7 (tellsG ⟨m,now,ts,(RL,RM),(DL,DM),ev,nt⟩ id kind).nt 84)),(12,some (.vec 5 (tellsG ⟨m,now,ts,(RL,RM),(DL,DM),ev,nt⟩ id kind).rq.1 200)),(13,some (.vec 6 (tellsG ⟨m,now,ts,(RL,RM),(DL,DM),ev,nt⟩ id kind).dq.1 242))]⟩
def tellsCText (m now:Int) (ts:List (Option Rnr)) (RL:List EThing) (RM:List (Int×Int)) (DL:List VThing) (DM:List (Int×Int)) (ev:List Ev) (nt:List Note) (id kind:Int):Prop:=let q0:=(tellsG (EG.mk m now ts (RL,RM) (DL,DM) ev nt) id kind);let q1:=(True/\ (True/\ (True/\ True)));(match (roomy (ev.length+(1:Nat)) (nat_lit 24)) with|true=>((True/\ True)/\ ((((q0.m=m)/\ ((q0.now=now)/\ True))/\ ((q0.ts=ts)/\ ((True/\ q1)/\ True)))/\ (q1/\ ((True/\ True)/\ ((q0.rq.snd=RM)/\ (q1/\ ((q0.dq.snd=DM)/\ ((q0.ev=ev++[Ev.mk now id kind])/\ ((q0.nt=nt)/\ ((q0.rq.fst=RL)/\ ((q0.dq.fst=DL)/\ True)))))))))))|false=>False)
theorem tellsCVc (m now:Int) (ts:List (Option Rnr)) (RL:List EThing) (RM:List (Int×Int)) (DL:List VThing) (DM:List (Int×Int)) (ev:List Ev) (nt:List Note) (id kind:Int):fnX X42 (noAnn) Tryz.f149 [.ptr 0 0, .raw (.int .i64 id), .raw (.int .i64 kind)] (cs3 m now ts RL RM DL DM ev nt) (ends (cs3 m now ts RL RM DL DM ev nt) (tellsCE0 m now ts RL RM DL DM ev nt id kind))=tellsCText m now ts RL RM DL DM ev nt id kind:=by kernel_rfl
theorem tellsCHolds (m now:Int) (ts:List (Option Rnr)) (RL:List EThing) (RM:List (Int×Int)) (DL:List VThing) (DM:List (Int×Int)) (ev:List Ev) (nt:List Note) (id kind:Int) (hp:ev.length<=100000000):tellsCText m now ts RL RM DL DM ev nt id kind:=by
 unfold tellsCText
 conv=>zeta
 unfold tellsG
 rw [show roomy (ev.length+1) 24=true by unfold roomy;simp;omega]
 repeat' first|exact True.intro|with_reducible rfl|apply And.intro|exact rfl
set_option maxHeartbeats 4000000 in
noncomputable def tellsCCon:Con T O:=fun args cs=>match args,cs with
 |[.ptr 0 0, .raw (.int .i64 id), .raw (.int .i64 kind)],[.tab [.raw (.int .i64 m), .raw (.int .i64 now)] 0 64 (ts) none [.ptr 1 0, .ptr 2 0, .own 3, .own 4] 105, .cells [.fn 40 [], .own 5, .own 6] 146, .cells [.ptr 7 0] 156, .vec 4 ev 151, .que 7 nt 84, .vec 5 RL 200, .map 0 RM, .cells [.fn 83 [], .own 8, .own 9] 198, .vec 6 DL 242, .map 0 DM]=>chk (decide (ev.length<=100000000)) (.ret (tellsCE0 m now ts RL RM DL DM ev nt id kind))
 |_,_=> .fail
theorem tellsCOk:ConOk R Tryz.prog 149 tellsCCon:=con_of_fn R (X42) (good (X42) rfl (TabOk.con R X42Ok)) mixed Tryz.call149 Tryz.func149 tellsCCon (by
 intro args cs K h
 unfold tellsCCon at h
 split at h
 ·rename_i id kind m now ts ev nt RL RM DL DM
  rw [Tree.holds_chk] at h
  obtain ⟨hp,h⟩:=h
  refine ⟨noAnn,_,fun v S hv=>⟨_,h,hv⟩, ?_⟩
  have hv:=tellsCVc m now ts RL RM DL DM ev nt id kind
  unfold cs3 at hv
  rw [hv]
  exact tellsCHolds m now ts RL RM DL DM ev nt id kind (of_decide_eq_true hp)
 ·exact h.elim)
def pinCK0Text (pin:Int):Prop:=(((false=false)/\ True)/\ (((pin=pin)/\ True)/\ True))
theorem pinCK0Vc (pin:Int):fnX X42 (noAnn) Tryz.f66 [.raw (.pointer none), .ptr 0 0] [.cells [.raw (.int .i64 pin)] 3] (ends [.cells [.raw (.int .i64 pin)] 3] ⟨some (.raw (.bool false)),[]⟩)=pinCK0Text pin:=by kernel_rfl
theorem pinCK0Holds (pin:Int):pinCK0Text pin:=by
 unfold pinCK0Text
 repeat' first|trivial|rfl|apply And.intro
noncomputable def cs4 (pin:Int) (tE:Int) (tP:Int) (te:Bool) (tc:Bool) (r:Sub) (td:Int) (s:Stp) (W:List Sub) (p0:Int) (p1:Bool) (p2:Int) (p3:Int) (p4:Int) (p5:Int) (p6:Int) (p7:Int):List (Chunk T O):=[.cells [.ptr 2 0, .raw (.int .i64 p0), .raw (.bool p1), .raw (.int .i64 p2), .raw (.int .i64 p3), .raw (.int .i64 p4), .raw (.int .i64 p5), .raw (.int .i64 p6), .raw (.int .i64 p7)] 111, .cells [.raw (.int .i64 pin)] 3, .cells [.raw (.int .i64 tE), .raw (.int .i64 tP), .raw (.bool te), .raw (.bool tc), .ptr 3 0, .own 4, .raw (.int .i64 r.Index), .raw (.int .i64 r.Release), .raw (.int .i64 r.Deadline), .raw (.int .i64 r.Bit), .raw (.int .i64 r.Group), .raw (.int .i64 td)] 179, .cells [.raw (.int .i64 s.E), .raw (.int .i64 s.P), .raw (.int .i64 s.off), .raw (.int .i64 s.idx), .raw (.int .i64 s.whole), .raw (.int .i64 s.rest), .raw (.int .i64 s.ew), .raw (.int .i64 s.el), .raw (.int .i64 s.eo), .raw (.int .i64 s.long), .raw (.int .i64 s.part), .raw (.int .i64 s.gw), .raw (.int .i64 s.gl), .raw (.int .i64 s.go), .raw (.int .i64 s.sub.Index), .raw (.int .i64 s.sub.Release), .raw (.int .i64 s.sub.Deadline), .raw (.int .i64 s.sub.Bit), .raw (.int .i64 s.sub.Group)] 226, .que 2 W 39]
def pinCK1Text (pin:Int) (tE tP:Int) (te tc:Bool) (r:Sub) (td:Int) (s:Stp) (W:List Sub) (p0:Int) (p1:Bool) (p2 p3 p4 p5 p6 p7:Int):Prop:=let q0:=((True/\ ((p0=p0)/\ ((p1=p1)/\ ((p2=p2)/\ ((p3=p3)/\ ((p4=p4)/\ ((p5=p5)/\ ((p6=p6)/\ ((p7=p7)/\ True)))))))))/\ (((pin=pin)/\ True)/\ (((tE=tE)/\ ((tP=tP)/\ ((te=te)/\ ((tc=tc)/\ (True/\ (True/\ ((r.Index=r.Index)/\ ((r.Release=r.Release)/\ ((r.Deadline=r.Deadline)/\ ((r.Bit=r.Bit)/\ ((r.Group=r.Group)/\ ((td=td)/\ True))))))))))))/\ (((s.E=s.E)/\ ((s.P=s.P)/\ ((s.off=s.off)/\ ((s.idx=s.idx)/\ ((s.whole=s.whole)/\ ((s.rest=s.rest)/\ ((s.ew=s.ew)/\ ((s.el=s.el)/\ ((s.eo=s.eo)/\ ((s.long=s.long)/\ ((s.part=s.part)/\ ((s.gw=s.gw)/\ ((s.gl=s.gl)/\ ((s.go=s.go)/\ ((s.sub.Index=s.sub.Index)/\ ((s.sub.Release=s.sub.Release)/\ ((s.sub.Deadline=s.sub.Deadline)/\ ((s.sub.Bit=s.sub.Bit)/\ ((s.sub.Group=s.sub.Group)/\ True)))))))))))))))))))/\ ((W=W)/\ True)))));(match (pin !=(-1:Int)) with|true=>((((pin !=(-1:Int)&&p2==pin)=(p2==pin))/\ True)/\ q0)|false=>((((pin !=(-1:Int)&&p2==pin)=false)/\ True)/\ q0))
theorem pinCK1Vc (pin:Int) (tE tP:Int) (te tc:Bool) (r:Sub) (td:Int) (s:Stp) (W:List Sub) (p0:Int) (p1:Bool) (p2 p3 p4 p5 p6 p7:Int):fnX X42 (noAnn) Tryz.f66 [.ptr 0 0, .ptr 1 0] (cs4 pin tE tP te tc r td s W p0 p1 p2 p3 p4 p5 p6 p7) (ends (cs4 pin tE tP te tc r td s W p0 p1 p2 p3 p4 p5 p6 p7) ⟨some (.raw (.bool (pin != -1&&p2==pin))),[(4,some (.que 2 W 39))]⟩)=pinCK1Text pin tE tP te tc r td s W p0 p1 p2 p3 p4 p5 p6 p7:=by kernel_rfl
theorem pinCK1Holds (pin:Int) (tE tP:Int) (te tc:Bool) (r:Sub) (td:Int) (s:Stp) (W:List Sub) (p0:Int) (p1:Bool) (p2 p3 p4 p5 p6 p7:Int):pinCK1Text pin tE tP te tc r td s W p0 p1 p2 p3 p4 p5 p6 p7:=by
 unfold pinCK1Text
 conv=>zeta
 cases pin != -1<;>(repeat' first|exact True.intro|with_reducible rfl|apply And.intro|exact rfl)
set_option maxHeartbeats 4000000 in
noncomputable def pinCCon:Con T O:=fun args cs=>match args,cs with
 |[.raw (.pointer none), .ptr 0 0],[.cells [.raw (.int .i64 _)] 3]=> .ret ⟨some (.raw (.bool false)),[]⟩
 |[.ptr 0 0, .ptr 1 0],[.cells [.ptr 2 0, .raw (.int .i64 _), .raw (.bool _), .raw (.int .i64 p2), .raw (.int .i64 _), .raw (.int .i64 _), .raw (.int .i64 _), .raw (.int .i64 _), .raw (.int .i64 _)] 111, .cells [.raw (.int .i64 pin)] 3, .cells [.raw (.int .i64 _), .raw (.int .i64 _), .raw (.bool _), .raw (.bool _), .ptr 3 0, .own 4, .raw (.int .i64 _), .raw (.int .i64 _), .raw (.int .i64 _), .raw (.int .i64 _), .raw (.int .i64 _), .raw (.int .i64 _)] 179, .cells [.raw (.int .i64 _), .raw (.int .i64 _), .raw (.int .i64 _), .raw (.int .i64 _), .raw (.int .i64 _), .raw (.int .i64 _), .raw (.int .i64 _), .raw (.int .i64 _), .raw (.int .i64 _), .raw (.int .i64 _), .raw (.int .i64 _), .raw (.int .i64 _), .raw (.int .i64 _), .raw (.int .i64 _), .raw (.int .i64 _), .raw (.int .i64 _), .raw (.int .i64 _), .raw (.int .i64 _), .raw (.int .i64 _)] 226, .que 2 W 39]=> .ret ⟨some (.raw (.bool (pin != -1&&p2==pin))),[(4,some (.que 2 W 39))]⟩
 |_,_=> .fail
theorem pinCOk:ConOk R Tryz.prog 66 pinCCon:=con_of_fn R (X42) (good (X42) rfl (TabOk.con R X42Ok)) mixed Tryz.call66 Tryz.func66 pinCCon (by
 intro args cs K h
 unfold pinCCon at h
 split at h
 ·rename_i pin
  refine ⟨noAnn,_,fun v S hv=>⟨_,h,hv⟩, ?_⟩
  rw [pinCK0Vc pin]
  exact pinCK0Holds pin
 ·rename_i p0 p1 p2 p3 p4 p5 p6 p7 pin tE tP te tc r_0 r_1 r_2 r_3 r_4 td s_0 s_1 s_2 s_3 s_4 s_5 s_6 s_7 s_8 s_9 s_10 s_11 s_12 s_13 s_14 s_15 s_16 s_17 s_18 W
  refine ⟨noAnn,_,fun v S hv=>⟨_,h,hv⟩, ?_⟩
  have hv:=pinCK1Vc pin tE tP te tc (⟨r_0,r_1,r_2,r_3,r_4⟩:Sub) td (⟨s_0,s_1,s_2,s_3,s_4,s_5,s_6,s_7,s_8,s_9,s_10,s_11,s_12,s_13,s_14,s_15,s_16,s_17,s_18⟩:Stp) W p0 p1 p2 p3 p4 p5 p6 p7
  unfold cs4 at hv
  rw [hv]
  exact pinCK1Holds pin tE tP te tc (⟨r_0,r_1,r_2,r_3,r_4⟩:Sub) td (⟨s_0,s_1,s_2,s_3,s_4,s_5,s_6,s_7,s_8,s_9,s_10,s_11,s_12,s_13,s_14,s_15,s_16,s_17,s_18⟩:Stp) W p0 p1 p2 p3 p4 p5 p6 p7
 ·exact h.elim)
noncomputable def tab43:Tab T O:=(64,idCCon)::(149,tellsCCon)::(66,pinCCon)::tab42
theorem tabOk43:TabOk R Tryz.prog tab43:=TabOk.cons R idCOk<|TabOk.cons R tellsCOk<|TabOk.cons R pinCOk<|tabOk42
noncomputable def X43:Ctx T O:= { X0 with con:=conOf tab43 }
theorem X43Ok:TabOk R X43.P tab43:=tabOk43
end Go.Proofs.YtlfjbnflfdnoaaaGreat
namespace Go.Proofs.YtlfjbnflfdnoaaaGreat
open Go.Sx Go.Proofs Classical
def pinIdx (ts:List (Option Rnr)) (pin:Int):Int:=bif pinIn ts pin then ((ts.findIdx (pinB pin):Nat):Int) else-1
theorem findIdx_at {α:Type} (p:α->Bool): ∀(L:List α) (x:Nat) (hx:x<L.length),(L.take x).any p=false->p L[x]=true->L.findIdx p=x
 |a::L,0,_,_,h1=>by rw [List.findIdx_cons];simp only [List.getElem_cons_zero] at h1;rw [h1];rfl
 |a::L,x+1,hx,h0,h1=>by
  simp only [List.take_succ_cons,List.any_cons,Bool.or_eq_false_iff] at h0
  rw [List.findIdx_cons,h0.1,cond_false,findIdx_at p L x (by simpa using hx) h0.2 (by simpa using h1)]
theorem any_take {α:Type} (p:α->Bool) {L:List α} {x:Nat} (hx:x<L.length) (h0:(L.take x).any p=false):(L.take (x+1)).any p=p L[x]:=by
 rw [take_at hx,List.any_append,h0]
 simp
theorem atO_get {α:Type} {L:List (Option α)} {x:Nat} (hx:x<L.length):atO L (x:Int)=L[x]:=by
 unfold atO
 rw [Int.toNat_natCast]
 simp [List.getD,hx]
noncomputable def cs5 (m:Int) (now:Int) (ts:List (Option Rnr)) (RL:List EThing) (RM:List (Int×Int)) (DL:List VThing) (DM:List (Int×Int)) (ev:List Ev) (nt:List Note) (pin:Int):List (Chunk T O):=[.tab [.raw (.int .i64 m), .raw (.int .i64 now)] 0 64 ts none [.ptr 2 0, .ptr 3 0, .own 4, .own 5] 105, .cells [.raw (.int .i64 pin)] 3, .cells [.fn 40 [], .own 6, .own 7] 146, .cells [.ptr 8 0] 156, .vec 4 ev 151, .que 7 nt 84, .vec 5 RL 200, .map 0 RM, .cells [.fn 83 [], .own 9, .own 10] 198, .vec 6 DL 242, .map 0 DM]
noncomputable def idxCA (m:Int) (ts:List (Option Rnr)) (pin:Int):Ann T O:=annOf [(2, { σ:=Nat,st:=fun S x=>(S.keep [0,1,6,7]).int 8 x,inv:=fun _ x=>x<=64/\ (ts.take x).any (pinB pin)=false,m:=fun x=>64-x })] [] [] [4]
noncomputable def idxCE0 (m:Int) (now:Int) (ts:List (Option Rnr)) (RL:List EThing) (RM:List (Int×Int)) (DL:List VThing) (DM:List (Int×Int)) (ev:List Ev) (nt:List Note) (pin:Int):Eff T O:=⟨some (.raw (.int .i64 ((pinIdx ts pin)))),[(0,some (.tab [.raw (.int .i64 m), .raw (.int .i64 now)] 0 64 ts none [.ptr 2 0, .ptr 3 0, .own 4, .own 5] 105)),(4,some (.vec 4 ev 151)),(5,some (.que 7 nt 84)),(6,some (.vec 5 RL 200)),(7,some (.map 0 RM)),(9,some (.vec 6 DL 242)),(10,some (.map 0 DM))]⟩
def idxCText (m now:Int) (ts:List (Option Rnr)) (RL:List EThing) (RM:List (Int×Int)) (DL:List VThing) (DM:List (Int×Int)) (ev:List Ev) (nt:List Note) (pin:Int):Prop:=let q4:=(True/\ (True/\ (True/\ True)));let q0:=(((pin=pin)/\ True)/\ (q4/\ ((True/\ True)/\ ((ev=ev)/\ ((nt=nt)/\ ((RL=RL)/\ ((RM=RM)/\ (q4/\ ((DL=DL)/\ ((DM=DM)/\ True))))))))));let q1:=((((m=m)/\ ((now=now)/\ True))/\ ((ts=ts)/\ ((True/\ q4)/\ True)))/\ q0);((∃x:Nat,let q6:=((x<=(64:Nat))/\ ((List.take x ts).any (pinB pin)=false));(q6/\ ((True/\ ((True/\ True)/\ (True/\ (((↑(64:Nat):Int)=(↑(64:Nat):Int))/\ (((↑x:Int)=(0:Int))/\ True)))))/\ q1)))/\ (∀x:Nat,let q2:=((((m=m)/\ ((now=now)/\ True))/\ ((ts=ts.set (↑x:Int).toNat (some ((atO ts (↑x:Int)).getD rnrL.zero)))/\ ((True/\ q4)/\ True)))/\ q0);let q6:=((x<=(64:Nat))/\ ((List.take x ts).any (pinB pin)=false));(q6->(match (decide ((↑x:Int)<(↑(64:Nat):Int))) with|true=>(match (inb (↑x:Int) (64:Nat)) with|true=>(match (inb (↑x:Int) (64:Nat)) with|true=>(match ((atO ts (↑x:Int)).isSome) with|true=>(match (pin !=(-1:Int)&&((atO ts (↑x:Int)).getD rnrL.zero).pin==pin) with|true=>(((pinIdx ts pin=(↑x:Int))/\ True)/\ q2)|false=>(∃x':Nat,let q3:=(True/\ ((True/\ True)/\ (True/\ (((↑(64:Nat):Int)=(↑(64:Nat):Int))/\ (((↑x':Int)=IntKind.i64.wrap ((↑x:Int)+(1:Int)))/\ True)))));let q5:=((x'<=(64:Nat))/\ ((List.take x' ts).any (pinB pin)=false));(q5/\ (((64:Nat)-x'<(64:Nat)-x)/\ (q3/\ q2)))))|false=>(∃x':Nat,let q3:=(True/\ ((True/\ True)/\ (True/\ (((↑(64:Nat):Int)=(↑(64:Nat):Int))/\ (((↑x':Int)=IntKind.i64.wrap ((↑x:Int)+(1:Int)))/\ True)))));let q5:=((x'<=(64:Nat))/\ ((List.take x' ts).any (pinB pin)=false));(q5/\ (((64:Nat)-x'<(64:Nat)-x)/\ (q3/\ q1)))))|false=>False)|false=>False)|false=>(((pinIdx ts pin=(-1:Int))/\ True)/\ q1)))))
theorem idxCVc (m now:Int) (ts:List (Option Rnr)) (RL:List EThing) (RM:List (Int×Int)) (DL:List VThing) (DM:List (Int×Int)) (ev:List Ev) (nt:List Note) (pin:Int):fnX X43 ((idxCA m ts pin)) Tryz.f105 [.aview 0 2 64, .fn 66 [.ptr 1 0]] (cs5 m now ts RL RM DL DM ev nt pin) (ends (cs5 m now ts RL RM DL DM ev nt pin) (idxCE0 m now ts RL RM DL DM ev nt pin))=idxCText m now ts RL RM DL DM ev nt pin:=by kernel_rfl
theorem idxCHolds (m now:Int) (ts:List (Option Rnr)) (RL:List EThing) (RM:List (Int×Int)) (DL:List VThing) (DM:List (Int×Int)) (ev:List Ev) (nt:List Note) (pin:Int) (hp:ts.length=64):idxCText m now ts RL RM DL DM ev nt pin:=by
 unfold idxCText
 conv=>zeta
 refine ⟨⟨0,⟨Nat.zero_le _,rfl⟩,by repeat' first|exact True.intro|with_reducible rfl|apply And.intro|exact rfl⟩, ?_⟩
 rintro x ⟨h1,h2⟩
 by_cases c:x<64
 ·have hl:x<ts.length:=by omega
  have hw:((x+1:Nat):Int)=IntKind.i64.wrap ((x:Int)+1):=by rw [wrap_id (by omega) (by omega)];rfl
  refine mD (by omega) (mT (inb_nat c) (mT (inb_nat c) ?_))
  have hg:=atO_get hl
  have hn:=any_take (pinB pin) hl h2
  rw [←hg] at hn
  cases ha:(atO ts (x:Int)).isSome
  ·have hp:pinB pin (atO ts (x:Int))=false:=by
    cases hq:atO ts (x:Int) with
    |none=>rfl
    |some t=>rw [hq] at ha;cases ha
   refine ⟨x+1,⟨c,by rw [hn,hp]⟩,by omega, ?_⟩
   repeat' first|exact hw|exact True.intro|with_reducible rfl|apply And.intro|exact rfl
  ·have hset:=set_rnAt ha
   have hp:pinB pin (atO ts (x:Int))=(pin != -1&&((atO ts (x:Int)).getD rnrL.zero).pin==pin):=by
    cases hq:atO ts (x:Int) with
    |none=>rw [hq] at ha;cases ha
    |some t=>rfl
   cases hq:(pin != -1&&((atO ts (x:Int)).getD rnrL.zero).pin==pin)
   ·refine ⟨x+1,⟨c,by rw [hn,hp,hq]⟩,by omega, ?_⟩
    repeat' first|exact hw|exact True.intro|with_reducible rfl|apply And.intro|exact hset.symm|exact rfl
   ·have hi:pinIdx ts pin=(x:Int):=by
     have e:pinB pin ts[x]=true:=by rw [←hg,hp,hq]
     have e1:pinIn ts pin=true:=List.any_eq_true.2 ⟨ts[x],List.getElem_mem hl,e⟩
     unfold pinIdx
     rw [e1,findIdx_at _ ts x hl h2 e]
     rfl
    repeat' first|exact hi|exact True.intro|with_reducible rfl|apply And.intro|exact hset.symm|exact rfl
 ·refine mN (by omega) ?_
  have e:pinIn ts pin=false:=by
   rw [List.take_of_length_le (by omega)] at h2
   exact h2
  have hi:pinIdx ts pin= -1:=by unfold pinIdx;rw [e];rfl
  repeat' first|exact hi|exact True.intro|with_reducible rfl|apply And.intro|exact rfl
set_option maxHeartbeats 4000000 in
noncomputable def idxCCon:Con T O:=fun args cs=>match args,cs with
 |[.aview 0 2 64, .fn 66 [.ptr 1 0]],[.tab [.raw (.int .i64 m), .raw (.int .i64 now)] 0 64 ts none [.ptr 2 0, .ptr 3 0, .own 4, .own 5] 105, .cells [.raw (.int .i64 pin)] 3, .cells [.fn 40 [], .own 6, .own 7] 146, .cells [.ptr 8 0] 156, .vec 4 ev 151, .que 7 nt 84, .vec 5 RL 200, .map 0 RM, .cells [.fn 83 [], .own 9, .own 10] 198, .vec 6 DL 242, .map 0 DM]=>chk (decide (ts.length=64)) (.ret (idxCE0 m now ts RL RM DL DM ev nt pin))
 |_,_=> .fail
theorem idxCOk:ConOk R Tryz.prog 105 idxCCon:=con_of_fn R (X43) (good (X43) rfl (TabOk.con R X43Ok)) mixed Tryz.call105 Tryz.func105 idxCCon (by
 intro args cs K h
 unfold idxCCon at h
 split at h
 ·rename_i m now ts pin ev nt RL RM DL DM
  rw [Tree.holds_chk] at h
  obtain ⟨hp,h⟩:=h
  refine ⟨(idxCA m ts pin),_,fun v S hv=>⟨_,h,hv⟩, ?_⟩
  have hv:=idxCVc m now ts RL RM DL DM ev nt pin
  unfold cs5 at hv
  rw [hv]
  exact idxCHolds m now ts RL RM DL DM ev nt pin (of_decide_eq_true hp)
 ·exact h.elim)
noncomputable def tab44:Tab T O:=(105,idxCCon)::tab43
theorem tabOk44:TabOk R Tryz.prog tab44:=TabOk.cons R idxCOk<|tabOk43
noncomputable def X44:Ctx T O:= { X0 with con:=conOf tab44 }
theorem X44Ok:TabOk R X44.P tab44:=tabOk44
end Go.Proofs.YtlfjbnflfdnoaaaGreat
namespace Go.Proofs.YtlfjbnflfdnoaaaGreat
open Go.Sx Go.Proofs Classical
def newRnr (E P now:Int) (early:Bool) (pin:Int):Rnr:=⟨⟨E,P,early,false,advN (st0 E P now),[],subZ,0⟩,1,early,pin,-1,now,0,0,0⟩
def putE (g:EG) (id E P pin:Int):Int:=bif !idOk id|| !windowCheck E P||decide (pin< -1)||decide (pin>=g.m) then 1 else bif (atO g.ts id).isSome then 14 else bif pinIn g.ts pin then 19 else 0
def putG (g:EG) (id E P:Int) (early:Bool) (pin:Int):EG:=bif putE g id E P pin==0 then { g with ts:=g.ts.set id.toNat (some (newRnr E P g.now early pin)) } else g
def arrT (now n:Int) (t:Rnr):Rnr:=bif arrE now n t.t.cut t.t.waits==0 then { t with t:= { t.t with st:=arrS now n.toNat t.t.st,waits:=t.t.waits++arrL now n.toNat t.t.st } } else t
def arrEG (g:EG) (id n:Int):Int:=bif !idOk id||decide (n<1)||decide (n>64) then 1 else bif !(atO g.ts id).isSome then 12 else bif (rnAt g.ts id).stage==2 then 13 else bif (rnAt g.ts id).stage==3 then (bif decide ((rnAt g.ts id).kept+n>64) then 15 else 0) else arrE g.now n (rnAt g.ts id).t.cut (rnAt g.ts id).t.waits
def setT' (g:EG) (id:Int) (t:Rnr):EG:= { g with ts:=g.ts.set id.toNat (some t) }
def arrG (g:EG) (id n:Int):EG:=bif !idOk id||decide (n<1)||decide (n>64) then g else bif !(atO g.ts id).isSome then g else bif (rnAt g.ts id).stage==2 then g else bif (rnAt g.ts id).stage==3 then (bif decide ((rnAt g.ts id).kept+n>64) then g else setT' g id { rnAt g.ts id with kept:=(rnAt g.ts id).kept+n }) else filesG (setT' g id (arrT g.now n (rnAt g.ts id))) id
def leavesG (g:EG) (id:Int):EG:=tellsG { g with ts:=g.ts.set id.toNat none } id 2
def rewT (now:Int) (t:Rnr):Rnr:=bif decide (t.kept>0) then arrT now t.kept { newRnr t.nE t.nP now t.early t.pin with last:=t.last } else { newRnr t.nE t.nP now t.early t.pin with last:=t.last }
def reweightsG (g:EG) (id:Int):EG:=tellsG (setT' g id (rewT g.now (rnAt g.ts id))) id 3
def FilesP (g:EG) (id:Int):Prop:=0<=id/\ id<64/\ g.ts.length=64/\ g.rq.1.length<=999/\ g.dq.1.length<=999/\ (ethereB id g.rq.2=true->0<=ewhereI id g.rq.2/\ ewhereI id g.rq.2<g.rq.1.length)/\ (vthereB (calendarNumber id 0) g.dq.2=true->0<=vwhereI (calendarNumber id 0) g.dq.2/\ vwhereI (calendarNumber id 0) g.dq.2<g.dq.1.length)
def ArrTP (now n:Int) (t:Rnr):Prop:=t.t.waits.length<=64/\ (arrE now n t.t.cut t.t.waits=0-> ∀k:Nat,k<n.toNat->AdvP (arr1 now (arrS now k t.t.st)))
noncomputable def contCE0 (m:Int) (now:Int) (ts:List (Option Rnr)) (RL:List EThing) (RM:List (Int×Int)) (DL:List VThing) (DM:List (Int×Int)) (ev:List Ev) (nt:List Note) (pin:Int):Eff T O:=⟨some (.raw (.bool (pinIn ts pin))),[(0,some (.tab [.raw (.int .i64 m), .raw (.int .i64 now)] 0 64 ts none [.ptr 2 0, .ptr 3 0, .own 4, .own 5] 105)),(4,some (.vec 4 ev 151)),(5,some (.que 7 nt 84)),(6,some (.vec 5 RL 200)),(7,some (.map 0 RM)),(9,some (.vec 6 DL 242)),(10,some (.map 0 DM))]⟩
def contCText (m now:Int) (ts:List (Option Rnr)) (RL:List EThing) (RM:List (Int×Int)) (DL:List VThing) (DM:List (Int×Int)) (ev:List Ev) (nt:List Note) (pin:Int):Prop:=let q0:=(True/\ (True/\ (True/\ True)));(match (decide (ts.length=(64:Nat))) with|true=>(((pinIn ts pin=decide (pinIdx ts pin>=(0:Int)))/\ True)/\ ((((m=m)/\ ((now=now)/\ True))/\ ((ts=ts)/\ ((True/\ q0)/\ True)))/\ (((pin=pin)/\ True)/\ (q0/\ ((True/\ True)/\ ((ev=ev)/\ ((nt=nt)/\ ((RL=RL)/\ ((RM=RM)/\ (q0/\ ((DL=DL)/\ ((DM=DM)/\ True))))))))))))|false=>False)
theorem contCVc (m now:Int) (ts:List (Option Rnr)) (RL:List EThing) (RM:List (Int×Int)) (DL:List VThing) (DM:List (Int×Int)) (ev:List Ev) (nt:List Note) (pin:Int):fnX X44 (noAnn) Tryz.f67 [.aview 0 2 64, .fn 66 [.ptr 1 0]] (cs5 m now ts RL RM DL DM ev nt pin) (ends (cs5 m now ts RL RM DL DM ev nt pin) (contCE0 m now ts RL RM DL DM ev nt pin))=contCText m now ts RL RM DL DM ev nt pin:=by kernel_rfl
theorem contCHolds (m now:Int) (ts:List (Option Rnr)) (RL:List EThing) (RM:List (Int×Int)) (DL:List VThing) (DM:List (Int×Int)) (ev:List Ev) (nt:List Note) (pin:Int) (hp:ts.length=64):contCText m now ts RL RM DL DM ev nt pin:=by
 unfold contCText
 conv=>zeta
 refine mD hp ?_
 have hi:pinIn ts pin=decide (pinIdx ts pin>=0):=by
  unfold pinIdx
  cases pinIn ts pin
  ·rfl
  ·rw [cond_true,decide_eq_true (by omega)]
 repeat' first|exact hi|exact True.intro|with_reducible rfl|apply And.intro|exact rfl
set_option maxHeartbeats 4000000 in
noncomputable def contCCon:Con T O:=fun args cs=>match args,cs with
 |[.aview 0 2 64, .fn 66 [.ptr 1 0]],[.tab [.raw (.int .i64 m), .raw (.int .i64 now)] 0 64 ts none [.ptr 2 0, .ptr 3 0, .own 4, .own 5] 105, .cells [.raw (.int .i64 pin)] 3, .cells [.fn 40 [], .own 6, .own 7] 146, .cells [.ptr 8 0] 156, .vec 4 ev 151, .que 7 nt 84, .vec 5 RL 200, .map 0 RM, .cells [.fn 83 [], .own 9, .own 10] 198, .vec 6 DL 242, .map 0 DM]=>chk (decide (ts.length=64)) (.ret (contCE0 m now ts RL RM DL DM ev nt pin))
 |_,_=> .fail
theorem contCOk:ConOk R Tryz.prog 67 contCCon:=con_of_fn R (X44) (good (X44) rfl (TabOk.con R X44Ok)) mixed Tryz.call67 Tryz.func67 contCCon (by
 intro args cs K h
 unfold contCCon at h
 split at h
 ·rename_i m now ts pin ev nt RL RM DL DM
  rw [Tree.holds_chk] at h
  obtain ⟨hp,h⟩:=h
  refine ⟨noAnn,_,fun v S hv=>⟨_,h,hv⟩, ?_⟩
  have hv:=contCVc m now ts RL RM DL DM ev nt pin
  unfold cs5 at hv
  rw [hv]
  exact contCHolds m now ts RL RM DL DM ev nt pin (of_decide_eq_true hp)
 ·exact h.elim)
def ofCK0Text (id:Int):Prop:=(((Value.pointer none=Value.pointer none)/\ True)/\ True)
theorem ofCK0Vc (id:Int):fnX X44 (noAnn) Tryz.f58 [.raw (.pointer none), .raw (.int .i64 id)] [] (ends [] ⟨some (.raw (.pointer none)),[]⟩)=ofCK0Text id:=by kernel_rfl
theorem ofCK0Holds (id:Int):ofCK0Text id:=by
 unfold ofCK0Text
 repeat' first|trivial|rfl|apply And.intro
noncomputable def ofCK1E0 (m:Int) (now:Int) (ts:List (Option Rnr)) (RL:List EThing) (RM:List (Int×Int)) (DL:List VThing) (DM:List (Int×Int)) (ev:List Ev) (nt:List Note) (id:Int):Eff T O:=⟨some (.ptr 10 0),[(0,some (.tab [.raw (.int .i64 m), .raw (.int .i64 now)] 0 64 ts (some (id,10)) [.ptr 1 0, .ptr 2 0, .own 3, .own 4] 105)),(10,some (.cells [.ptr 11 0, .raw (.int .i64 ((rnAt ts id).stage)), .raw (.bool (rnAt ts id).early), .raw (.int .i64 ((rnAt ts id).pin)), .raw (.int .i64 ((rnAt ts id).last)), .raw (.int .i64 ((rnAt ts id).since)), .raw (.int .i64 ((rnAt ts id).nE)), .raw (.int .i64 ((rnAt ts id).nP)), .raw (.int .i64 ((rnAt ts id).kept))] 111)),(11,some (.cells [.raw (.int .i64 ((rnAt ts id).t.E)), .raw (.int .i64 ((rnAt ts id).t.P)), .raw (.bool (rnAt ts id).t.early), .raw (.bool (rnAt ts id).t.cut), .ptr 12 0, .own 13, .raw (.int .i64 ((rnAt ts id).t.ran.Index)), .raw (.int .i64 ((rnAt ts id).t.ran.Release)), .raw (.int .i64 ((rnAt ts id).t.ran.Deadline)), .raw (.int .i64 ((rnAt ts id).t.ran.Bit)), .raw (.int .i64 ((rnAt ts id).t.ran.Group)), .raw (.int .i64 ((rnAt ts id).t.done))] 179)),(12,some (.cells [.raw (.int .i64 ((rnAt ts id).t.st.E)), .raw (.int .i64 ((rnAt ts id).t.st.P)), .raw (.int .i64 ((rnAt ts id).t.st.off)), .raw (.int .i64 ((rnAt ts id).t.st.idx)), .raw (.int .i64 ((rnAt ts id).t.st.whole)), .raw (.int .i64 ((rnAt ts id).t.st.rest)), .raw (.int .i64 ((rnAt ts id).t.st.ew)), .raw (.int .i64 ((rnAt ts id).t.st.el)), .raw (.int .i64 ((rnAt ts id).t.st.eo)), .raw (.int .i64 ((rnAt ts id).t.st.long)), .raw (.int .i64 ((rnAt ts id).t.st.part)), .raw (.int .i64 ((rnAt ts id).t.st.gw)), .raw (.int .i64 ((rnAt ts id).t.st.gl)), .raw (.int .i64 ((rnAt ts id).t.st.go)), .raw (.int .i64 ((rnAt ts id).t.st.sub.Index)), .raw (.int .i64 ((rnAt ts id).t.st.sub.Release)), .raw (.int .i64 ((rnAt ts id).t.st.sub.Deadline)), .raw (.int .i64 ((rnAt ts id).t.st.sub.Bit)), .raw (.int .i64 ((rnAt ts id).t.st.sub.Group))] 226)),(13,some (.que 2 (rnAt ts id).t.waits 39)),(3,some (.vec 4 ev 151)),(4,some (.que 7 nt 84)),(5,some (.vec 5 RL 200)),(6,some (.map 0 RM)),(8,some (.vec 6 DL 242)),(9,some (.map 0 DM))]⟩
noncomputable def ofCK1E1 (m:Int) (now:Int) (ts:List (Option Rnr)) (RL:List EThing) (RM:List (Int×Int)) (DL:List VThing) (DM:List (Int×Int)) (ev:List Ev) (nt:List Note):Eff T O:=⟨some (.raw (.pointer none)),[(0,some (.tab [.raw (.int .i64 m), .raw (.int .i64 now)] 0 64 (ts) none [.ptr 1 0, .ptr 2 0, .own 3, .own 4] 105)),(3,some (.vec 4 ev 151)),(4,some (.que 7 nt 84)),(5,some (.vec 5 RL 200)),(6,some (.map 0 RM)),(8,some (.vec 6 DL 242)),(9,some (.map 0 DM))]⟩
def ofCK1Text (m now:Int) (ts:List (Option Rnr)) (RL:List EThing) (RM:List (Int×Int)) (DL:List VThing) (DM:List (Int×Int)) (ev:List Ev) (nt:List Note) (id:Int):Prop:=let q0:=((atO ts id).getD rnrL.zero);let q4:=((m=m)/\ ((now=now)/\ True));let q2:=(True/\ (True/\ (True/\ True)));let q3:=(q2/\ ((True/\ True)/\ ((ev=ev)/\ ((nt=nt)/\ ((RL=RL)/\ ((RM=RM)/\ (q2/\ ((DL=DL)/\ ((DM=DM)/\ True)))))))));let q1:=(match (idOk id&&(atO ts id).isSome) with|true=>False|false=>(((Value.pointer none=Value.pointer none)/\ True)/\ ((q4/\ ((ts=ts)/\ ((True/\ q2)/\ True)))/\ q3)));(match (!idOk id) with|true=>q1|false=>(match (inb id (64:Nat)) with|true=>(match (inb id (64:Nat)) with|true=>(match ((atO ts id).isSome) with|true=>(match (idOk id&&(atO ts id).isSome) with|true=>((True/\ True)/\ ((q4/\ ((ts=ts)/\ ((True/\ q2)/\ (id=id))))/\ (q2/\ ((True/\ True)/\ ((ev=ev)/\ ((nt=nt)/\ ((RL=RL)/\ ((RM=RM)/\ (q2/\ ((DL=DL)/\ ((DM=DM)/\ ((True/\ (((rnAt ts id).stage=q0.stage)/\ (((rnAt ts id).early=q0.early)/\ (((rnAt ts id).pin=q0.pin)/\ (((rnAt ts id).last=q0.last)/\ (((rnAt ts id).since=q0.since)/\ (((rnAt ts id).nE=q0.nE)/\ (((rnAt ts id).nP=q0.nP)/\ (((rnAt ts id).kept=q0.kept)/\ True)))))))))/\ ((((rnAt ts id).t.E=q0.t.E)/\ (((rnAt ts id).t.P=q0.t.P)/\ (((rnAt ts id).t.early=q0.t.early)/\ (((rnAt ts id).t.cut=q0.t.cut)/\ (True/\ (True/\ (((rnAt ts id).t.ran.Index=q0.t.ran.Index)/\ (((rnAt ts id).t.ran.Release=q0.t.ran.Release)/\ (((rnAt ts id).t.ran.Deadline=q0.t.ran.Deadline)/\ (((rnAt ts id).t.ran.Bit=q0.t.ran.Bit)/\ (((rnAt ts id).t.ran.Group=q0.t.ran.Group)/\ (((rnAt ts id).t.done=q0.t.done)/\ True))))))))))))/\ ((((rnAt ts id).t.st.E=q0.t.st.E)/\ (((rnAt ts id).t.st.P=q0.t.st.P)/\ (((rnAt ts id).t.st.off=q0.t.st.off)/\ (((rnAt ts id).t.st.idx=q0.t.st.idx)/\ (((rnAt ts id).t.st.whole=q0.t.st.whole)/\ (((rnAt ts id).t.st.rest=q0.t.st.rest)/\ (((rnAt ts id).t.st.ew=q0.t.st.ew)/\ (((rnAt ts id).t.st.el=q0.t.st.el)/\ (((rnAt ts id).t.st.eo=q0.t.st.eo)/\ (((rnAt ts id).t.st.long=q0.t.st.long)/\ (((rnAt ts id).t.st.part=q0.t.st.part)/\ (((rnAt ts id).t.st.gw=q0.t.st.gw)/\ (((rnAt ts id).t.st.gl=q0.t.st.gl)/\ (((rnAt ts id).t.st.go=q0.t.st.go)/\ (((rnAt ts id).t.st.sub.Index=q0.t.st.sub.Index)/\ (((rnAt ts id).t.st.sub.Release=q0.t.st.sub.Release)/\ (((rnAt ts id).t.st.sub.Deadline=q0.t.st.sub.Deadline)/\ (((rnAt ts id).t.st.sub.Bit=q0.t.st.sub.Bit)/\ (((rnAt ts id).t.st.sub.Group=q0.t.st.sub.Group)/\ True)))))))))))))))))))/\ (((rnAt ts id).t.waits=q0.t.waits)/\ True)))))))))))))))|false=>((False/\ True)/\ ((q4/\ ((ts=ts)/\ ((True/\ q2)/\ False)))/\ q3)))|false=>q1)|false=>False)|false=>False))
theorem ofCK1Vc (m now:Int) (ts:List (Option Rnr)) (RL:List EThing) (RM:List (Int×Int)) (DL:List VThing) (DM:List (Int×Int)) (ev:List Ev) (nt:List Note) (id:Int):fnX X44 (noAnn) Tryz.f58 [.ptr 0 0, .raw (.int .i64 id)] (cs3 m now ts RL RM DL DM ev nt) (endsIf (idOk id&&(atO ts id).isSome) (cs3 m now ts RL RM DL DM ev nt) (ofCK1E0 m now ts RL RM DL DM ev nt id) (ofCK1E1 m now ts RL RM DL DM ev nt))=ofCK1Text m now ts RL RM DL DM ev nt id:=by kernel_rfl
theorem ofCK1Holds (m now:Int) (ts:List (Option Rnr)) (RL:List EThing) (RM:List (Int×Int)) (DL:List VThing) (DM:List (Int×Int)) (ev:List Ev) (nt:List Note) (id:Int):ofCK1Text m now ts RL RM DL DM ev nt id:=by
 unfold ofCK1Text
 conv=>zeta
 cases h1:idOk id
 ·repeat' first|exact True.intro|with_reducible rfl|apply And.intro|exact rfl
 ·have hi:=idOk_inb h1
  refine mT hi (mT hi ?_)
  cases h2:(atO ts id).isSome
  ·repeat' first|exact True.intro|with_reducible rfl|apply And.intro|exact rfl
  ·repeat' first|exact True.intro|with_reducible rfl|apply And.intro|exact rfl
set_option maxHeartbeats 4000000 in
noncomputable def ofCCon:Con T O:=fun args cs=>match args,cs with
 |[.raw (.pointer none), .raw (.int .i64 _)],[]=> .ret ⟨some (.raw (.pointer none)),[]⟩
 |[.ptr 0 0, .raw (.int .i64 id)],[.tab [.raw (.int .i64 m), .raw (.int .i64 now)] 0 64 (ts) none [.ptr 1 0, .ptr 2 0, .own 3, .own 4] 105, .cells [.fn 40 [], .own 5, .own 6] 146, .cells [.ptr 7 0] 156, .vec 4 ev 151, .que 7 nt 84, .vec 5 RL 200, .map 0 RM, .cells [.fn 83 [], .own 8, .own 9] 198, .vec 6 DL 242, .map 0 DM]=> .ite (idOk id&&(atO ts id).isSome) (.ret (ofCK1E0 m now ts RL RM DL DM ev nt id)) (.ret (ofCK1E1 m now ts RL RM DL DM ev nt))
 |_,_=> .fail
theorem ofCOk:ConOk R Tryz.prog 58 ofCCon:=con_of_fn R (X44) (good (X44) rfl (TabOk.con R X44Ok)) mixed Tryz.call58 Tryz.func58 ofCCon (by
 intro args cs K h
 unfold ofCCon at h
 split at h
 ·rename_i id
  refine ⟨noAnn,_,fun v S hv=>⟨_,h,hv⟩, ?_⟩
  rw [ofCK0Vc id]
  exact ofCK0Holds id
 ·rename_i id m now ts ev nt RL RM DL DM
  refine ⟨noAnn,_,fun v S hv=>holds_if h v S hv, ?_⟩
  have hv:=ofCK1Vc m now ts RL RM DL DM ev nt id
  unfold cs3 at hv
  rw [hv]
  exact ofCK1Holds m now ts RL RM DL DM ev nt id
 ·exact h.elim)
noncomputable def tab45:Tab T O:=(67,contCCon)::(58,ofCCon)::tab44
theorem tabOk45:TabOk R Tryz.prog tab45:=TabOk.cons R contCOk<|TabOk.cons R ofCOk<|tabOk44
noncomputable def X45:Ctx T O:= { X0 with con:=conOf tab45 }
theorem X45Ok:TabOk R X45.P tab45:=tabOk45
end Go.Proofs.YtlfjbnflfdnoaaaGreat
namespace Go.Proofs.YtlfjbnflfdnoaaaGreat
open Go.Sx Go.Proofs Classical
def ePutCK0Text (id E P:Int) (early:Bool) (pin:Int):Prop:=((((1:Int)=(1:Int))/\ True)/\ True)
theorem ePutCK0Vc (id E P:Int) (early:Bool) (pin:Int):fnX X45 (noAnn) Tryz.f23 [.raw (.pointer none), .raw (.int .i64 id), .agg [.raw (.int .i64 E), .raw (.int .i64 P)], .raw (.bool early), .raw (.int .i64 pin)] [] (ends [] ⟨some (.raw (.int .i64 1)),[]⟩)=ePutCK0Text id E P early pin:=by kernel_rfl
theorem ePutCK0Holds (id E P:Int) (early:Bool) (pin:Int):ePutCK0Text id E P early pin:=by
 unfold ePutCK0Text
 repeat' first|trivial|rfl|apply And.intro
noncomputable def ePutCK1E0 (m:Int) (now:Int) (ts:List (Option Rnr)) (RL:List EThing) (RM:List (Int×Int)) (DL:List VThing) (DM:List (Int×Int)) (ev:List Ev) (nt:List Note) (id:Int) (E:Int) (P:Int) (early:Bool) (pin:Int):Eff T O:=⟨some (.raw (.int .i64 ((putE ⟨m,now,ts,(RL,RM),(DL,DM),ev,nt⟩ id E P pin)))),[(0,some (.tab [.raw (.int .i64 ((putG ⟨m,now,ts,(RL,RM),(DL,DM),ev,nt⟩ id E P early pin).m)), .raw (.int .i64 ((putG ⟨m,now,ts,(RL,RM),(DL,DM),ev,nt⟩ id E P early pin).now))] 0 64 ((putG ⟨m,now,ts,(RL,RM),(DL,DM),ev,nt⟩ id E P early pin).ts) none [.ptr 1 0, .ptr 2 0, .own 10, .own 11] 105)),(1,some (.cells [.fn 40 [], .own 12, .own 6] 146)),(3,none),(4,none),(5,none),(6,some (.map 0 (putG ⟨m,now,ts,(RL,RM),(DL,DM),ev,nt⟩ id E P early pin).rq.2)),(7,some (.cells [.fn 83 [], .own 13, .own 9] 198)),(8,none),(9,some (.map 0 (putG ⟨m,now,ts,(RL,RM),(DL,DM),ev,nt⟩ id E P early pin).dq.2)),(10,some (.vec 4 (putG ⟨m,now,ts,(RL,RM),(DL,DM),ev,nt⟩ id E P early pin).ev 151)),(11,some (.que 7 (putG ⟨m,now,ts,(RL,RM),(DL,DM),ev,nt⟩ id E P early pin).nt 84)),(12,some (.vec 5 (putG ⟨m,now,ts,(RL,RM),(DL,DM),ev,nt⟩ id E P early pin).rq.1 200)),(13,some (.vec 6 (putG ⟨m,now,ts,(RL,RM),(DL,DM),ev,nt⟩ id E P early pin).dq.1 242))]⟩
def ePutCK1Text (m now:Int) (ts:List (Option Rnr)) (RL:List EThing) (RM:List (Int×Int)) (DL:List VThing) (DM:List (Int×Int)) (ev:List Ev) (nt:List Note) (id E P:Int) (early:Bool) (pin:Int):Prop:=let q3:=(EG.mk m now ts (RL,RM) (DL,DM) ev nt);let q0:=(putG q3 id E P early pin);let q5:=(True/\ (True/\ (True/\ True)));let q6:=((q0.m=m)/\ ((q0.now=now)/\ True));let q2:=(q5/\ ((True/\ True)/\ ((q0.rq.snd=RM)/\ (q5/\ ((q0.dq.snd=DM)/\ ((q0.ev=ev)/\ ((q0.nt=nt)/\ ((q0.rq.fst=RL)/\ ((q0.dq.fst=DL)/\ True)))))))));let q1:=((q6/\ ((q0.ts=ts)/\ ((True/\ q5)/\ True)))/\ q2);let q4:=(((putE q3 id E P pin=(1:Int))/\ True)/\ q1);(match (!idOk id) with|true=>q4|false=>(match (!windowCheck E P) with|true=>q4|false=>(match (decide (pin<(-1:Int))) with|true=>q4|false=>(match (decide (pin>=m)) with|true=>q4|false=>(match (inb id (64:Nat)) with|true=>(match (inb id (64:Nat)) with|true=>(match ((atO ts id).isSome) with|true=>(((putE q3 id E P pin=(14:Int))/\ True)/\ ((q6/\ ((q0.ts=ts.set id.toNat (some ((atO ts id).getD rnrL.zero)))/\ ((True/\ q5)/\ True)))/\ q2))|false=>(match (decide (ts.length=(64:Nat))) with|true=>(match (pinIn ts pin) with|true=>(((putE q3 id E P pin=(19:Int))/\ True)/\ q1)|false=>(match (decide (windowCheck E P=true/\ (0:Int)<=now/\ now<=(1099511627776:Int))) with|true=>(match (inb id (64:Nat)) with|true=>(match (inb id (64:Nat)) with|true=>(((putE q3 id E P pin=(0:Int))/\ True)/\ ((q6/\ ((q0.ts=ts.set id.toNat (some (Rnr.mk (Tsk.mk E P early false (advN (st0 E P now)) noSubs subZ (0:Int)) (1:Int) early pin (-1:Int) now (0:Int) (0:Int) (0:Int))))/\ ((True/\ q5)/\ True)))/\ q2))|false=>False)|false=>False)|false=>False))|false=>False))|false=>False)|false=>False)))))
theorem ePutCK1Vc (m now:Int) (ts:List (Option Rnr)) (RL:List EThing) (RM:List (Int×Int)) (DL:List VThing) (DM:List (Int×Int)) (ev:List Ev) (nt:List Note) (id E P:Int) (early:Bool) (pin:Int):fnX X45 (annOf [] [] [] [4]) Tryz.f23 [.ptr 0 0, .raw (.int .i64 id), .agg [.raw (.int .i64 E), .raw (.int .i64 P)], .raw (.bool early), .raw (.int .i64 pin)] (cs3 m now ts RL RM DL DM ev nt) (ends (cs3 m now ts RL RM DL DM ev nt) (ePutCK1E0 m now ts RL RM DL DM ev nt id E P early pin))=ePutCK1Text m now ts RL RM DL DM ev nt id E P early pin:=by kernel_rfl
theorem ePutCK1Holds (m now:Int) (ts:List (Option Rnr)) (RL:List EThing) (RM:List (Int×Int)) (DL:List VThing) (DM:List (Int×Int)) (ev:List Ev) (nt:List Note) (id E P:Int) (early:Bool) (pin:Int) (hp:ts.length=64/\ 0<=now/\ now<=1099511627776):ePutCK1Text m now ts RL RM DL DM ev nt id E P early pin:=by
 unfold ePutCK1Text
 conv=>zeta
 obtain ⟨hts,n0,n1⟩:=hp
 cases h1:idOk id
 ·simp only [putE,putG,h1,Bool.not_false,Bool.true_or,cond_true]
  repeat' first|exact True.intro|with_reducible rfl|apply And.intro|exact rfl
 have hi:=idOk_inb h1
 cases h2:windowCheck E P
 ·simp only [putE,putG,h1,h2,Bool.not_false,Bool.not_true,Bool.true_or,Bool.or_true,Bool.false_or,cond_true]
  repeat' first|exact True.intro|with_reducible rfl|apply And.intro|exact rfl
 cases h3:decide (pin< -1)
 case true=>
  simp only [putE,putG,h1,h2,h3,Bool.not_false,Bool.not_true,Bool.true_or,Bool.or_true,Bool.false_or,cond_true]
  repeat' first|exact True.intro|with_reducible rfl|apply And.intro|exact rfl
 cases h4:decide (pin>=m)
 case true=>
  simp only [putE,putG,h1,h2,h3,h4,Bool.not_false,Bool.not_true,Bool.true_or,Bool.or_true,Bool.false_or,cond_true]
  repeat' first|exact True.intro|with_reducible rfl|apply And.intro|exact rfl
 refine mT hi (mT hi ?_)
 cases h5:(atO ts id).isSome
 case true=>
  have hset:=set_rnAt h5
  simp only [putE,putG,h1,h2,h3,h4,h5,Bool.not_false,Bool.not_true,Bool.true_or,Bool.or_true,Bool.false_or,cond_true,cond_false]
  repeat' first|exact True.intro|with_reducible rfl|apply And.intro|exact hset.symm|exact rfl
 refine mD hts ?_
 cases h6:pinIn ts pin
 case true=>
  simp only [putE,putG,h1,h2,h3,h4,h5,h6,Bool.not_false,Bool.not_true,Bool.true_or,Bool.or_true,Bool.false_or,cond_true,cond_false]
  repeat' first|exact True.intro|with_reducible rfl|apply And.intro|exact rfl
 refine mD ⟨rfl,n0,n1⟩ (mT hi (mT hi ?_))
 simp only [putE,putG,h1,h2,h3,h4,h5,h6,Bool.not_false,Bool.not_true,Bool.true_or,Bool.or_true,Bool.false_or,cond_true,cond_false]
 repeat' first|exact True.intro|with_reducible rfl|apply And.intro|exact rfl
set_option maxHeartbeats 4000000 in
noncomputable def ePutCCon:Con T O:=fun args cs=>match args,cs with
 |[.raw (.pointer none), .raw (.int .i64 _), .agg [.raw (.int .i64 _), .raw (.int .i64 _)], .raw (.bool _), .raw (.int .i64 _)],[]=> .ret ⟨some (.raw (.int .i64 1)),[]⟩
 |[.ptr 0 0, .raw (.int .i64 id), .agg [.raw (.int .i64 E), .raw (.int .i64 P)], .raw (.bool early), .raw (.int .i64 pin)],[.tab [.raw (.int .i64 m), .raw (.int .i64 now)] 0 64 (ts) none [.ptr 1 0, .ptr 2 0, .own 3, .own 4] 105, .cells [.fn 40 [], .own 5, .own 6] 146, .cells [.ptr 7 0] 156, .vec 4 ev 151, .que 7 nt 84, .vec 5 RL 200, .map 0 RM, .cells [.fn 83 [], .own 8, .own 9] 198, .vec 6 DL 242, .map 0 DM]=>chk (decide (ts.length=64/\ 0<=now/\ now<=1099511627776)) (.ret (ePutCK1E0 m now ts RL RM DL DM ev nt id E P early pin))
 |_,_=> .fail
theorem ePutCOk:ConOk R Tryz.prog 23 ePutCCon:=con_of_fn R (X45) (good (X45) rfl (TabOk.con R X45Ok)) mixed Tryz.call23 Tryz.func23 ePutCCon (by
 intro args cs K h
 unfold ePutCCon at h
 split at h
 ·rename_i id E P early pin
  refine ⟨noAnn,_,fun v S hv=>⟨_,h,hv⟩, ?_⟩
  rw [ePutCK0Vc id E P early pin]
  exact ePutCK0Holds id E P early pin
 ·rename_i id E P early pin m now ts ev nt RL RM DL DM
  rw [Tree.holds_chk] at h
  obtain ⟨hp,h⟩:=h
  refine ⟨annOf [] [] [] [4],_,fun v S hv=>⟨_,h,hv⟩, ?_⟩
  have hv:=ePutCK1Vc m now ts RL RM DL DM ev nt id E P early pin
  unfold cs3 at hv
  rw [hv]
  exact ePutCK1Holds m now ts RL RM DL DM ev nt id E P early pin (of_decide_eq_true hp)
 ·exact h.elim)
def eArrCK0Text (id n:Int):Prop:=((((1:Int)=(1:Int))/\ True)/\ True)
theorem eArrCK0Vc (id n:Int):fnX X45 (noAnn) Tryz.f25 [.raw (.pointer none), .raw (.int .i64 id), .raw (.int .i64 n)] [] (ends [] ⟨some (.raw (.int .i64 1)),[]⟩)=eArrCK0Text id n:=by kernel_rfl
theorem eArrCK0Holds (id n:Int):eArrCK0Text id n:=by
 unfold eArrCK0Text
 repeat' first|trivial|rfl|apply And.intro
noncomputable def eArrCK1E0 (m:Int) (now:Int) (ts:List (Option Rnr)) (RL:List EThing) (RM:List (Int×Int)) (DL:List VThing) (DM:List (Int×Int)) (ev:List Ev) (nt:List Note) (id:Int) (n:Int):Eff T O:=⟨some (.raw (.int .i64 ((arrEG ⟨m,now,ts,(RL,RM),(DL,DM),ev,nt⟩ id n)))),[(0,some (.tab [.raw (.int .i64 ((arrG ⟨m,now,ts,(RL,RM),(DL,DM),ev,nt⟩ id n).m)), .raw (.int .i64 ((arrG ⟨m,now,ts,(RL,RM),(DL,DM),ev,nt⟩ id n).now))] 0 64 ((arrG ⟨m,now,ts,(RL,RM),(DL,DM),ev,nt⟩ id n).ts) none [.ptr 1 0, .ptr 2 0, .own 10, .own 11] 105)),(1,some (.cells [.fn 40 [], .own 12, .own 6] 146)),(3,none),(4,none),(5,none),(6,some (.map 0 (arrG ⟨m,now,ts,(RL,RM),(DL,DM),ev,nt⟩ id n).rq.2)),(7,some (.cells [.fn 83 [], .own 13, .own 9] 198)),(8,none),(9,some (.map 0 (arrG ⟨m,now,ts,(RL,RM),(DL,DM),ev,nt⟩ id n).dq.2)),(10,some (.vec 4 (arrG ⟨m,now,ts,(RL,RM),(DL,DM),ev,nt⟩ id n).ev 151)),(11,some (.que 7 (arrG ⟨m,now,ts,(RL,RM),(DL,DM),ev,nt⟩ id n).nt 84)),(12,some (.vec 5 (arrG ⟨m,now,ts,(RL,RM),(DL,DM),ev,nt⟩ id n).rq.1 200)),(13,some (.vec 6 (arrG ⟨m,now,ts,(RL,RM),(DL,DM),ev,nt⟩ id n).dq.1 242))]⟩
def eArrCK1Text (m now:Int) (ts:List (Option Rnr)) (RL:List EThing) (RM:List (Int×Int)) (DL:List VThing) (DM:List (Int×Int)) (ev:List Ev) (nt:List Note) (id n:Int):Prop:=let q2:=((atO ts id).getD rnrL.zero);let q0:=(ts.set id.toNat (some (Rnr.mk (Tsk.mk q2.t.E q2.t.P q2.t.early q2.t.cut (arrS now n.toNat q2.t.st) (q2.t.waits++arrL now n.toNat q2.t.st) q2.t.ran q2.t.done) q2.stage q2.early q2.pin q2.last q2.since q2.nE q2.nP q2.kept)));let q7:=(EG.mk m now ts (RL,RM) (DL,DM) ev nt);let q1:=(arrG q7 id n);let q5:=(True/\ (True/\ (True/\ True)));let q3:=(q5/\ ((True/\ True)/\ ((q1.rq.snd=RM)/\ (q5/\ ((q1.dq.snd=DM)/\ ((q1.ev=ev)/\ ((q1.nt=nt)/\ ((q1.rq.fst=RL)/\ ((q1.dq.fst=DL)/\ True)))))))));let q4:=(filesG (EG.mk m now (ts.set id.toNat (some q2)) (RL,RM) (DL,DM) ev nt) id);let q6:=(filesG (EG.mk m now q0 (RL,RM) (DL,DM) ev nt) id);let q13:=((q1.m=m)/\ ((q1.now=now)/\ True));let q8:=((q13/\ ((q1.ts=ts)/\ ((True/\ q5)/\ True)))/\ q3);let q9:=(vthereB (calendarNumber id (0:Int)) DM=true->(0:Int)<=vwhereI (calendarNumber id (0:Int)) DM/\ vwhereI (calendarNumber id (0:Int)) DM<(↑DL.length:Int));let q10:=((q13/\ ((q1.ts=ts.set id.toNat (some q2))/\ ((True/\ q5)/\ True)))/\ q3);let q11:=(ethereB id RM=true->(0:Int)<=ewhereI id RM/\ ewhereI id RM<(↑RL.length:Int));let q12:=(((arrEG q7 id n=(1:Int))/\ True)/\ q8);(match (!idOk id) with|true=>q12|false=>(match (decide (n<(1:Int))) with|true=>q12|false=>(match (decide (n>(64:Int))) with|true=>q12|false=>(match (inb id (64:Nat)) with|true=>(match (inb id (64:Nat)) with|true=>(match ((atO ts id).isSome) with|true=>(match (q2.stage==(2:Int)) with|true=>(((arrEG q7 id n=(13:Int))/\ True)/\ q10)|false=>(match (q2.stage==(3:Int)) with|true=>(match (decide (IntKind.i64.wrap (q2.kept+n)>(64:Int))) with|true=>(((arrEG q7 id n=(15:Int))/\ True)/\ q10)|false=>(((arrEG q7 id n=(0:Int))/\ True)/\ ((q13/\ ((q1.ts=ts.set id.toNat (some (Rnr.mk q2.t q2.stage q2.early q2.pin q2.last q2.since q2.nE q2.nP (IntKind.i64.wrap (q2.kept+n)))))/\ ((True/\ q5)/\ True)))/\ q3)))|false=>(match (decide (q2.t.waits.length<=(64:Nat)/\ (arrE now n q2.t.cut q2.t.waits=(0:Int)-> ∀(k:Nat),k<n.toNat->AdvP (arr1 now (arrS now k (Stp.mk q2.t.st.E q2.t.st.P q2.t.st.off q2.t.st.idx q2.t.st.whole q2.t.st.rest q2.t.st.ew q2.t.st.el q2.t.st.eo q2.t.st.long q2.t.st.part q2.t.st.gw q2.t.st.gl q2.t.st.go (Sub.mk q2.t.st.sub.Index q2.t.st.sub.Release q2.t.st.sub.Deadline q2.t.st.sub.Bit q2.t.st.sub.Group))))))) with|true=>(match (arrE now n q2.t.cut q2.t.waits==(0:Int)) with|true=>(match (decide ((0:Int)<=id/\ id<(64:Int)/\ q0.length=(64:Nat)/\ RL.length<=(999:Nat)/\ DL.length<=(999:Nat)/\ q11/\ q9)) with|true=>(((arrEG q7 id n=(0:Int))/\ True)/\ ((((q1.m=q6.m)/\ ((q1.now=q6.now)/\ True))/\ ((q1.ts=q6.ts)/\ ((True/\ q5)/\ True)))/\ (q5/\ ((True/\ True)/\ ((q1.rq.snd=q6.rq.snd)/\ (q5/\ ((q1.dq.snd=q6.dq.snd)/\ ((q1.ev=q6.ev)/\ ((q1.nt=q6.nt)/\ ((q1.rq.fst=q6.rq.fst)/\ ((q1.dq.fst=q6.dq.fst)/\ True)))))))))))|false=>False)|false=>(match (decide ((0:Int)<=id/\ id<(64:Int)/\ (ts.set id.toNat (some q2)).length=(64:Nat)/\ RL.length<=(999:Nat)/\ DL.length<=(999:Nat)/\ q11/\ q9)) with|true=>(((arrEG q7 id n=arrE now n q2.t.cut q2.t.waits)/\ True)/\ ((((q1.m=q4.m)/\ ((q1.now=q4.now)/\ True))/\ ((q1.ts=q4.ts)/\ ((True/\ q5)/\ True)))/\ (q5/\ ((True/\ True)/\ ((q1.rq.snd=q4.rq.snd)/\ (q5/\ ((q1.dq.snd=q4.dq.snd)/\ ((q1.ev=q4.ev)/\ ((q1.nt=q4.nt)/\ ((q1.rq.fst=q4.rq.fst)/\ ((q1.dq.fst=q4.dq.fst)/\ True)))))))))))|false=>False))|false=>False)))|false=>(((arrEG q7 id n=(12:Int))/\ True)/\ q8))|false=>False)|false=>False))))
theorem eArrCK1Vc (m now:Int) (ts:List (Option Rnr)) (RL:List EThing) (RM:List (Int×Int)) (DL:List VThing) (DM:List (Int×Int)) (ev:List Ev) (nt:List Note) (id n:Int):fnX X45 (annOf [] [] [] [5,7,10,11,13]) Tryz.f25 [.ptr 0 0, .raw (.int .i64 id), .raw (.int .i64 n)] (cs3 m now ts RL RM DL DM ev nt) (ends (cs3 m now ts RL RM DL DM ev nt) (eArrCK1E0 m now ts RL RM DL DM ev nt id n))=eArrCK1Text m now ts RL RM DL DM ev nt id n:=by kernel_rfl
theorem eArrCK1Holds (m now:Int) (ts:List (Option Rnr)) (RL:List EThing) (RM:List (Int×Int)) (DL:List VThing) (DM:List (Int×Int)) (ev:List Ev) (nt:List Note) (id n:Int) (hp:ts.length=64/\ (idOk id=true->(atO ts id).isSome=true->((rnAt ts id).stage=3->0<=(rnAt ts id).kept/\ (rnAt ts id).kept<=1000)/\ ArrTP now n (rnAt ts id)/\ FilesP (setT' ⟨m,now,ts,(RL,RM),(DL,DM),ev,nt⟩ id (arrT now n (rnAt ts id))) id)):eArrCK1Text m now ts RL RM DL DM ev nt id n:=by
 unfold eArrCK1Text
 conv=>zeta
 obtain ⟨hts,hp⟩:=hp
 cases h1:idOk id
 ·simp only [arrEG,arrG,h1,Bool.not_false,Bool.true_or,cond_true]
  repeat' first|exact True.intro|with_reducible rfl|apply And.intro|exact rfl
 have hi:=idOk_inb h1
 cases h2:decide (n<1)
 case true=>
  simp only [arrEG,arrG,h1,h2,Bool.not_false,Bool.not_true,Bool.true_or,Bool.or_true,Bool.false_or,cond_true]
  repeat' first|exact True.intro|with_reducible rfl|apply And.intro|exact rfl
 cases h3:decide (n>64)
 case true=>
  simp only [arrEG,arrG,h1,h2,h3,Bool.not_false,Bool.not_true,Bool.true_or,Bool.or_true,Bool.false_or,cond_true]
  repeat' first|exact True.intro|with_reducible rfl|apply And.intro|exact rfl
 refine mT hi (mT hi ?_)
 cases h4:(atO ts id).isSome
 ·simp only [arrEG,arrG,h1,h2,h3,h4,Bool.not_false,Bool.not_true,Bool.true_or,Bool.or_true,Bool.false_or,cond_true,cond_false]
  repeat' first|exact True.intro|with_reducible rfl|apply And.intro|exact rfl
 have hset:=set_rnAt h4
 obtain ⟨hk,hA,hF⟩:=hp h1 h4
 have hz:(atO ts id).getD rnrL.zero=rnAt ts id:=rfl
 rw [hz]
 cases h5:(rnAt ts id).stage==2
 case true=>
  simp only [arrEG,arrG,h1,h2,h3,h4,h5,Bool.not_false,Bool.not_true,Bool.true_or,Bool.or_true,Bool.false_or,cond_true,cond_false]
  repeat' first|exact True.intro|with_reducible rfl|apply And.intro|exact hset.symm|exact rfl
 cases h6:(rnAt ts id).stage==3
 case true=>
  obtain ⟨k0,k1⟩:=hk (by simpa using h6)
  have hn:1<=n/\ n<=64:=⟨by have:=of_decide_eq_false h2;omega,by have:=of_decide_eq_false h3;omega⟩
  have hw:IntKind.i64.wrap ((rnAt ts id).kept+n)=(rnAt ts id).kept+n:=wrap_id (by omega) (by omega)
  rw [hw]
  cases h7:decide ((rnAt ts id).kept+n>64)
  ·simp only [arrEG,arrG,h1,h2,h3,h4,h5,h6,h7,Bool.not_false,Bool.not_true,Bool.true_or,Bool.or_true,Bool.false_or,cond_true,cond_false]
   repeat' first|exact True.intro|with_reducible rfl|apply And.intro|exact hset.symm|exact rfl
  ·simp only [arrEG,arrG,h1,h2,h3,h4,h5,h6,h7,Bool.not_false,Bool.not_true,Bool.true_or,Bool.or_true,Bool.false_or,cond_true,cond_false]
   repeat' first|exact True.intro|with_reducible rfl|apply And.intro|exact hset.symm|exact rfl
 refine mD hA ?_
 cases h7:arrE now n (rnAt ts id).t.cut (rnAt ts id).t.waits==0
 case true=>
  have h8:arrE now n (rnAt ts id).t.cut (rnAt ts id).t.waits=0:=by simpa using h7
  unfold arrT at hF
  rw [h7] at hF
  refine mD hF ?_
  simp only [arrEG,arrG,arrT,h1,h2,h3,h4,h5,h6,h7,h8,Bool.not_false,Bool.not_true,Bool.true_or,Bool.or_true,Bool.false_or,cond_true,cond_false]
  repeat' first|exact True.intro|with_reducible rfl|apply And.intro|exact rfl
 unfold arrT at hF
 rw [h7] at hF
 refine mD hF ?_
 simp only [arrEG,arrG,arrT,h1,h2,h3,h4,h5,h6,h7,Bool.not_false,Bool.not_true,Bool.true_or,Bool.or_true,Bool.false_or,cond_true,cond_false]
 repeat' first|exact True.intro|with_reducible rfl|apply And.intro|exact rfl
set_option maxHeartbeats 4000000 in
noncomputable def eArrCCon:Con T O:=fun args cs=>match args,cs with
 |[.raw (.pointer none), .raw (.int .i64 _), .raw (.int .i64 _)],[]=> .ret ⟨some (.raw (.int .i64 1)),[]⟩
 |[.ptr 0 0, .raw (.int .i64 id), .raw (.int .i64 n)],[.tab [.raw (.int .i64 m), .raw (.int .i64 now)] 0 64 (ts) none [.ptr 1 0, .ptr 2 0, .own 3, .own 4] 105, .cells [.fn 40 [], .own 5, .own 6] 146, .cells [.ptr 7 0] 156, .vec 4 ev 151, .que 7 nt 84, .vec 5 RL 200, .map 0 RM, .cells [.fn 83 [], .own 8, .own 9] 198, .vec 6 DL 242, .map 0 DM]=>chk (decide (ts.length=64/\ (idOk id=true->(atO ts id).isSome=true->((rnAt ts id).stage=3->0<=(rnAt ts id).kept/\ (rnAt ts id).kept<=1000)/\ ArrTP now n (rnAt ts id)/\ FilesP (setT' ⟨m,now,ts,(RL,RM),(DL,DM),ev,nt⟩ id (arrT now n (rnAt ts id))) id))) (.ret (eArrCK1E0 m now ts RL RM DL DM ev nt id n))
 |_,_=> .fail
theorem eArrCOk:ConOk R Tryz.prog 25 eArrCCon:=con_of_fn R (X45) (good (X45) rfl (TabOk.con R X45Ok)) mixed Tryz.call25 Tryz.func25 eArrCCon (by
 intro args cs K h
 unfold eArrCCon at h
 split at h
 ·rename_i id n
  refine ⟨noAnn,_,fun v S hv=>⟨_,h,hv⟩, ?_⟩
  rw [eArrCK0Vc id n]
  exact eArrCK0Holds id n
 ·rename_i id n m now ts ev nt RL RM DL DM
  rw [Tree.holds_chk] at h
  obtain ⟨hp,h⟩:=h
  refine ⟨annOf [] [] [] [5,7,10,11,13],_,fun v S hv=>⟨_,h,hv⟩, ?_⟩
  have hv:=eArrCK1Vc m now ts RL RM DL DM ev nt id n
  unfold cs3 at hv
  rw [hv]
  exact eArrCK1Holds m now ts RL RM DL DM ev nt id n (of_decide_eq_true hp)
 ·exact h.elim)
noncomputable def leavesCE0 (m:Int) (now:Int) (ts:List (Option Rnr)) (RL:List EThing) (RM:List (Int×Int)) (DL:List VThing) (DM:List (Int×Int)) (ev:List Ev) (nt:List Note) (id:Int):Eff T O:=⟨some (.tup []),[(0,some (.tab [.raw (.int .i64 ((leavesG ⟨m,now,ts,(RL,RM),(DL,DM),ev,nt⟩ id).m)), .raw (.int .i64 ((leavesG ⟨m,now,ts,(RL,RM),(DL,DM),ev,nt⟩ id).now))] 0 64 ((leavesG ⟨m,now,ts,(RL,RM),(DL,DM),ev,nt⟩ id).ts) none [.ptr 1 0, .ptr 2 0, .own 10, .own 11] 105)),(1,some (.cells [.fn 40 [], .own 12, .own 6] 146)),(3,none),(4,none),(5,none),(6,some (.map 0 (leavesG ⟨m,now,ts,(RL,RM),(DL,DM),ev,nt⟩ id).rq.2)),(7,some (.cells [.fn 83 [], .own 13, .own 9] 198)),(8,none),(9,some (.map 0 (leavesG ⟨m,now,ts,(RL,RM),(DL,DM),ev,nt⟩ id).dq.2)),(10,some (.vec 4 (leavesG ⟨m,now,ts,(RL,RM),(DL,DM),ev,nt⟩ id).ev 151)),(11,some (.que 7 (leavesG ⟨m,now,ts,(RL,RM),(DL,DM),ev,nt⟩ id).nt 84)),(12,some (.vec 5 (leavesG ⟨m,now,ts,(RL,RM),(DL,DM),ev,nt⟩ id).rq.1 200)),(13,some (.vec 6 (leavesG ⟨m,now,ts,(RL,RM),(DL,DM),ev,nt⟩ id).dq.1 242))]⟩
def leavesCText (m now:Int) (ts:List (Option Rnr)) (RL:List EThing) (RM:List (Int×Int)) (DL:List VThing) (DM:List (Int×Int)) (ev:List Ev) (nt:List Note) (id:Int):Prop:=let q0:=(tellsG (EG.mk m now (ts.set id.toNat none) (RL,RM) (DL,DM) ev nt) id (2:Int));let q1:=(leavesG (EG.mk m now ts (RL,RM) (DL,DM) ev nt) id);let q2:=(True/\ (True/\ (True/\ True)));(match (inb id (64:Nat)) with|true=>(match (inb id (64:Nat)) with|true=>(match (decide (ev.length<=(100000000:Nat))) with|true=>((True/\ True)/\ ((((q1.m=q0.m)/\ ((q1.now=q0.now)/\ True))/\ ((q1.ts=q0.ts)/\ ((True/\ q2)/\ True)))/\ (q2/\ ((True/\ True)/\ ((q1.rq.snd=q0.rq.snd)/\ (q2/\ ((q1.dq.snd=q0.dq.snd)/\ ((q1.ev=q0.ev)/\ ((q1.nt=q0.nt)/\ ((q1.rq.fst=q0.rq.fst)/\ ((q1.dq.fst=q0.dq.fst)/\ True)))))))))))|false=>False)|false=>False)|false=>False)
theorem leavesCVc (m now:Int) (ts:List (Option Rnr)) (RL:List EThing) (RM:List (Int×Int)) (DL:List VThing) (DM:List (Int×Int)) (ev:List Ev) (nt:List Note) (id:Int):fnX X45 (noAnn) Tryz.f103 [.ptr 0 0, .raw (.int .i64 id)] (cs3 m now ts RL RM DL DM ev nt) (ends (cs3 m now ts RL RM DL DM ev nt) (leavesCE0 m now ts RL RM DL DM ev nt id))=leavesCText m now ts RL RM DL DM ev nt id:=by kernel_rfl
theorem leavesCHolds (m now:Int) (ts:List (Option Rnr)) (RL:List EThing) (RM:List (Int×Int)) (DL:List VThing) (DM:List (Int×Int)) (ev:List Ev) (nt:List Note) (id:Int) (hp:idOk id=true/\ ts.length=64/\ ev.length<=1000000):leavesCText m now ts RL RM DL DM ev nt id:=by
 unfold leavesCText
 conv=>zeta
 obtain ⟨h1,hts,he⟩:=hp
 have hi:=idOk_inb h1
 refine mT hi (mT hi (mD (by omega) ?_))
 repeat' first|exact True.intro|with_reducible rfl|apply And.intro|exact rfl
set_option maxHeartbeats 4000000 in
noncomputable def leavesCCon:Con T O:=fun args cs=>match args,cs with
 |[.ptr 0 0, .raw (.int .i64 id)],[.tab [.raw (.int .i64 m), .raw (.int .i64 now)] 0 64 (ts) none [.ptr 1 0, .ptr 2 0, .own 3, .own 4] 105, .cells [.fn 40 [], .own 5, .own 6] 146, .cells [.ptr 7 0] 156, .vec 4 ev 151, .que 7 nt 84, .vec 5 RL 200, .map 0 RM, .cells [.fn 83 [], .own 8, .own 9] 198, .vec 6 DL 242, .map 0 DM]=>chk (decide (idOk id=true/\ ts.length=64/\ ev.length<=1000000)) (.ret (leavesCE0 m now ts RL RM DL DM ev nt id))
 |_,_=> .fail
theorem leavesCOk:ConOk R Tryz.prog 103 leavesCCon:=con_of_fn R (X45) (good (X45) rfl (TabOk.con R X45Ok)) mixed Tryz.call103 Tryz.func103 leavesCCon (by
 intro args cs K h
 unfold leavesCCon at h
 split at h
 ·rename_i id m now ts ev nt RL RM DL DM
  rw [Tree.holds_chk] at h
  obtain ⟨hp,h⟩:=h
  refine ⟨noAnn,_,fun v S hv=>⟨_,h,hv⟩, ?_⟩
  have hv:=leavesCVc m now ts RL RM DL DM ev nt id
  unfold cs3 at hv
  rw [hv]
  exact leavesCHolds m now ts RL RM DL DM ev nt id (of_decide_eq_true hp)
 ·exact h.elim)
noncomputable def rewCE0 (m:Int) (now:Int) (ts:List (Option Rnr)) (RL:List EThing) (RM:List (Int×Int)) (DL:List VThing) (DM:List (Int×Int)) (ev:List Ev) (nt:List Note) (id:Int):Eff T O:=⟨some (.tup []),[(0,some (.tab [.raw (.int .i64 ((reweightsG ⟨m,now,ts,(RL,RM),(DL,DM),ev,nt⟩ id).m)), .raw (.int .i64 ((reweightsG ⟨m,now,ts,(RL,RM),(DL,DM),ev,nt⟩ id).now))] 0 64 ((reweightsG ⟨m,now,ts,(RL,RM),(DL,DM),ev,nt⟩ id).ts) none [.ptr 1 0, .ptr 2 0, .own 10, .own 11] 105)),(1,some (.cells [.fn 40 [], .own 12, .own 6] 146)),(3,none),(4,none),(5,none),(6,some (.map 0 (reweightsG ⟨m,now,ts,(RL,RM),(DL,DM),ev,nt⟩ id).rq.2)),(7,some (.cells [.fn 83 [], .own 13, .own 9] 198)),(8,none),(9,some (.map 0 (reweightsG ⟨m,now,ts,(RL,RM),(DL,DM),ev,nt⟩ id).dq.2)),(10,some (.vec 4 (reweightsG ⟨m,now,ts,(RL,RM),(DL,DM),ev,nt⟩ id).ev 151)),(11,some (.que 7 (reweightsG ⟨m,now,ts,(RL,RM),(DL,DM),ev,nt⟩ id).nt 84)),(12,some (.vec 5 (reweightsG ⟨m,now,ts,(RL,RM),(DL,DM),ev,nt⟩ id).rq.1 200)),(13,some (.vec 6 (reweightsG ⟨m,now,ts,(RL,RM),(DL,DM),ev,nt⟩ id).dq.1 242))]⟩
def rewCText (m now:Int) (ts:List (Option Rnr)) (RL:List EThing) (RM:List (Int×Int)) (DL:List VThing) (DM:List (Int×Int)) (ev:List Ev) (nt:List Note) (id:Int):Prop:=let q0:=((atO ts id).getD rnrL.zero);let q6:=(advN (st0 q0.nE q0.nP now));let q1:=(some (Rnr.mk (Tsk.mk q0.nE q0.nP q0.early false q6 noSubs subZ (0:Int)) (1:Int) q0.early q0.pin q0.last now (0:Int) (0:Int) (0:Int)));let q2:=(tellsG (EG.mk m now ((ts.set id.toNat (some q0)).set id.toNat (some (Rnr.mk (Tsk.mk q0.nE q0.nP q0.early false (arrS now q0.kept.toNat q6) (noSubs++arrL now q0.kept.toNat q6) subZ (0:Int)) (1:Int) q0.early q0.pin q0.last now (0:Int) (0:Int) (0:Int)))) (RL,RM) (DL,DM) ev nt) id (3:Int));let q3:=(reweightsG (EG.mk m now ts (RL,RM) (DL,DM) ev nt) id);let q4:=(tellsG (EG.mk m now ((ts.set id.toNat (some q0)).set id.toNat q1) (RL,RM) (DL,DM) ev nt) id (3:Int));let q5:=(tellsG (EG.mk m now (ts.set id.toNat q1) (RL,RM) (DL,DM) ev nt) id (3:Int));let q7:=(True/\ (True/\ (True/\ True)));let q8:=(decide (ev.length<=(100000000:Nat)));(match (inb id (64:Nat)) with|true=>(match (inb id (64:Nat)) with|true=>(match ((atO ts id).isSome) with|true=>(match (decide (windowCheck q0.nE q0.nP=true/\ (0:Int)<=now/\ now<=(1099511627776:Int))) with|true=>(match (decide (q0.kept>(0:Int))) with|true=>(match (decide (noSubs.length<=(64:Nat)/\ (arrE now q0.kept false noSubs=(0:Int)-> ∀(k:Nat),k<q0.kept.toNat->AdvP (arr1 now (arrS now k (Stp.mk q6.E q6.P q6.off q6.idx q6.whole q6.rest q6.ew q6.el q6.eo q6.long q6.part q6.gw q6.gl q6.go (Sub.mk q6.sub.Index q6.sub.Release q6.sub.Deadline q6.sub.Bit q6.sub.Group))))))) with|true=>(match (arrE now q0.kept false noSubs==(0:Int)) with|true=>(match (inb id (64:Nat)) with|true=>(match (inb id (64:Nat)) with|true=>(match q8 with|true=>((True/\ True)/\ ((((q3.m=q2.m)/\ ((q3.now=q2.now)/\ True))/\ ((q3.ts=q2.ts)/\ ((True/\ q7)/\ True)))/\ (q7/\ ((True/\ True)/\ ((q3.rq.snd=q2.rq.snd)/\ (q7/\ ((q3.dq.snd=q2.dq.snd)/\ ((q3.ev=q2.ev)/\ ((q3.nt=q2.nt)/\ ((q3.rq.fst=q2.rq.fst)/\ ((q3.dq.fst=q2.dq.fst)/\ True)))))))))))|false=>False)|false=>False)|false=>False)|false=>(match (inb id (64:Nat)) with|true=>(match (inb id (64:Nat)) with|true=>(match q8 with|true=>((True/\ True)/\ ((((q3.m=q4.m)/\ ((q3.now=q4.now)/\ True))/\ ((q3.ts=q4.ts)/\ ((True/\ q7)/\ True)))/\ (q7/\ ((True/\ True)/\ ((q3.rq.snd=q4.rq.snd)/\ (q7/\ ((q3.dq.snd=q4.dq.snd)/\ ((q3.ev=q4.ev)/\ ((q3.nt=q4.nt)/\ ((q3.rq.fst=q4.rq.fst)/\ ((q3.dq.fst=q4.dq.fst)/\ True)))))))))))|false=>False)|false=>False)|false=>False))|false=>False)|false=>(match (inb id (64:Nat)) with|true=>(match (inb id (64:Nat)&&decide (id=id)) with|true=>(match q8 with|true=>((True/\ True)/\ ((((q3.m=q5.m)/\ ((q3.now=q5.now)/\ True))/\ ((q3.ts=q5.ts)/\ ((True/\ q7)/\ True)))/\ (q7/\ ((True/\ True)/\ ((q3.rq.snd=q5.rq.snd)/\ (q7/\ ((q3.dq.snd=q5.dq.snd)/\ ((q3.ev=q5.ev)/\ ((q3.nt=q5.nt)/\ ((q3.rq.fst=q5.rq.fst)/\ ((q3.dq.fst=q5.dq.fst)/\ True)))))))))))|false=>False)|false=>False)|false=>False))|false=>False)|false=>False)|false=>False)|false=>False)
theorem rewCVc (m now:Int) (ts:List (Option Rnr)) (RL:List EThing) (RM:List (Int×Int)) (DL:List VThing) (DM:List (Int×Int)) (ev:List Ev) (nt:List Note) (id:Int):fnX X45 (annOf [] [] [] [3]) Tryz.f102 [.ptr 0 0, .raw (.int .i64 id)] (cs3 m now ts RL RM DL DM ev nt) (ends (cs3 m now ts RL RM DL DM ev nt) (rewCE0 m now ts RL RM DL DM ev nt id))=rewCText m now ts RL RM DL DM ev nt id:=by kernel_rfl
theorem rewCHolds (m now:Int) (ts:List (Option Rnr)) (RL:List EThing) (RM:List (Int×Int)) (DL:List VThing) (DM:List (Int×Int)) (ev:List Ev) (nt:List Note) (id:Int) (hp:idOk id=true/\ ts.length=64/\ ev.length<=1000000/\ (atO ts id).isSome=true/\ windowCheck (rnAt ts id).nE (rnAt ts id).nP=true/\ 0<=now/\ now<=1099511627776/\ ArrTP now (rnAt ts id).kept (newRnr (rnAt ts id).nE (rnAt ts id).nP now (rnAt ts id).early (rnAt ts id).pin)):rewCText m now ts RL RM DL DM ev nt id:=by
 unfold rewCText
 conv=>zeta
 obtain ⟨h1,hts,he,h2,h3,n0,n1,hA⟩:=hp
 have hi:=idOk_inb h1
 have hz:(atO ts id).getD rnrL.zero=rnAt ts id:=rfl
 rw [hz]
 refine mT hi (mT hi (mT h2 (mD ⟨h3,n0,n1⟩ ?_)))
 unfold reweightsG rewT
 cases h4:decide ((rnAt ts id).kept>0)
 ·refine mT hi (mT (by rw [hi];simp) (mD (by omega) ?_))
  repeat' first|exact True.intro|with_reducible rfl|apply And.intro|exact rfl
 ·refine mD hA ?_
  cases h5:arrE now (rnAt ts id).kept false noSubs==0
  ·have h6:arrT now (rnAt ts id).kept { newRnr (rnAt ts id).nE (rnAt ts id).nP now (rnAt ts id).early (rnAt ts id).pin with last:=(rnAt ts id).last }= { newRnr (rnAt ts id).nE (rnAt ts id).nP now (rnAt ts id).early (rnAt ts id).pin with last:=(rnAt ts id).last }:=by
    unfold arrT newRnr
    dsimp only
    rw [show arrE now (rnAt ts id).kept false []=arrE now (rnAt ts id).kept false noSubs from rfl,h5]
    rfl
   dsimp only at h6 ⊢
   rw [cond_true,h6,List.set_set]
   refine mT hi (mT hi (mD (by omega) ?_))
   repeat' first|exact True.intro|with_reducible rfl|apply And.intro|exact rfl
  ·have h6:arrT now (rnAt ts id).kept { newRnr (rnAt ts id).nE (rnAt ts id).nP now (rnAt ts id).early (rnAt ts id).pin with last:=(rnAt ts id).last }=⟨⟨(rnAt ts id).nE,(rnAt ts id).nP,(rnAt ts id).early,false,arrS now (rnAt ts id).kept.toNat (advN (st0 (rnAt ts id).nE (rnAt ts id).nP now)),noSubs++arrL now (rnAt ts id).kept.toNat (advN (st0 (rnAt ts id).nE (rnAt ts id).nP now)),subZ,0⟩,1,(rnAt ts id).early,(rnAt ts id).pin,(rnAt ts id).last,now,0,0,0⟩:=by
    unfold arrT newRnr
    dsimp only
    rw [show arrE now (rnAt ts id).kept false []=arrE now (rnAt ts id).kept false noSubs from rfl,h5]
    rfl
   dsimp only at h6 ⊢
   rw [cond_true,h6,List.set_set]
   refine mT hi (mT hi (mD (by omega) ?_))
   repeat' first|exact True.intro|with_reducible rfl|apply And.intro|exact rfl
set_option maxHeartbeats 4000000 in
noncomputable def rewCCon:Con T O:=fun args cs=>match args,cs with
 |[.ptr 0 0, .raw (.int .i64 id)],[.tab [.raw (.int .i64 m), .raw (.int .i64 now)] 0 64 (ts) none [.ptr 1 0, .ptr 2 0, .own 3, .own 4] 105, .cells [.fn 40 [], .own 5, .own 6] 146, .cells [.ptr 7 0] 156, .vec 4 ev 151, .que 7 nt 84, .vec 5 RL 200, .map 0 RM, .cells [.fn 83 [], .own 8, .own 9] 198, .vec 6 DL 242, .map 0 DM]=>chk (decide (idOk id=true/\ ts.length=64/\ ev.length<=1000000/\ (atO ts id).isSome=true/\ windowCheck (rnAt ts id).nE (rnAt ts id).nP=true/\ 0<=now/\ now<=1099511627776/\ ArrTP now (rnAt ts id).kept (newRnr (rnAt ts id).nE (rnAt ts id).nP now (rnAt ts id).early (rnAt ts id).pin))) (.ret (rewCE0 m now ts RL RM DL DM ev nt id))
 |_,_=> .fail
theorem rewCOk:ConOk R Tryz.prog 102 rewCCon:=con_of_fn R (X45) (good (X45) rfl (TabOk.con R X45Ok)) mixed Tryz.call102 Tryz.func102 rewCCon (by
 intro args cs K h
 unfold rewCCon at h
 split at h
 ·rename_i id m now ts ev nt RL RM DL DM
  rw [Tree.holds_chk] at h
  obtain ⟨hp,h⟩:=h
  refine ⟨annOf [] [] [] [3],_,fun v S hv=>⟨_,h,hv⟩, ?_⟩
  have hv:=rewCVc m now ts RL RM DL DM ev nt id
  unfold cs3 at hv
  rw [hv]
  exact rewCHolds m now ts RL RM DL DM ev nt id (of_decide_eq_true hp)
 ·exact h.elim)
noncomputable def tab46:Tab T O:=(23,ePutCCon)::(25,eArrCCon)::(103,leavesCCon)::(102,rewCCon)::tab45
theorem tabOk46:TabOk R Tryz.prog tab46:=TabOk.cons R ePutCOk<|TabOk.cons R eArrCOk<|TabOk.cons R leavesCOk<|TabOk.cons R rewCOk<|tabOk45
noncomputable def X46:Ctx T O:= { X0 with con:=conOf tab46 }
theorem X46Ok:TabOk R X46.P tab46:=tabOk46
end Go.Proofs.YtlfjbnflfdnoaaaGreat
namespace Go.Proofs.YtlfjbnflfdnoaaaGreat
open Go.Sx Go.Proofs Classical
def pdqIText (L:List Int) (b l:Int):Prop:=(match (decide (IntKind.i64.wrap (b-(0:Int))<=(12:Int))) with|true=>(match (decide ((0:Int)<=b/\ b<=(↑L.length:Int)/\ L.length<=(1000:Nat))) with|true=>((True/\ True)/\ ((srtI L=isrtZ zI ltI L b.toNat)/\ True))|false=>False)|false=>(match (l==(0:Int)) with|true=>False|false=>False))
theorem pdqIVc (L:List Int) (b l:Int):fnX X46 (annOf [] [(2,1)]) Tryz.f148 [.own 0, .raw (.int .i64 0), .raw (.int .i64 b), .raw (.int .i64 l)] [.vec 0 L 3] (ends [.vec 0 L 3] ⟨some (.tup []),[(0,some (.vec 0 (srtI L) 3))]⟩)=pdqIText L b l:=by kernel_rfl
theorem pdqIHolds (L:List Int) (b l:Int) (hp:b=L.length/\ L.length<=12):pdqIText L b l:=by
 unfold pdqIText
 obtain ⟨rfl,hp⟩:=hp
 have hw:IntKind.i64.wrap ((L.length:Int)-0)=L.length:=by rw [wrap_id (by omega) (by omega)];omega
 rw [hw,show decide ((L.length:Int)<=12)=true from decide_eq_true (by omega),decide_eq_true (show (0:Int)<=(L.length:Int)/\ (L.length:Int)<=(L.length:Int)/\ L.length<=1000 from ⟨by omega,by omega,by omega⟩)]
 repeat' first|exact True.intro|exact rfl|apply And.intro
noncomputable def pdqICon:Con T O:=fun args cs=>match args,cs with
 |[.own 0, .raw (.int .i64 0), .raw (.int .i64 b), .raw (.int .i64 _)],[.vec 0 L 3]=>chk (decide (b=L.length/\ L.length<=12)) (.ret ⟨some (.tup []),[(0,some (.vec 0 (srtI L) 3))]⟩)
 |_,_=> .fail
theorem pdqIOk:ConOk R Tryz.prog 148 pdqICon:=con_of_fn R (X46) (good (X46) rfl (TabOk.con R X46Ok)) mixed Tryz.call148 Tryz.func148 pdqICon (by
 intro args cs K h
 unfold pdqICon at h
 split at h
 ·rename_i b l L
  rw [Tree.holds_chk] at h
  obtain ⟨hp,h⟩:=h
  refine ⟨annOf [] [(2,1)],_,fun v S hv=>⟨_,h,hv⟩, ?_⟩
  rw [pdqIVc L b l]
  exact pdqIHolds L b l (of_decide_eq_true hp)
 ·exact h.elim)
def pdqRText (L:List Run) (b l:Int):Prop:=(match (decide (IntKind.i64.wrap (b-(0:Int))<=(12:Int))) with|true=>(match (decide ((0:Int)<=b/\ b<=(↑L.length:Int)/\ L.length<=(1000:Nat))) with|true=>((True/\ True)/\ ((srtRun L=isrtZ zRun ltRun L b.toNat)/\ True))|false=>False)|false=>(match (l==(0:Int)) with|true=>False|false=>False))
theorem pdqRVc (L:List Run) (b l:Int):fnX X46 (annOf [] [(2,1)]) Tryz.f90 [.own 0, .raw (.int .i64 0), .raw (.int .i64 b), .raw (.int .i64 l), .fn 49 []] [.vec 8 L 61] (ends [.vec 8 L 61] ⟨some (.tup []),[(0,some (.vec 8 (srtRun L) 61))]⟩)=pdqRText L b l:=by kernel_rfl
theorem pdqRHolds (L:List Run) (b l:Int) (hp:b=L.length/\ L.length<=12):pdqRText L b l:=by
 unfold pdqRText
 obtain ⟨rfl,hp⟩:=hp
 have hw:IntKind.i64.wrap ((L.length:Int)-0)=L.length:=by rw [wrap_id (by omega) (by omega)];omega
 rw [hw,show decide ((L.length:Int)<=12)=true from decide_eq_true (by omega),decide_eq_true (show (0:Int)<=(L.length:Int)/\ (L.length:Int)<=(L.length:Int)/\ L.length<=1000 from ⟨by omega,by omega,by omega⟩)]
 repeat' first|exact True.intro|exact rfl|apply And.intro
noncomputable def pdqRCon:Con T O:=fun args cs=>match args,cs with
 |[.own 0, .raw (.int .i64 0), .raw (.int .i64 b), .raw (.int .i64 _), .fn 49 []],[.vec 8 L 61]=>chk (decide (b=L.length/\ L.length<=12)) (.ret ⟨some (.tup []),[(0,some (.vec 8 (srtRun L) 61))]⟩)
 |_,_=> .fail
theorem pdqROk:ConOk R Tryz.prog 90 pdqRCon:=con_of_fn R (X46) (good (X46) rfl (TabOk.con R X46Ok)) mixed Tryz.call90 Tryz.func90 pdqRCon (by
 intro args cs K h
 unfold pdqRCon at h
 split at h
 ·rename_i b l L
  rw [Tree.holds_chk] at h
  obtain ⟨hp,h⟩:=h
  refine ⟨annOf [] [(2,1)],_,fun v S hv=>⟨_,h,hv⟩, ?_⟩
  rw [pdqRVc L b l]
  exact pdqRHolds L b l (of_decide_eq_true hp)
 ·exact h.elim)
noncomputable def tab47:Tab T O:=(148,pdqICon)::(90,pdqRCon)::tab46
theorem tabOk47:TabOk R Tryz.prog tab47:=TabOk.cons R pdqIOk<|TabOk.cons R pdqROk<|tabOk46
noncomputable def X47:Ctx T O:= { X0 with con:=conOf tab47 }
theorem X47Ok:TabOk R X47.P tab47:=tabOk47
end Go.Proofs.YtlfjbnflfdnoaaaGreat
namespace Go.Proofs.YtlfjbnflfdnoaaaGreat
open Go.Sx Go.Proofs Classical
def srtCIText (L:List Int):Prop:=(match (bitsLenPre (IntKind.u64.wrap (↑L.length:Int))) with|true=>(match (decide ((↑L.length:Int)=(↑L.length:Int)/\ L.length<=(12:Nat))) with|true=>((True/\ True)/\ ((srtI L=srtI L)/\ True))|false=>False)|false=>False)
theorem srtCIVc (L:List Int):fnX X47 (noAnn) Tryz.f101 [.own 0] [.vec 0 L 3] (ends [.vec 0 L 3] ⟨some (.tup []),[(0,some (.vec 0 (srtI L) 3))]⟩)=srtCIText L:=by kernel_rfl
theorem srtCIHolds (L:List Int) (hp:L.length<=12):srtCIText L:=by
 unfold srtCIText
 rw [bitsLen_small hp,decide_eq_true (show (L.length:Int)=(L.length:Int)/\ L.length<=12 from ⟨rfl,hp⟩)]
 repeat' first|exact True.intro|exact rfl|apply And.intro
noncomputable def srtCICon:Con T O:=fun args cs=>match args,cs with
 |[.own 0],[.vec 0 L 3]=>chk (decide (L.length<=12)) (.ret ⟨some (.tup []),[(0,some (.vec 0 (srtI L) 3))]⟩)
 |_,_=> .fail
theorem srtCIOk:ConOk R Tryz.prog 101 srtCICon:=con_of_fn R (X47) (good (X47) rfl (TabOk.con R X47Ok)) mixed Tryz.call101 Tryz.func101 srtCICon (by
 intro args cs K h
 unfold srtCICon at h
 split at h
 ·rename_i L
  rw [Tree.holds_chk] at h
  obtain ⟨hp,h⟩:=h
  refine ⟨noAnn,_,fun v S hv=>⟨_,h,hv⟩, ?_⟩
  rw [srtCIVc L]
  exact srtCIHolds L (of_decide_eq_true hp)
 ·exact h.elim)
def srtCRText (L:List Run):Prop:=(match (bitsLenPre (IntKind.u64.wrap (↑L.length:Int))) with|true=>(match (decide ((↑L.length:Int)=(↑L.length:Int)/\ L.length<=(12:Nat))) with|true=>((True/\ True)/\ ((srtRun L=srtRun L)/\ True))|false=>False)|false=>False)
theorem srtCRVc (L:List Run):fnX X47 (noAnn) Tryz.f48 [.own 0, .fn 49 []] [.vec 8 L 61] (ends [.vec 8 L 61] ⟨some (.tup []),[(0,some (.vec 8 (srtRun L) 61))]⟩)=srtCRText L:=by kernel_rfl
theorem srtCRHolds (L:List Run) (hp:L.length<=12):srtCRText L:=by
 unfold srtCRText
 rw [bitsLen_small hp,decide_eq_true (show (L.length:Int)=(L.length:Int)/\ L.length<=12 from ⟨rfl,hp⟩)]
 repeat' first|exact True.intro|exact rfl|apply And.intro
noncomputable def srtCRCon:Con T O:=fun args cs=>match args,cs with
 |[.own 0, .fn 49 []],[.vec 8 L 61]=>chk (decide (L.length<=12)) (.ret ⟨some (.tup []),[(0,some (.vec 8 (srtRun L) 61))]⟩)
 |_,_=> .fail
theorem srtCROk:ConOk R Tryz.prog 48 srtCRCon:=con_of_fn R (X47) (good (X47) rfl (TabOk.con R X47Ok)) mixed Tryz.call48 Tryz.func48 srtCRCon (by
 intro args cs K h
 unfold srtCRCon at h
 split at h
 ·rename_i L
  rw [Tree.holds_chk] at h
  obtain ⟨hp,h⟩:=h
  refine ⟨noAnn,_,fun v S hv=>⟨_,h,hv⟩, ?_⟩
  rw [srtCRVc L]
  exact srtCRHolds L (of_decide_eq_true hp)
 ·exact h.elim)
noncomputable def tab48:Tab T O:=(101,srtCICon)::(48,srtCRCon)::tab47
theorem tabOk48:TabOk R Tryz.prog tab48:=TabOk.cons R srtCIOk<|TabOk.cons R srtCROk<|tabOk47
noncomputable def X48:Ctx T O:= { X0 with con:=conOf tab48 }
theorem X48Ok:TabOk R X48.P tab48:=tabOk48
end Go.Proofs.YtlfjbnflfdnoaaaGreat
namespace Go.Proofs.YtlfjbnflfdnoaaaGreat
open Go.Sx Go.Proofs Classical
abbrev evz:Ev:=⟨0,0,0⟩
def stepD (e:Ev) (q:EG×List Int):EG×List Int:=bif e.Kind==0 then (filesG q.1 e.ID,q.2) else bif decide (((rnAt q.1.ts e.ID).t.waits.length:Int)>0) then ({ q.1 with dq:=putU q.1.dq ⟨IntKind.i64.wrap (q.1.now+1),e.ID,1⟩ },q.2) else (q.1,q.2++[e.ID])
def setS (D:List Ev):Nat->EG×List Int->EG×List Int
 |0,q=>q
 |n+1,q=>stepD (at' evz D (n:Int)) (setS D n q)
def settle0 (id:Int) (g:EG):EG:=bif (rnAt g.ts id).stage==2 then leavesG g id else reweightsG g id
def settle1 (id:Int) (g:EG):EG:=filesG (settle0 id g) id
def setN (ids:List Int):Nat->EG->EG
 |0,g=>g
 |n+1,g=>settle1 (at' (0:Int) ids (n:Int)) (setN ids n g)
def due0 (g:EG):EG×List Int:=({ g with dq:=(dueA g.dq g.now).2 },[])
def dueL (g:EG):List Ev:=(dueA g.dq g.now).1
def due1 (g:EG):EG×List Int:=setS (dueL g) (dueL g).length (due0 g)
def settlesG (g:EG):EG:=setN (srtI (due1 g).2) (due1 g).2.length (due1 g).1
def RewP (g:EG) (id:Int):Prop:=windowCheck (rnAt g.ts id).nE (rnAt g.ts id).nP=true/\ 0<=g.now/\ g.now<=1099511627776/\ ArrTP g.now (rnAt g.ts id).kept (newRnr (rnAt g.ts id).nE (rnAt g.ts id).nP g.now (rnAt g.ts id).early (rnAt g.ts id).pin)
theorem setS_len (D:List Ev) (q:EG×List Int): ∀n,(setS D n q).2.length<=q.2.length+n
 |0=>Nat.le_refl _
 |n+1=>by
  have:=setS_len D q n
  simp only [setS]
  unfold stepD
  cases (at' evz D (n:Int)).Kind==0
  ·cases decide (((rnAt (setS D n q).1.ts (at' evz D (n:Int)).ID).t.waits.length:Int)>0)
   ·simp only [cond_false,List.length_append,List.length_singleton];omega
   ·simp only [cond_false,cond_true];omega
  ·simp only [cond_true];omega
def DueP (e:Ev) (q:EG×List Int):Prop:=(e.Kind=0->FilesP q.1 e.ID)/\ (e.Kind≠0->idOk e.ID=true/\ q.1.ts.length=64/\ (atO q.1.ts e.ID).isSome=true/\ q.1.dq.1.length<=999)
def SetP (id:Int) (g:EG):Prop:=idOk id=true/\ g.ts.length=64/\ g.ev.length<=1000000/\ (atO g.ts id).isSome=true/\ ((rnAt g.ts id).stage≠2->RewP g id)/\ FilesP (settle0 id g) id
def SettleP (g:EG):Prop:=g.dq.1.length<=999/\ (dueL g).length<=1000/\ (∀x:Nat,x<(dueL g).length->DueP (at' evz (dueL g) (x:Int)) (setS (dueL g) x (due0 g)))/\ (due1 g).2.length<=12/\ (∀x:Nat,x<(due1 g).2.length->SetP (at' (0:Int) (srtI (due1 g).2) (x:Int)) (setN (srtI (due1 g).2) x (due1 g).1))
noncomputable def settlesCA (m:Int) (now:Int) (ts:List (Option Rnr)) (RL:List EThing) (RM:List (Int×Int)) (DL:List VThing) (DM:List (Int×Int)) (ev:List Ev) (nt:List Note):Ann T O:=annOf [(2, { σ:=Nat,st:=fun S x=>((((((((((((((((S.keep [0,16,17]).drop 3).drop 4).drop 5).drop 8).chunk 0 (.tab [.raw (.int .i64 (((setS (dueL ⟨m,now,ts,(RL,RM),(DL,DM),ev,nt⟩) x (due0 ⟨m,now,ts,(RL,RM),(DL,DM),ev,nt⟩)).1).m)), .raw (.int .i64 (((setS (dueL ⟨m,now,ts,(RL,RM),(DL,DM),ev,nt⟩) x (due0 ⟨m,now,ts,(RL,RM),(DL,DM),ev,nt⟩)).1).now))] 0 64 (((setS (dueL ⟨m,now,ts,(RL,RM),(DL,DM),ev,nt⟩) x (due0 ⟨m,now,ts,(RL,RM),(DL,DM),ev,nt⟩)).1).ts) none [.ptr 1 0, .ptr 2 0, .own S.next, .own (S.next+1)] 105)).chunk 1 (.cells [.fn 40 [], .own (S.next+2), .own 6] 146)).chunk 6 (.map 0 ((setS (dueL ⟨m,now,ts,(RL,RM),(DL,DM),ev,nt⟩) x (due0 ⟨m,now,ts,(RL,RM),(DL,DM),ev,nt⟩)).1).rq.2)).chunk 9 (.map 0 ((setS (dueL ⟨m,now,ts,(RL,RM),(DL,DM),ev,nt⟩) x (due0 ⟨m,now,ts,(RL,RM),(DL,DM),ev,nt⟩)).1).dq.2)).chunk 7 (.cells [.fn 83 [], .own (S.next+3), .own 9] 198)).add (.vec 4 ((setS (dueL ⟨m,now,ts,(RL,RM),(DL,DM),ev,nt⟩) x (due0 ⟨m,now,ts,(RL,RM),(DL,DM),ev,nt⟩)).1).ev 151)).add (.que 7 ((setS (dueL ⟨m,now,ts,(RL,RM),(DL,DM),ev,nt⟩) x (due0 ⟨m,now,ts,(RL,RM),(DL,DM),ev,nt⟩)).1).nt 84)).add (.vec 5 ((setS (dueL ⟨m,now,ts,(RL,RM),(DL,DM),ev,nt⟩) x (due0 ⟨m,now,ts,(RL,RM),(DL,DM),ev,nt⟩)).1).rq.1 200)).add (.vec 6 ((setS (dueL ⟨m,now,ts,(RL,RM),(DL,DM),ev,nt⟩) x (due0 ⟨m,now,ts,(RL,RM),(DL,DM),ev,nt⟩)).1).dq.1 242)).gc 10).int 18 x).new 2 (.vec 0 (setS (dueL ⟨m,now,ts,(RL,RM),(DL,DM),ev,nt⟩) x (due0 ⟨m,now,ts,(RL,RM),(DL,DM),ev,nt⟩)).2 3),inv:=fun _ x=>x<=(dueL ⟨m,now,ts,(RL,RM),(DL,DM),ev,nt⟩).length,m:=fun x=>(dueL ⟨m,now,ts,(RL,RM),(DL,DM),ev,nt⟩).length-x }),(12, { σ:=Nat,st:=fun S x=>(((((((((((((((S.keep [0,62,63]).drop 3).drop 4).drop 5).drop 8).chunk 0 (.tab [.raw (.int .i64 ((setN (srtI (due1 ⟨m,now,ts,(RL,RM),(DL,DM),ev,nt⟩).2) x (due1 ⟨m,now,ts,(RL,RM),(DL,DM),ev,nt⟩).1).m)), .raw (.int .i64 ((setN (srtI (due1 ⟨m,now,ts,(RL,RM),(DL,DM),ev,nt⟩).2) x (due1 ⟨m,now,ts,(RL,RM),(DL,DM),ev,nt⟩).1).now))] 0 64 ((setN (srtI (due1 ⟨m,now,ts,(RL,RM),(DL,DM),ev,nt⟩).2) x (due1 ⟨m,now,ts,(RL,RM),(DL,DM),ev,nt⟩).1).ts) none [.ptr 1 0, .ptr 2 0, .own S.next, .own (S.next+1)] 105)).chunk 1 (.cells [.fn 40 [], .own (S.next+2), .own 6] 146)).chunk 6 (.map 0 (setN (srtI (due1 ⟨m,now,ts,(RL,RM),(DL,DM),ev,nt⟩).2) x (due1 ⟨m,now,ts,(RL,RM),(DL,DM),ev,nt⟩).1).rq.2)).chunk 9 (.map 0 (setN (srtI (due1 ⟨m,now,ts,(RL,RM),(DL,DM),ev,nt⟩).2) x (due1 ⟨m,now,ts,(RL,RM),(DL,DM),ev,nt⟩).1).dq.2)).chunk 7 (.cells [.fn 83 [], .own (S.next+3), .own 9] 198)).add (.vec 4 (setN (srtI (due1 ⟨m,now,ts,(RL,RM),(DL,DM),ev,nt⟩).2) x (due1 ⟨m,now,ts,(RL,RM),(DL,DM),ev,nt⟩).1).ev 151)).add (.que 7 (setN (srtI (due1 ⟨m,now,ts,(RL,RM),(DL,DM),ev,nt⟩).2) x (due1 ⟨m,now,ts,(RL,RM),(DL,DM),ev,nt⟩).1).nt 84)).add (.vec 5 (setN (srtI (due1 ⟨m,now,ts,(RL,RM),(DL,DM),ev,nt⟩).2) x (due1 ⟨m,now,ts,(RL,RM),(DL,DM),ev,nt⟩).1).rq.1 200)).add (.vec 6 (setN (srtI (due1 ⟨m,now,ts,(RL,RM),(DL,DM),ev,nt⟩).2) x (due1 ⟨m,now,ts,(RL,RM),(DL,DM),ev,nt⟩).1).dq.1 242)).gc 10).int 64 x,inv:=fun _ x=>x<=(due1 ⟨m,now,ts,(RL,RM),(DL,DM),ev,nt⟩).2.length,m:=fun x=>(due1 ⟨m,now,ts,(RL,RM),(DL,DM),ev,nt⟩).2.length-x })] [] [] [6,15]
noncomputable def settlesCE0 (m:Int) (now:Int) (ts:List (Option Rnr)) (RL:List EThing) (RM:List (Int×Int)) (DL:List VThing) (DM:List (Int×Int)) (ev:List Ev) (nt:List Note):Eff T O:=⟨some (.tup []),[(0,some (.tab [.raw (.int .i64 ((settlesG ⟨m,now,ts,(RL,RM),(DL,DM),ev,nt⟩).m)), .raw (.int .i64 ((settlesG ⟨m,now,ts,(RL,RM),(DL,DM),ev,nt⟩).now))] 0 64 ((settlesG ⟨m,now,ts,(RL,RM),(DL,DM),ev,nt⟩).ts) none [.ptr 1 0, .ptr 2 0, .own 10, .own 11] 105)),(1,some (.cells [.fn 40 [], .own 12, .own 6] 146)),(3,none),(4,none),(5,none),(6,some (.map 0 (settlesG ⟨m,now,ts,(RL,RM),(DL,DM),ev,nt⟩).rq.2)),(7,some (.cells [.fn 83 [], .own 13, .own 9] 198)),(8,none),(9,some (.map 0 (settlesG ⟨m,now,ts,(RL,RM),(DL,DM),ev,nt⟩).dq.2)),(10,some (.vec 4 (settlesG ⟨m,now,ts,(RL,RM),(DL,DM),ev,nt⟩).ev 151)),(11,some (.que 7 (settlesG ⟨m,now,ts,(RL,RM),(DL,DM),ev,nt⟩).nt 84)),(12,some (.vec 5 (settlesG ⟨m,now,ts,(RL,RM),(DL,DM),ev,nt⟩).rq.1 200)),(13,some (.vec 6 (settlesG ⟨m,now,ts,(RL,RM),(DL,DM),ev,nt⟩).dq.1 242))]⟩
def settlesCText (m now:Int) (ts:List (Option Rnr)) (RL:List EThing) (RM:List (Int×Int)) (DL:List VThing) (DM:List (Int×Int)) (ev:List Ev) (nt:List Note):Prop:=let q1:=(EG.mk m now ts (RL,RM) (DL,DM) ev nt);let q9:=(True/\ (True/\ (True/\ True)));let q15:=((dueA (DL,DM) now).fst=(dueA (DL,DM) now).fst);let q21:=((↑(dueA (DL,DM) now).fst.length:Int)=(↑(dueA (DL,DM) now).fst.length:Int));(match (decide (DL.length<=(1000:Nat))) with|true=>((∃x:Nat,let q5:=(setS (dueL q1) x (due0 q1));((x.le (dueL q1).length)/\ ((True/\ (True/\ (True/\ (q21/\ (((↑x:Int)=(0:Int))/\ True)))))/\ ((((q5.fst.m=m)/\ ((q5.fst.now=now)/\ True))/\ ((q5.fst.ts=ts)/\ ((True/\ q9)/\ True)))/\ (q9/\ ((True/\ True)/\ ((q5.fst.rq.snd=RM)/\ (q9/\ ((q5.fst.dq.snd=(dueA (DL,DM) now).snd.snd)/\ (q15/\ ((q5.fst.ev=ev)/\ ((q5.fst.nt=nt)/\ ((q5.fst.rq.fst=RL)/\ ((q5.fst.dq.fst=(dueA (DL,DM) now).snd.fst)/\ ((q5.snd=[])/\ True)))))))))))))))/\ (∀x:Nat,let q5:=(setS (dueL q1) x (due0 q1));let q6:=(at' evE.zero (dueA (DL,DM) now).fst (↑x:Int));let q20:=(vpushH q5.fst.dq (calendarNumber q6.ID (1:Int)) (Ev.mk (IntKind.i64.wrap (q5.fst.now+(1:Int))) q6.ID (1:Int)));let q23:=((↑(srtI q5.snd).length:Int)=(↑(srtI q5.snd).length:Int));let q24:=(calendarNumber q6.ID (0:Int));((x.le (dueL q1).length)->(match (decide ((↑x:Int)<(↑(dueA (DL,DM) now).fst.length:Int))) with|true=>(match (inb (↑x:Int) (dueA (DL,DM) now).fst.length) with|true=>(match (inb (↑x:Int) (dueA (DL,DM) now).fst.length) with|true=>(match (q6.Kind==(0:Int)) with|true=>(match (decide ((0:Int)<=q6.ID/\ q6.ID<(64:Int)/\ q5.fst.ts.length=(64:Nat)/\ q5.fst.rq.fst.length<=(999:Nat)/\ q5.fst.dq.fst.length<=(999:Nat)/\ (ethereB q6.ID q5.fst.rq.snd=true->(0:Int)<=ewhereI q6.ID q5.fst.rq.snd/\ ewhereI q6.ID q5.fst.rq.snd<(↑q5.fst.rq.fst.length:Int))/\ (vthereB q24 q5.fst.dq.snd=true->(0:Int)<=vwhereI q24 q5.fst.dq.snd/\ vwhereI q24 q5.fst.dq.snd<(↑q5.fst.dq.fst.length:Int)))) with|true=>(∃x':Nat,let q8:=(setS (dueL q1) x' (due0 q1));let q11:=(True/\ (True/\ (True/\ (q21/\ (((↑x':Int)=IntKind.i64.wrap ((↑x:Int)+(1:Int)))/\ True)))));let q19:=((dueL q1).length-x'<(dueL q1).length-x);let q22:=(x'.le (dueL q1).length);(q22/\ (q19/\ (q11/\ ((((q8.fst.m=(filesG q5.fst q6.ID).m)/\ ((q8.fst.now=(filesG q5.fst q6.ID).now)/\ True))/\ ((q8.fst.ts=(filesG q5.fst q6.ID).ts)/\ ((True/\ q9)/\ True)))/\ (q9/\ ((True/\ True)/\ ((q8.fst.rq.snd=(filesG q5.fst q6.ID).rq.snd)/\ (q9/\ ((q8.fst.dq.snd=(filesG q5.fst q6.ID).dq.snd)/\ (q15/\ ((q8.fst.ev=(filesG q5.fst q6.ID).ev)/\ ((q8.fst.nt=(filesG q5.fst q6.ID).nt)/\ ((q8.fst.rq.fst=(filesG q5.fst q6.ID).rq.fst)/\ ((q8.fst.dq.fst=(filesG q5.fst q6.ID).dq.fst)/\ ((q8.snd=q5.snd)/\ True))))))))))))))))|false=>False)|false=>(match (inb q6.ID (64:Nat)) with|true=>(match (inb q6.ID (64:Nat)) with|true=>(match ((atO q5.fst.ts q6.ID).isSome) with|true=>(match (decide ((↑((atO q5.fst.ts q6.ID).getD rnrL.zero).t.waits.length:Int)>(0:Int))) with|true=>(match (decide (q5.fst.dq.fst.length<=(1000:Nat))) with|true=>(match (calendarRight q6.ID (1:Int)&&decide ((0:Int)<=IntKind.i64.wrap (q5.fst.now+(1:Int)))&& !vthereB (calendarNumber q6.ID (1:Int)) q5.fst.dq.snd) with|true=>(∃x':Nat,let q8:=(setS (dueL q1) x' (due0 q1));let q11:=(True/\ (True/\ (True/\ (q21/\ (((↑x':Int)=IntKind.i64.wrap ((↑x:Int)+(1:Int)))/\ True)))));let q12:=(((q8.fst.m=q5.fst.m)/\ ((q8.fst.now=q5.fst.now)/\ True))/\ ((q8.fst.ts=q5.fst.ts.set q6.ID.toNat (some ((atO q5.fst.ts q6.ID).getD rnrL.zero)))/\ ((True/\ q9)/\ True)));let q19:=((dueL q1).length-x'<(dueL q1).length-x);let q22:=(x'.le (dueL q1).length);let q25:=(q8.fst.rq.snd=q5.fst.rq.snd);let q26:=(q8.fst.rq.fst=q5.fst.rq.fst);(q22/\ (q19/\ (q11/\ (q12/\ (q9/\ ((True/\ True)/\ (q25/\ (q9/\ ((q8.fst.dq.snd=q20.snd)/\ (q15/\ ((q8.fst.ev=q5.fst.ev)/\ ((q8.fst.nt=q5.fst.nt)/\ (q26/\ ((q8.fst.dq.fst=q20.fst)/\ ((q8.snd=q5.snd)/\ True))))))))))))))))|false=>(∃x':Nat,let q8:=(setS (dueL q1) x' (due0 q1));let q11:=(True/\ (True/\ (True/\ (q21/\ (((↑x':Int)=IntKind.i64.wrap ((↑x:Int)+(1:Int)))/\ True)))));let q12:=(((q8.fst.m=q5.fst.m)/\ ((q8.fst.now=q5.fst.now)/\ True))/\ ((q8.fst.ts=q5.fst.ts.set q6.ID.toNat (some ((atO q5.fst.ts q6.ID).getD rnrL.zero)))/\ ((True/\ q9)/\ True)));let q19:=((dueL q1).length-x'<(dueL q1).length-x);let q22:=(x'.le (dueL q1).length);let q25:=(q8.fst.rq.snd=q5.fst.rq.snd);let q26:=(q8.fst.rq.fst=q5.fst.rq.fst);(q22/\ (q19/\ (q11/\ (q12/\ (q9/\ ((True/\ True)/\ (q25/\ (q9/\ ((q8.fst.dq.snd=q5.fst.dq.snd)/\ (q15/\ ((q8.fst.ev=q5.fst.ev)/\ ((q8.fst.nt=q5.fst.nt)/\ (q26/\ ((q8.fst.dq.fst=q5.fst.dq.fst)/\ ((q8.snd=q5.snd)/\ True)))))))))))))))))|false=>False)|false=>(match (roomy (q5.snd.length+(1:Nat)) (nat_lit 8)) with|true=>(∃x':Nat,let q8:=(setS (dueL q1) x' (due0 q1));let q11:=(True/\ (True/\ (True/\ (q21/\ (((↑x':Int)=IntKind.i64.wrap ((↑x:Int)+(1:Int)))/\ True)))));let q12:=(((q8.fst.m=q5.fst.m)/\ ((q8.fst.now=q5.fst.now)/\ True))/\ ((q8.fst.ts=q5.fst.ts.set q6.ID.toNat (some ((atO q5.fst.ts q6.ID).getD rnrL.zero)))/\ ((True/\ q9)/\ True)));let q19:=((dueL q1).length-x'<(dueL q1).length-x);let q22:=(x'.le (dueL q1).length);let q25:=(q8.fst.rq.snd=q5.fst.rq.snd);let q26:=(q8.fst.rq.fst=q5.fst.rq.fst);(q22/\ (q19/\ (q11/\ (q12/\ (q9/\ ((True/\ True)/\ (q25/\ (q9/\ ((q8.fst.dq.snd=q5.fst.dq.snd)/\ (q15/\ ((q8.fst.ev=q5.fst.ev)/\ ((q8.fst.nt=q5.fst.nt)/\ (q26/\ ((q8.fst.dq.fst=q5.fst.dq.fst)/\ ((q8.snd=q5.snd++[q6.ID])/\ True))))))))))))))))|false=>False))|false=>False)|false=>False)|false=>False))|false=>False)|false=>False)|false=>(match (decide (q5.snd.length<=(12:Nat))) with|true=>((∃x1:Nat,let q4:=(setN (srtI (due1 q1).snd) x1 (due1 q1).fst);((x1.le (due1 q1).snd.length)/\ ((True/\ (True/\ (q23/\ (((↑x1:Int)=(0:Int))/\ True))))/\ ((((q4.m=q5.fst.m)/\ ((q4.now=q5.fst.now)/\ True))/\ ((q4.ts=q5.fst.ts)/\ ((True/\ q9)/\ True)))/\ (q9/\ ((True/\ True)/\ ((q4.rq.snd=q5.fst.rq.snd)/\ (q9/\ ((q4.dq.snd=q5.fst.dq.snd)/\ ((srtI q5.snd=srtI q5.snd)/\ ((q4.ev=q5.fst.ev)/\ ((q4.nt=q5.fst.nt)/\ ((q4.rq.fst=q5.fst.rq.fst)/\ ((q4.dq.fst=q5.fst.dq.fst)/\ True))))))))))))))/\ (∀x1:Nat,let q4:=(setN (srtI (due1 q1).snd) x1 (due1 q1).fst);let q3:=(at' (0:Int) (srtI q5.snd) (↑x1:Int));let q7:=((atO q4.ts q3).getD rnrL.zero);let q0:=(EG.mk q4.m q4.now (q4.ts.set (Int.toNat q3) (some (Rnr.mk (Tsk.mk q7.t.E q7.t.P q7.t.early q7.t.cut (Stp.mk q7.t.st.E q7.t.st.P q7.t.st.off q7.t.st.idx q7.t.st.whole q7.t.st.rest q7.t.st.ew q7.t.st.el q7.t.st.eo q7.t.st.long q7.t.st.part q7.t.st.gw q7.t.st.gl q7.t.st.go (Sub.mk q7.t.st.sub.Index q7.t.st.sub.Release q7.t.st.sub.Deadline q7.t.st.sub.Bit q7.t.st.sub.Group)) q7.t.waits (Sub.mk q7.t.ran.Index q7.t.ran.Release q7.t.ran.Deadline q7.t.ran.Bit q7.t.ran.Group) q7.t.done) q7.stage q7.early q7.pin q7.last q7.since q7.nE q7.nP q7.kept))) (q4.rq.fst,q4.rq.snd) (q4.dq.fst,q4.dq.snd) q4.ev q4.nt);let q13:=(q4.ts.set (Int.toNat q3) (some q7));let q2:=(EG.mk q4.m q4.now q13 q4.rq q4.dq q4.ev q4.nt);let q14:=(filesG (reweightsG q2 q3) q3);let q16:=(filesG (leavesG q2 q3) q3);let q18:=(calendarNumber q3 (0:Int));((x1.le (due1 q1).snd.length)->(match (decide ((↑x1:Int)<(↑(srtI q5.snd).length:Int))) with|true=>(match (inb (↑x1:Int) (srtI q5.snd).length) with|true=>(match (inb (↑x1:Int) (srtI q5.snd).length) with|true=>(match (inb q3 (64:Nat)) with|true=>(match (inb q3 (64:Nat)) with|true=>(match ((atO q4.ts q3).isSome) with|true=>(match (q7.stage==(2:Int)) with|true=>(match (decide (idOk q3=true/\ q13.length=(64:Nat)/\ q4.ev.length<=(1000000:Nat))) with|true=>(match (decide ((0:Int)<=at' (0:Int) (srtI q5.snd) (↑x1:Int)/\ at' (0:Int) (srtI q5.snd) (↑x1:Int)<(64:Int)/\ (leavesG q2 q3).ts.length=(64:Nat)/\ (leavesG q2 q3).rq.fst.length<=(999:Nat)/\ (leavesG q2 q3).dq.fst.length<=(999:Nat)/\ (ethereB q3 (leavesG q0 q3).rq.snd=true->(0:Int)<=ewhereI q3 (leavesG q0 q3).rq.snd/\ ewhereI q3 (leavesG q0 q3).rq.snd<(↑(leavesG q0 q3).rq.fst.length:Int))/\ (vthereB q18 (leavesG q0 q3).dq.snd=true->(0:Int)<=vwhereI q18 (leavesG q0 q3).dq.snd/\ vwhereI q18 (leavesG q0 q3).dq.snd<(↑(leavesG q0 q3).dq.fst.length:Int)))) with|true=>(∃x':Nat,let q10:=(setN (srtI (due1 q1).snd) x' (due1 q1).fst);let q17:=(True/\ (True/\ (q23/\ (((↑x':Int)=IntKind.i64.wrap ((↑x1:Int)+(1:Int)))/\ True))));((x'.le (due1 q1).snd.length)/\ (((due1 q1).snd.length-x'<(due1 q1).snd.length-x1)/\ (q17/\ ((((q10.m=q16.m)/\ ((q10.now=q16.now)/\ True))/\ ((q10.ts=q16.ts)/\ ((True/\ q9)/\ True)))/\ (q9/\ ((True/\ True)/\ ((q10.rq.snd=q16.rq.snd)/\ (q9/\ ((q10.dq.snd=q16.dq.snd)/\ ((srtI q5.snd=srtI q5.snd)/\ ((q10.ev=q16.ev)/\ ((q10.nt=q16.nt)/\ ((q10.rq.fst=q16.rq.fst)/\ ((q10.dq.fst=q16.dq.fst)/\ True)))))))))))))))|false=>False)|false=>False)|false=>(match (decide (idOk q3=true/\ q13.length=(64:Nat)/\ q4.ev.length<=(1000000:Nat)/\ (atO q13 q3).isSome=true/\ windowCheck (rnAt q13 q3).nE (rnAt q13 q3).nP=true/\ (0:Int)<=q4.now/\ q4.now<=(1099511627776:Int)/\ ArrTP q4.now (rnAt q13 q3).kept (newRnr (rnAt q13 q3).nE (rnAt q13 q3).nP q4.now (rnAt q13 q3).early (rnAt q13 q3).pin))) with|true=>(match (decide ((0:Int)<=at' (0:Int) (srtI q5.snd) (↑x1:Int)/\ at' (0:Int) (srtI q5.snd) (↑x1:Int)<(64:Int)/\ (reweightsG q2 q3).ts.length=(64:Nat)/\ (reweightsG q2 q3).rq.fst.length<=(999:Nat)/\ (reweightsG q2 q3).dq.fst.length<=(999:Nat)/\ (ethereB q3 (reweightsG q0 q3).rq.snd=true->(0:Int)<=ewhereI q3 (reweightsG q0 q3).rq.snd/\ ewhereI q3 (reweightsG q0 q3).rq.snd<(↑(reweightsG q0 q3).rq.fst.length:Int))/\ (vthereB q18 (reweightsG q0 q3).dq.snd=true->(0:Int)<=vwhereI q18 (reweightsG q0 q3).dq.snd/\ vwhereI q18 (reweightsG q0 q3).dq.snd<(↑(reweightsG q0 q3).dq.fst.length:Int)))) with|true=>(∃x':Nat,let q10:=(setN (srtI (due1 q1).snd) x' (due1 q1).fst);let q17:=(True/\ (True/\ (q23/\ (((↑x':Int)=IntKind.i64.wrap ((↑x1:Int)+(1:Int)))/\ True))));((x'.le (due1 q1).snd.length)/\ (((due1 q1).snd.length-x'<(due1 q1).snd.length-x1)/\ (q17/\ ((((q10.m=q14.m)/\ ((q10.now=q14.now)/\ True))/\ ((q10.ts=q14.ts)/\ ((True/\ q9)/\ True)))/\ (q9/\ ((True/\ True)/\ ((q10.rq.snd=q14.rq.snd)/\ (q9/\ ((q10.dq.snd=q14.dq.snd)/\ ((srtI q5.snd=srtI q5.snd)/\ ((q10.ev=q14.ev)/\ ((q10.nt=q14.nt)/\ ((q10.rq.fst=q14.rq.fst)/\ ((q10.dq.fst=q14.dq.fst)/\ True)))))))))))))))|false=>False)|false=>False))|false=>False)|false=>False)|false=>False)|false=>False)|false=>False)|false=>((True/\ True)/\ (((((settlesG q1).m=q4.m)/\ (((settlesG q1).now=q4.now)/\ True))/\ (((settlesG q1).ts=q4.ts)/\ ((True/\ q9)/\ True)))/\ (q9/\ ((True/\ True)/\ (((settlesG q1).rq.snd=q4.rq.snd)/\ (q9/\ (((settlesG q1).dq.snd=q4.dq.snd)/\ (((settlesG q1).ev=q4.ev)/\ (((settlesG q1).nt=q4.nt)/\ (((settlesG q1).rq.fst=q4.rq.fst)/\ (((settlesG q1).dq.fst=q4.dq.fst)/\ True)))))))))))))))|false=>False)))))|false=>False)
theorem settlesCVc (m now:Int) (ts:List (Option Rnr)) (RL:List EThing) (RM:List (Int×Int)) (DL:List VThing) (DM:List (Int×Int)) (ev:List Ev) (nt:List Note):fnX X48 ((settlesCA m now ts RL RM DL DM ev nt)) Tryz.f53 [.ptr 0 0] (cs3 m now ts RL RM DL DM ev nt) (ends (cs3 m now ts RL RM DL DM ev nt) (settlesCE0 m now ts RL RM DL DM ev nt))=settlesCText m now ts RL RM DL DM ev nt:=by kernel_rfl
theorem settlesCHolds (m now:Int) (ts:List (Option Rnr)) (RL:List EThing) (RM:List (Int×Int)) (DL:List VThing) (DM:List (Int×Int)) (ev:List Ev) (nt:List Note) (hp:SettleP ⟨m,now,ts,(RL,RM),(DL,DM),ev,nt⟩):settlesCText m now ts RL RM DL DM ev nt:=by
 unfold settlesCText
 conv=>zeta
 obtain ⟨d1,d2,d3,d4,d5⟩:=hp
 have d1:DL.length<=999:=d1
 refine mD (show DL.length<=1000 by omega) ?_
 refine ⟨⟨0,Nat.zero_le _,by repeat' first|exact True.intro|with_reducible rfl|apply And.intro|exact rfl⟩, ?_⟩
 intro x hx
 have hx:x<=(dueL ⟨m,now,ts,(RL,RM),(DL,DM),ev,nt⟩).length:=hx
 by_cases h:x<(dueL ⟨m,now,ts,(RL,RM),(DL,DM),ev,nt⟩).length
 ·have hs:setS (dueL ⟨m,now,ts,(RL,RM),(DL,DM),ev,nt⟩) (x+1) (due0 ⟨m,now,ts,(RL,RM),(DL,DM),ev,nt⟩)=stepD (at' evz (dueL ⟨m,now,ts,(RL,RM),(DL,DM),ev,nt⟩) (x:Int)) (setS (dueL ⟨m,now,ts,(RL,RM),(DL,DM),ev,nt⟩) x (due0 ⟨m,now,ts,(RL,RM),(DL,DM),ev,nt⟩)):=rfl
  have hq2:=setS_len (dueL ⟨m,now,ts,(RL,RM),(DL,DM),ev,nt⟩) (due0 ⟨m,now,ts,(RL,RM),(DL,DM),ev,nt⟩) x
  have h00:(due0 ⟨m,now,ts,(RL,RM),(DL,DM),ev,nt⟩).2.length=0:=rfl
  have hw:((x+1:Nat):Int)=IntKind.i64.wrap ((x:Int)+1):=by rw [wrap_id (by omega) (by omega)];rfl
  obtain ⟨p1,p2⟩:=d3 x h
  refine mD (show (x:Int)<((dueL ⟨m,now,ts,(RL,RM),(DL,DM),ev,nt⟩).length:Int) by omega) (mT (inb_nat h) (mT (inb_nat h) ?_))
  rcases Bool.eq_false_or_eq_true ((at' evz (dueL ⟨m,now,ts,(RL,RM),(DL,DM),ev,nt⟩) (x:Int)).Kind==0) with hk|hk
  ·have hs':setS (dueL ⟨m,now,ts,(RL,RM),(DL,DM),ev,nt⟩) (x+1) (due0 ⟨m,now,ts,(RL,RM),(DL,DM),ev,nt⟩)=(filesG (setS (dueL ⟨m,now,ts,(RL,RM),(DL,DM),ev,nt⟩) x (due0 ⟨m,now,ts,(RL,RM),(DL,DM),ev,nt⟩)).1 (at' evz (dueL ⟨m,now,ts,(RL,RM),(DL,DM),ev,nt⟩) (x:Int)).ID,(setS (dueL ⟨m,now,ts,(RL,RM),(DL,DM),ev,nt⟩) x (due0 ⟨m,now,ts,(RL,RM),(DL,DM),ev,nt⟩)).2):=by
    rw [hs];unfold stepD;rw [hk];rfl
   refine mT hk (mD (p1 (by simpa using hk)) ⟨x+1,h,by omega, ?_⟩)
   rw [hs']
   repeat' first|exact hw|exact True.intro|with_reducible rfl|apply And.intro|exact rfl
  ·obtain ⟨q1,q2,q3,q4⟩:=p2 (by simpa using hk)
   have hi:=idOk_inb q1
   have hset:=set_rnAt q3
   refine mF hk (mT hi (mT hi (mT q3 ?_)))
   rcases Bool.eq_false_or_eq_true (decide (((rnAt (setS (dueL ⟨m,now,ts,(RL,RM),(DL,DM),ev,nt⟩) x (due0 ⟨m,now,ts,(RL,RM),(DL,DM),ev,nt⟩)).1.ts (at' evz (dueL ⟨m,now,ts,(RL,RM),(DL,DM),ev,nt⟩) (x:Int)).ID).t.waits.length:Int)>0)) with hc|hc
   ·refine mT hc (mD (show (setS (dueL ⟨m,now,ts,(RL,RM),(DL,DM),ev,nt⟩) x (due0 ⟨m,now,ts,(RL,RM),(DL,DM),ev,nt⟩)).1.dq.1.length<=1000 by omega) ?_)
    have hs0:setS (dueL ⟨m,now,ts,(RL,RM),(DL,DM),ev,nt⟩) (x+1) (due0 ⟨m,now,ts,(RL,RM),(DL,DM),ev,nt⟩)=({ (setS (dueL ⟨m,now,ts,(RL,RM),(DL,DM),ev,nt⟩) x (due0 ⟨m,now,ts,(RL,RM),(DL,DM),ev,nt⟩)).1 with dq:=putU (setS (dueL ⟨m,now,ts,(RL,RM),(DL,DM),ev,nt⟩) x (due0 ⟨m,now,ts,(RL,RM),(DL,DM),ev,nt⟩)).1.dq ⟨IntKind.i64.wrap ((setS (dueL ⟨m,now,ts,(RL,RM),(DL,DM),ev,nt⟩) x (due0 ⟨m,now,ts,(RL,RM),(DL,DM),ev,nt⟩)).1.now+1),(at' evz (dueL ⟨m,now,ts,(RL,RM),(DL,DM),ev,nt⟩) (x:Int)).ID,1⟩ },(setS (dueL ⟨m,now,ts,(RL,RM),(DL,DM),ev,nt⟩) x (due0 ⟨m,now,ts,(RL,RM),(DL,DM),ev,nt⟩)).2):=by
     rw [hs];unfold stepD;rw [hk,hc];rfl
    rcases Bool.eq_false_or_eq_true (calendarRight (at' evz (dueL ⟨m,now,ts,(RL,RM),(DL,DM),ev,nt⟩) (x:Int)).ID 1&&decide (0<=IntKind.i64.wrap ((setS (dueL ⟨m,now,ts,(RL,RM),(DL,DM),ev,nt⟩) x (due0 ⟨m,now,ts,(RL,RM),(DL,DM),ev,nt⟩)).1.now+1))&& !vthereB (calendarNumber (at' evz (dueL ⟨m,now,ts,(RL,RM),(DL,DM),ev,nt⟩) (x:Int)).ID 1) (setS (dueL ⟨m,now,ts,(RL,RM),(DL,DM),ev,nt⟩) x (due0 ⟨m,now,ts,(RL,RM),(DL,DM),ev,nt⟩)).1.dq.2) with hb|hb
    ·unfold putU at hs0
     dsimp only at hs0
     rw [hb,cond_true] at hs0
     refine mT hb ⟨x+1,h,by omega, ?_⟩
     rw [hs0]
     repeat' first|exact hw|exact True.intro|with_reducible rfl|apply And.intro|exact hset.symm|exact rfl
    ·unfold putU at hs0
     dsimp only at hs0
     rw [hb,cond_false] at hs0
     refine mF hb ⟨x+1,h,by omega, ?_⟩
     rw [hs0]
     repeat' first|exact hw|exact True.intro|with_reducible rfl|apply And.intro|exact hset.symm|exact rfl
   ·have hs0:setS (dueL ⟨m,now,ts,(RL,RM),(DL,DM),ev,nt⟩) (x+1) (due0 ⟨m,now,ts,(RL,RM),(DL,DM),ev,nt⟩)=((setS (dueL ⟨m,now,ts,(RL,RM),(DL,DM),ev,nt⟩) x (due0 ⟨m,now,ts,(RL,RM),(DL,DM),ev,nt⟩)).1,(setS (dueL ⟨m,now,ts,(RL,RM),(DL,DM),ev,nt⟩) x (due0 ⟨m,now,ts,(RL,RM),(DL,DM),ev,nt⟩)).2++[(at' evz (dueL ⟨m,now,ts,(RL,RM),(DL,DM),ev,nt⟩) (x:Int)).ID]):=by
     rw [hs];unfold stepD;rw [hk,hc];rfl
    refine mF hc (mT (show roomy ((setS (dueL ⟨m,now,ts,(RL,RM),(DL,DM),ev,nt⟩) x (due0 ⟨m,now,ts,(RL,RM),(DL,DM),ev,nt⟩)).2.length+1) 8=true by unfold roomy;simp;omega) ⟨x+1,h,by omega, ?_⟩)
    rw [hs0]
    repeat' first|exact hw|exact True.intro|with_reducible rfl|apply And.intro|exact hset.symm|exact rfl
 have hxe:x=(dueL ⟨m,now,ts,(RL,RM),(DL,DM),ev,nt⟩).length:=by omega
 subst hxe
 refine mN (show ¬(((dueL ⟨m,now,ts,(RL,RM),(DL,DM),ev,nt⟩).length:Int)<((dueL ⟨m,now,ts,(RL,RM),(DL,DM),ev,nt⟩).length:Int)) by omega) (mD d4 ?_)
 have e1:setS (dueL ⟨m,now,ts,(RL,RM),(DL,DM),ev,nt⟩) (dueL ⟨m,now,ts,(RL,RM),(DL,DM),ev,nt⟩).length (due0 ⟨m,now,ts,(RL,RM),(DL,DM),ev,nt⟩)=due1 ⟨m,now,ts,(RL,RM),(DL,DM),ev,nt⟩:=rfl
 rw [e1]
 refine ⟨⟨0,Nat.zero_le _,by repeat' first|exact True.intro|with_reducible rfl|apply And.intro|exact rfl⟩, ?_⟩
 intro y hy
 have hy:y<=(due1 ⟨m,now,ts,(RL,RM),(DL,DM),ev,nt⟩).2.length:=hy
 have hl:(srtI (due1 ⟨m,now,ts,(RL,RM),(DL,DM),ev,nt⟩).2).length=(due1 ⟨m,now,ts,(RL,RM),(DL,DM),ev,nt⟩).2.length:=isrtZ_length _ _ _ _
 by_cases h2:y<(due1 ⟨m,now,ts,(RL,RM),(DL,DM),ev,nt⟩).2.length
 ·have h3:y<(srtI (due1 ⟨m,now,ts,(RL,RM),(DL,DM),ev,nt⟩).2).length:=by omega
  have hw:((y+1:Nat):Int)=IntKind.i64.wrap ((y:Int)+1):=by rw [wrap_id (by omega) (by omega)];rfl
  obtain ⟨s1,s2,s3,s4,s5,s6⟩:=d5 y h2
  have hi:=idOk_inb s1
  have hset:(setN (srtI (due1 ⟨m,now,ts,(RL,RM),(DL,DM),ev,nt⟩).2) y (due1 ⟨m,now,ts,(RL,RM),(DL,DM),ev,nt⟩).1).ts.set (at' (0:Int) (srtI (due1 ⟨m,now,ts,(RL,RM),(DL,DM),ev,nt⟩).2) (y:Int)).toNat (some ((atO (setN (srtI (due1 ⟨m,now,ts,(RL,RM),(DL,DM),ev,nt⟩).2) y (due1 ⟨m,now,ts,(RL,RM),(DL,DM),ev,nt⟩).1).ts (at' (0:Int) (srtI (due1 ⟨m,now,ts,(RL,RM),(DL,DM),ev,nt⟩).2) (y:Int))).getD rnrL.zero))=(setN (srtI (due1 ⟨m,now,ts,(RL,RM),(DL,DM),ev,nt⟩).2) y (due1 ⟨m,now,ts,(RL,RM),(DL,DM),ev,nt⟩).1).ts:=set_rnAt s4
  refine mD (show (y:Int)<((srtI (due1 ⟨m,now,ts,(RL,RM),(DL,DM),ev,nt⟩).2).length:Int) by omega) (mT (inb_nat h3) (mT (inb_nat h3) (mT hi (mT hi (mT s4 ?_)))))
  rw [hset]
  have hs:setN (srtI (due1 ⟨m,now,ts,(RL,RM),(DL,DM),ev,nt⟩).2) (y+1) (due1 ⟨m,now,ts,(RL,RM),(DL,DM),ev,nt⟩).1=filesG (settle0 (at' (0:Int) (srtI (due1 ⟨m,now,ts,(RL,RM),(DL,DM),ev,nt⟩).2) (y:Int)) (setN (srtI (due1 ⟨m,now,ts,(RL,RM),(DL,DM),ev,nt⟩).2) y (due1 ⟨m,now,ts,(RL,RM),(DL,DM),ev,nt⟩).1)) (at' (0:Int) (srtI (due1 ⟨m,now,ts,(RL,RM),(DL,DM),ev,nt⟩).2) (y:Int)):=rfl
  unfold settle0 at hs s6
  rcases Bool.eq_false_or_eq_true ((rnAt (setN (srtI (due1 ⟨m,now,ts,(RL,RM),(DL,DM),ev,nt⟩).2) y (due1 ⟨m,now,ts,(RL,RM),(DL,DM),ev,nt⟩).1).ts (at' (0:Int) (srtI (due1 ⟨m,now,ts,(RL,RM),(DL,DM),ev,nt⟩).2) (y:Int))).stage==2) with hst|hst
  ·rw [hst,cond_true] at hs s6
   refine mT hst (mD ⟨s1,s2,s3⟩ (mD s6 ⟨y+1,h2,by omega, ?_⟩))
   rw [hs]
   repeat' first|exact hw|exact True.intro|with_reducible rfl|apply And.intro|exact rfl
  ·rw [hst,cond_false] at hs s6
   refine mF hst (mD ⟨s1,s2,s3,s4,s5 (by simpa using hst)⟩ (mD s6 ⟨y+1,h2,by omega, ?_⟩))
   rw [hs]
   repeat' first|exact hw|exact True.intro|with_reducible rfl|apply And.intro|exact rfl
 have hye:y=(due1 ⟨m,now,ts,(RL,RM),(DL,DM),ev,nt⟩).2.length:=by omega
 subst hye
 refine mN (show ¬(((due1 ⟨m,now,ts,(RL,RM),(DL,DM),ev,nt⟩).2.length:Int)<((srtI (due1 ⟨m,now,ts,(RL,RM),(DL,DM),ev,nt⟩).2).length:Int)) by omega) ?_
 repeat' first|exact True.intro|with_reducible rfl|apply And.intro|exact rfl
set_option maxHeartbeats 4000000 in
noncomputable def settlesCCon:Con T O:=fun args cs=>match args,cs with
 |[.ptr 0 0],[.tab [.raw (.int .i64 m), .raw (.int .i64 now)] 0 64 (ts) none [.ptr 1 0, .ptr 2 0, .own 3, .own 4] 105, .cells [.fn 40 [], .own 5, .own 6] 146, .cells [.ptr 7 0] 156, .vec 4 ev 151, .que 7 nt 84, .vec 5 RL 200, .map 0 RM, .cells [.fn 83 [], .own 8, .own 9] 198, .vec 6 DL 242, .map 0 DM]=>chk (decide (SettleP ⟨m,now,ts,(RL,RM),(DL,DM),ev,nt⟩)) (.ret (settlesCE0 m now ts RL RM DL DM ev nt))
 |_,_=> .fail
theorem settlesCOk:ConOk R Tryz.prog 53 settlesCCon:=con_of_fn R (X48) (good (X48) rfl (TabOk.con R X48Ok)) mixed Tryz.call53 Tryz.func53 settlesCCon (by
 intro args cs K h
 unfold settlesCCon at h
 split at h
 ·rename_i m now ts ev nt RL RM DL DM
  rw [Tree.holds_chk] at h
  obtain ⟨hp,h⟩:=h
  refine ⟨(settlesCA m now ts RL RM DL DM ev nt),_,fun v S hv=>⟨_,h,hv⟩, ?_⟩
  have hv:=settlesCVc m now ts RL RM DL DM ev nt
  unfold cs3 at hv
  rw [hv]
  exact settlesCHolds m now ts RL RM DL DM ev nt (of_decide_eq_true hp)
 ·exact h.elim)
noncomputable def tab49:Tab T O:=(53,settlesCCon)::tab48
theorem tabOk49:TabOk R Tryz.prog tab49:=TabOk.cons R settlesCOk<|tabOk48
noncomputable def X49:Ctx T O:= { X0 with con:=conOf tab49 }
theorem X49Ok:TabOk R X49.P tab49:=tabOk49
end Go.Proofs.YtlfjbnflfdnoaaaGreat
namespace Go.Proofs.YtlfjbnflfdnoaaaGreat
open Go.Sx Go.Proofs Classical
def cutT (now:Int) (t:Rnr):Rnr:= { t with t:= { t.t with cut:=true,waits:=t.t.waits.take (cutN now t.t.waits) },kept:=(t.t.waits.length:Int)-(cutN now t.t.waits:Int) }
def goesE (g:EG) (id:Int):Int:=bif !idOk id then 1 else bif !(atO g.ts id).isSome then 12 else bif (rnAt g.ts id).stage !=1 then 13 else 0
def goT (g:EG) (id stage nE nP:Int):Rnr:= { cutT g.now (rnAt g.ts id) with stage:=stage,nE:=nE,nP:=nP }
def timeT (now:Int) (t:Rnr):Int:=ruleTime t.t.E t.t.P (lastT t.t.waits t.t.ran t.t.done).Index (lastT t.t.waits t.t.ran t.t.done).Release (lastT t.t.waits t.t.ran t.t.done).Deadline (lastT t.t.waits t.t.ran t.t.done).Bit (lastT t.t.waits t.t.ran t.t.done).Group (someL t.t.waits t.t.done) now
def go1 (g:EG) (id stage nE nP:Int):EG:= { g with ts:=g.ts.set id.toNat (some (goT g id stage nE nP)),dq:=putU g.dq ⟨timeT g.now (goT g id stage nE nP),id,1⟩ }
def goesG (g:EG) (id stage nE nP:Int):EG:=bif goesE g id==0 then settlesG (filesG (go1 g id stage nE nP) id) else g
def GoesP (g:EG) (id stage nE nP:Int):Prop:=g.ts.length=64/\ (goesE g id=0->(rnAt g.ts id).t.waits.length<=1000/\ g.dq.1.length<=999/\ FilesP (go1 g id stage nE nP) id/\ SettleP (filesG (go1 g id stage nE nP) id))
abbrev etZ:EThing:=⟨0,0,0,0,0,0,0⟩
def entT (a:EThing):Entry:=⟨a.XID,a.XSubIndex,a.XSubRelease,a.XSubDeadline,a.XSubBit,a.XSubGroup⟩
def pk:Nat->eHS->List Entry×eHS
 |0,s=>([],s)
 |n+1,s=>((pk n s).1++[entT (at' etZ (pk n s).2.1 0)],etakeH (pk n s).2 0)
theorem pk_len (s:eHS): ∀n,(pk n s).1.length=n
 |0=>rfl
 |n+1=>by simp only [pk,List.length_append,List.length_singleton,pk_len s n]
theorem etakeH_len1 (s:eHS) (i:Nat):(etakeH s i).1.length=s.1.length-1:=by
 unfold etakeH
 cases decide (i<s.1.length-1)
 ·simp only [cond_false,List.length_take,eswapL_length];omega
 ·simp only [cond_true]
  rw [esinkN_length,eriseN_length]
  simp only [List.length_take,eswapL_length]
  omega
theorem pk_len2 (s:eHS): ∀n,(pk n s).2.1.length=s.1.length-n
 |0=>rfl
 |n+1=>by simp only [pk];rw [etakeH_len1,pk_len2 s n];omega
def pkN (g:EG):Nat:=min g.m.toNat g.rq.1.length
def runT (t:Rnr) (core:Int):Rnr:= { t with t:= { t.t with waits:=t.t.waits.drop 1,ran:=headT t.t.waits,done:=IntKind.i64.wrap (t.t.done+1) },last:=core }
def noteT (now id core:Int) (t:Rnr):Note:=⟨id,t.since,(headT t.t.waits).Index,(headT t.t.waits).Release,(headT t.t.waits).Deadline,(headT t.t.waits).Bit,(headT t.t.waits).Group,bif t.early then t.since else (if (headT t.t.waits).Release>t.since then (headT t.t.waits).Release else t.since),now,core⟩
def runsG (g:EG) (id core:Int):EG:= { g with ts:=g.ts.set id.toNat (some (runT (rnAt g.ts id) core)),nt:=g.nt++[noteT g.now id core (rnAt g.ts id)] }
def RunsP (g:EG) (id:Int):Prop:=idOk id=true/\ g.ts.length=64/\ (atO g.ts id).isSome=true/\ (rnAt g.ts id).t.waits.length<=1000/\ someT (rnAt g.ts id).t.waits=true/\ g.nt.length<=1000000
def goesCK0Text (id stage nE nP:Int):Prop:=((((1:Int)=(1:Int))/\ True)/\ True)
theorem goesCK0Vc (id stage nE nP:Int):fnX X49 (noAnn) Tryz.f74 [.raw (.pointer none), .raw (.int .i64 id), .raw (.int .i64 stage), .agg [.raw (.int .i64 nE), .raw (.int .i64 nP)]] [] (ends [] ⟨some (.raw (.int .i64 1)),[]⟩)=goesCK0Text id stage nE nP:=by kernel_rfl
theorem goesCK0Holds (id stage nE nP:Int):goesCK0Text id stage nE nP:=by
 unfold goesCK0Text
 repeat' first|trivial|rfl|apply And.intro
noncomputable def goesCK1E0 (m:Int) (now:Int) (ts:List (Option Rnr)) (RL:List EThing) (RM:List (Int×Int)) (DL:List VThing) (DM:List (Int×Int)) (ev:List Ev) (nt:List Note) (id:Int) (stage:Int) (nE:Int) (nP:Int):Eff T O:=⟨some (.raw (.int .i64 ((goesE ⟨m,now,ts,(RL,RM),(DL,DM),ev,nt⟩ id)))),[(0,some (.tab [.raw (.int .i64 ((goesG ⟨m,now,ts,(RL,RM),(DL,DM),ev,nt⟩ id stage nE nP).m)), .raw (.int .i64 ((goesG ⟨m,now,ts,(RL,RM),(DL,DM),ev,nt⟩ id stage nE nP).now))] 0 64 ((goesG ⟨m,now,ts,(RL,RM),(DL,DM),ev,nt⟩ id stage nE nP).ts) none [.ptr 1 0, .ptr 2 0, .own 10, .own 11] 105)),(1,some (.cells [.fn 40 [], .own 12, .own 6] 146)),(3,none),(4,none),(5,none),(6,some (.map 0 (goesG ⟨m,now,ts,(RL,RM),(DL,DM),ev,nt⟩ id stage nE nP).rq.2)),(7,some (.cells [.fn 83 [], .own 13, .own 9] 198)),(8,none),(9,some (.map 0 (goesG ⟨m,now,ts,(RL,RM),(DL,DM),ev,nt⟩ id stage nE nP).dq.2)),(10,some (.vec 4 (goesG ⟨m,now,ts,(RL,RM),(DL,DM),ev,nt⟩ id stage nE nP).ev 151)),(11,some (.que 7 (goesG ⟨m,now,ts,(RL,RM),(DL,DM),ev,nt⟩ id stage nE nP).nt 84)),(12,some (.vec 5 (goesG ⟨m,now,ts,(RL,RM),(DL,DM),ev,nt⟩ id stage nE nP).rq.1 200)),(13,some (.vec 6 (goesG ⟨m,now,ts,(RL,RM),(DL,DM),ev,nt⟩ id stage nE nP).dq.1 242))]⟩
def goesCK1Text (m now:Int) (ts:List (Option Rnr)) (RL:List EThing) (RM:List (Int×Int)) (DL:List VThing) (DM:List (Int×Int)) (ev:List Ev) (nt:List Note) (id stage nE nP:Int):Prop:=let q1:=((atO ts id).getD rnrL.zero);let q10:=(List.take (cutN now q1.t.waits) q1.t.waits);let q9:=(Sub.mk q1.t.ran.Index q1.t.ran.Release q1.t.ran.Deadline q1.t.ran.Bit q1.t.ran.Group);let q0:=(lastT q10 (Sub.mk q9.Index q9.Release q9.Deadline q9.Bit q9.Group) q1.t.done);let q6:=(lastT q10 q1.t.ran q1.t.done);let q13:=(vpushH (DL,DM) (calendarNumber id (1:Int)) (Ev.mk (ruleTime q1.t.E q1.t.P q6.Index q6.Release q6.Deadline q6.Bit q6.Group (someL q10 q1.t.done) now) id (1:Int)));let q3:=(ts.set id.toNat (some (Rnr.mk (Tsk.mk q1.t.E q1.t.P q1.t.early true q1.t.st q10 q1.t.ran q1.t.done) stage q1.early q1.pin q1.last q1.since nE nP ((↑q1.t.waits.length:Int)-(↑(cutN now q1.t.waits):Int)))));let q2:=(filesG (EG.mk m now q3 (RL,RM) q13 ev nt) id);let q12:=(EG.mk m now ts (RL,RM) (DL,DM) ev nt);let q4:=(goesG q12 id stage nE nP);let q5:=(Ev.mk (ruleTime q1.t.E q1.t.P q0.Index q0.Release q0.Deadline q0.Bit q0.Group (someL q10 q1.t.done) now) id (1:Int));let q7:=(settlesG (filesG (EG.mk m now q3 (RL,RM) (DL,DM) ev nt) id));let q11:=(True/\ (True/\ (True/\ True)));let q8:=(q11/\ ((True/\ True)/\ ((q4.rq.snd=RM)/\ (q11/\ ((q4.dq.snd=DM)/\ ((q4.ev=ev)/\ ((q4.nt=nt)/\ ((q4.rq.fst=RL)/\ ((q4.dq.fst=DL)/\ True)))))))));let q14:=(vpushH (DL,DM) (calendarNumber q5.ID q5.Kind) q5);let q15:=(calendarNumber id (0:Int));let q16:=((((q4.m=m)/\ ((q4.now=now)/\ True))/\ ((q4.ts=ts)/\ ((True/\ q11)/\ True)))/\ q8);let q17:=(ethereB id RM=true->(0:Int)<=ewhereI id RM/\ ewhereI id RM<(↑RL.length:Int));(match (!idOk id) with|true=>(((goesE q12 id=(1:Int))/\ True)/\ q16)|false=>(match (inb id (64:Nat)) with|true=>(match (inb id (64:Nat)) with|true=>(match ((atO ts id).isSome) with|true=>(match (q1.stage !=(1:Int)) with|true=>(((goesE q12 id=(13:Int))/\ True)/\ ((((q4.m=m)/\ ((q4.now=now)/\ True))/\ ((q4.ts=ts.set id.toNat (some q1))/\ ((True/\ q11)/\ True)))/\ q8))|false=>(match (decide (q1.t.waits.length<=(1000:Nat))) with|true=>(match (decide (q10.length<=(1000:Nat))) with|true=>(match (decide (DL.length<=(1000:Nat))) with|true=>(match (calendarRight id (1:Int)&&decide ((0:Int)<=ruleTime q1.t.E q1.t.P q6.Index q6.Release q6.Deadline q6.Bit q6.Group (someL q10 q1.t.done) now)&& !vthereB (calendarNumber id (1:Int)) DM) with|true=>(match (decide ((0:Int)<=id/\ id<(64:Int)/\ q3.length=(64:Nat)/\ RL.length<=(999:Nat)/\ q13.fst.length<=(999:Nat)/\ q17/\ (vthereB q15 q14.snd=true->(0:Int)<=vwhereI q15 q14.snd/\ vwhereI q15 q14.snd<(↑q14.fst.length:Int)))) with|true=>(match (decide (SettleP q2)) with|true=>(((goesE q12 id=(0:Int))/\ True)/\ ((((q4.m=(settlesG q2).m)/\ ((q4.now=(settlesG q2).now)/\ True))/\ ((q4.ts=(settlesG q2).ts)/\ ((True/\ q11)/\ True)))/\ (q11/\ ((True/\ True)/\ ((q4.rq.snd=(settlesG q2).rq.snd)/\ (q11/\ ((q4.dq.snd=(settlesG q2).dq.snd)/\ ((q4.ev=(settlesG q2).ev)/\ ((q4.nt=(settlesG q2).nt)/\ ((q4.rq.fst=(settlesG q2).rq.fst)/\ ((q4.dq.fst=(settlesG q2).dq.fst)/\ True)))))))))))|false=>False)|false=>False)|false=>(match (decide ((0:Int)<=id/\ id<(64:Int)/\ q3.length=(64:Nat)/\ RL.length<=(999:Nat)/\ DL.length<=(999:Nat)/\ q17/\ (vthereB q15 DM=true->(0:Int)<=vwhereI q15 DM/\ vwhereI q15 DM<(↑DL.length:Int)))) with|true=>(match (decide (SettleP (filesG (EG.mk m now q3 (RL,RM) (DL,DM) ev nt) id))) with|true=>(((goesE q12 id=(0:Int))/\ True)/\ ((((q4.m=q7.m)/\ ((q4.now=q7.now)/\ True))/\ ((q4.ts=q7.ts)/\ ((True/\ q11)/\ True)))/\ (q11/\ ((True/\ True)/\ ((q4.rq.snd=q7.rq.snd)/\ (q11/\ ((q4.dq.snd=q7.dq.snd)/\ ((q4.ev=q7.ev)/\ ((q4.nt=q7.nt)/\ ((q4.rq.fst=q7.rq.fst)/\ ((q4.dq.fst=q7.dq.fst)/\ True)))))))))))|false=>False)|false=>False))|false=>False)|false=>False)|false=>False))|false=>(((goesE q12 id=(12:Int))/\ True)/\ q16))|false=>False)|false=>False))
theorem goesCK1Vc (m now:Int) (ts:List (Option Rnr)) (RL:List EThing) (RM:List (Int×Int)) (DL:List VThing) (DM:List (Int×Int)) (ev:List Ev) (nt:List Note) (id stage nE nP:Int):fnX X49 (annOf [] [] [] [5,7,12]) Tryz.f74 [.ptr 0 0, .raw (.int .i64 id), .raw (.int .i64 stage), .agg [.raw (.int .i64 nE), .raw (.int .i64 nP)]] (cs3 m now ts RL RM DL DM ev nt) (ends (cs3 m now ts RL RM DL DM ev nt) (goesCK1E0 m now ts RL RM DL DM ev nt id stage nE nP))=goesCK1Text m now ts RL RM DL DM ev nt id stage nE nP:=by kernel_rfl
theorem goesCK1Holds (m now:Int) (ts:List (Option Rnr)) (RL:List EThing) (RM:List (Int×Int)) (DL:List VThing) (DM:List (Int×Int)) (ev:List Ev) (nt:List Note) (id stage nE nP:Int) (hp:GoesP ⟨m,now,ts,(RL,RM),(DL,DM),ev,nt⟩ id stage nE nP):goesCK1Text m now ts RL RM DL DM ev nt id stage nE nP:=by
 unfold goesCK1Text
 conv=>zeta
 obtain ⟨hts,hp⟩:=hp
 have hz:(atO ts id).getD rnrL.zero=rnAt ts id:=rfl
 cases h1:idOk id
 ·have hE:goesE ⟨m,now,ts,(RL,RM),(DL,DM),ev,nt⟩ id=1:=by unfold goesE;rw [h1];rfl
  have hG:goesG ⟨m,now,ts,(RL,RM),(DL,DM),ev,nt⟩ id stage nE nP=⟨m,now,ts,(RL,RM),(DL,DM),ev,nt⟩:=by unfold goesG;rw [hE];rfl
  rw [hE,hG]
  repeat' first|exact True.intro|with_reducible rfl|apply And.intro|exact rfl
 have hi:=idOk_inb h1
 refine mT hi (mT hi ?_)
 cases h2:(atO ts id).isSome
 ·have hE:goesE ⟨m,now,ts,(RL,RM),(DL,DM),ev,nt⟩ id=12:=by unfold goesE;rw [h1,h2];rfl
  have hG:goesG ⟨m,now,ts,(RL,RM),(DL,DM),ev,nt⟩ id stage nE nP=⟨m,now,ts,(RL,RM),(DL,DM),ev,nt⟩:=by unfold goesG;rw [hE];rfl
  rw [hE,hG]
  repeat' first|exact True.intro|with_reducible rfl|apply And.intro|exact rfl
 have hset:=set_rnAt h2
 rw [hz]
 cases h3:(rnAt ts id).stage !=1
 case true=>
  have hE:goesE ⟨m,now,ts,(RL,RM),(DL,DM),ev,nt⟩ id=13:=by unfold goesE;rw [h1,h2,h3];rfl
  have hG:goesG ⟨m,now,ts,(RL,RM),(DL,DM),ev,nt⟩ id stage nE nP=⟨m,now,ts,(RL,RM),(DL,DM),ev,nt⟩:=by unfold goesG;rw [hE];rfl
  rw [hE,hG]
  repeat' first|exact True.intro|with_reducible rfl|apply And.intro|exact hset.symm|exact rfl
 have hE:goesE ⟨m,now,ts,(RL,RM),(DL,DM),ev,nt⟩ id=0:=by unfold goesE;rw [h1,h2,h3];rfl
 have hG:goesG ⟨m,now,ts,(RL,RM),(DL,DM),ev,nt⟩ id stage nE nP=settlesG (filesG (go1 ⟨m,now,ts,(RL,RM),(DL,DM),ev,nt⟩ id stage nE nP) id):=by unfold goesG;rw [hE];rfl
 obtain ⟨g1,g2,g3,g4⟩:=hp hE
 have g2:DL.length<=999:=g2
 refine mD g1 (mD (show ((rnAt ts id).t.waits.take (cutN now (rnAt ts id).t.waits)).length<=1000 by have g1:(rnAt ts id).t.waits.length<=1000:=g1;rw [List.length_take];omega) (mD (show DL.length<=1000 by omega) ?_))
 rw [hE,hG]
 rcases Bool.eq_false_or_eq_true (calendarRight id 1&&decide (0<=timeT now (goT ⟨m,now,ts,(RL,RM),(DL,DM),ev,nt⟩ id stage nE nP))&& !vthereB (calendarNumber id 1) DM) with hb|hb
 ·have hgo:go1 ⟨m,now,ts,(RL,RM),(DL,DM),ev,nt⟩ id stage nE nP=⟨m,now,ts.set id.toNat (some (goT ⟨m,now,ts,(RL,RM),(DL,DM),ev,nt⟩ id stage nE nP)),(RL,RM),vpushH (DL,DM) (calendarNumber id 1) ⟨timeT now (goT ⟨m,now,ts,(RL,RM),(DL,DM),ev,nt⟩ id stage nE nP),id,1⟩,ev,nt⟩:=by
   unfold go1 putU
   dsimp only
   rw [hb]
   rfl
  rw [hgo] at g3 g4 ⊢
  refine mT hb (mD g3 (mD g4 ?_))
  repeat' first|exact True.intro|with_reducible rfl|apply And.intro|exact rfl
 ·have hgo:go1 ⟨m,now,ts,(RL,RM),(DL,DM),ev,nt⟩ id stage nE nP=⟨m,now,ts.set id.toNat (some (goT ⟨m,now,ts,(RL,RM),(DL,DM),ev,nt⟩ id stage nE nP)),(RL,RM),(DL,DM),ev,nt⟩:=by
   unfold go1 putU
   dsimp only
   rw [hb]
   rfl
  rw [hgo] at g3 g4 ⊢
  refine mF hb (mD g3 (mD g4 ?_))
  repeat' first|exact True.intro|with_reducible rfl|apply And.intro|exact rfl
set_option maxHeartbeats 4000000 in
noncomputable def goesCCon:Con T O:=fun args cs=>match args,cs with
 |[.raw (.pointer none), .raw (.int .i64 _), .raw (.int .i64 _), .agg [.raw (.int .i64 _), .raw (.int .i64 _)]],[]=> .ret ⟨some (.raw (.int .i64 1)),[]⟩
 |[.ptr 0 0, .raw (.int .i64 id), .raw (.int .i64 stage), .agg [.raw (.int .i64 nE), .raw (.int .i64 nP)]],[.tab [.raw (.int .i64 m), .raw (.int .i64 now)] 0 64 (ts) none [.ptr 1 0, .ptr 2 0, .own 3, .own 4] 105, .cells [.fn 40 [], .own 5, .own 6] 146, .cells [.ptr 7 0] 156, .vec 4 ev 151, .que 7 nt 84, .vec 5 RL 200, .map 0 RM, .cells [.fn 83 [], .own 8, .own 9] 198, .vec 6 DL 242, .map 0 DM]=>chk (decide (GoesP ⟨m,now,ts,(RL,RM),(DL,DM),ev,nt⟩ id stage nE nP)) (.ret (goesCK1E0 m now ts RL RM DL DM ev nt id stage nE nP))
 |_,_=> .fail
theorem goesCOk:ConOk R Tryz.prog 74 goesCCon:=con_of_fn R (X49) (good (X49) rfl (TabOk.con R X49Ok)) mixed Tryz.call74 Tryz.func74 goesCCon (by
 intro args cs K h
 unfold goesCCon at h
 split at h
 ·rename_i id stage nE nP
  refine ⟨noAnn,_,fun v S hv=>⟨_,h,hv⟩, ?_⟩
  rw [goesCK0Vc id stage nE nP]
  exact goesCK0Holds id stage nE nP
 ·rename_i id stage nE nP m now ts ev nt RL RM DL DM
  rw [Tree.holds_chk] at h
  obtain ⟨hp,h⟩:=h
  refine ⟨annOf [] [] [] [5,7,12],_,fun v S hv=>⟨_,h,hv⟩, ?_⟩
  have hv:=goesCK1Vc m now ts RL RM DL DM ev nt id stage nE nP
  unfold cs3 at hv
  rw [hv]
  exact goesCK1Holds m now ts RL RM DL DM ev nt id stage nE nP (of_decide_eq_true hp)
 ·exact h.elim)
noncomputable def picksCA (m:Int) (now:Int) (ts:List (Option Rnr)) (RL:List EThing) (RM:List (Int×Int)) (DL:List VThing) (DM:List (Int×Int)) (ev:List Ev) (nt:List Note):Ann T O:=annOf [(2, { σ:=Nat,st:=fun S x=>(((((((((((((((S.keep [0]).drop 3).drop 4).drop 5).drop 8).chunk 0 (.tab [.raw (.int .i64 (({ (⟨m,now,ts,(RL,RM),(DL,DM),ev,nt⟩:EG) with rq:=(pk x (RL,RM)).2 }).m)), .raw (.int .i64 (({ (⟨m,now,ts,(RL,RM),(DL,DM),ev,nt⟩:EG) with rq:=(pk x (RL,RM)).2 }).now))] 0 64 (({ (⟨m,now,ts,(RL,RM),(DL,DM),ev,nt⟩:EG) with rq:=(pk x (RL,RM)).2 }).ts) none [.ptr 1 0, .ptr 2 0, .own S.next, .own (S.next+1)] 105)).chunk 1 (.cells [.fn 40 [], .own (S.next+2), .own 6] 146)).chunk 6 (.map 0 ({ (⟨m,now,ts,(RL,RM),(DL,DM),ev,nt⟩:EG) with rq:=(pk x (RL,RM)).2 }).rq.2)).chunk 9 (.map 0 ({ (⟨m,now,ts,(RL,RM),(DL,DM),ev,nt⟩:EG) with rq:=(pk x (RL,RM)).2 }).dq.2)).chunk 7 (.cells [.fn 83 [], .own (S.next+3), .own 9] 198)).add (.vec 4 ({ (⟨m,now,ts,(RL,RM),(DL,DM),ev,nt⟩:EG) with rq:=(pk x (RL,RM)).2 }).ev 151)).add (.que 7 ({ (⟨m,now,ts,(RL,RM),(DL,DM),ev,nt⟩:EG) with rq:=(pk x (RL,RM)).2 }).nt 84)).add (.vec 5 ({ (⟨m,now,ts,(RL,RM),(DL,DM),ev,nt⟩:EG) with rq:=(pk x (RL,RM)).2 }).rq.1 200)).add (.vec 6 ({ (⟨m,now,ts,(RL,RM),(DL,DM),ev,nt⟩:EG) with rq:=(pk x (RL,RM)).2 }).dq.1 242)).gc 10).new 3 (.vec 3 (pk x (RL,RM)).1 98),inv:=fun _ x=>x<=pkN ⟨m,now,ts,(RL,RM),(DL,DM),ev,nt⟩,m:=fun x=>pkN ⟨m,now,ts,(RL,RM),(DL,DM),ev,nt⟩-x })] []
noncomputable def picksCE0 (m:Int) (now:Int) (ts:List (Option Rnr)) (RL:List EThing) (RM:List (Int×Int)) (DL:List VThing) (DM:List (Int×Int)) (ev:List Ev) (nt:List Note):Eff T O:=⟨some (.own 14),[(0,some (.tab [.raw (.int .i64 (({ (⟨m,now,ts,(RL,RM),(DL,DM),ev,nt⟩:EG) with rq:=(pk (pkN ⟨m,now,ts,(RL,RM),(DL,DM),ev,nt⟩) (RL,RM)).2 }).m)), .raw (.int .i64 (({ (⟨m,now,ts,(RL,RM),(DL,DM),ev,nt⟩:EG) with rq:=(pk (pkN ⟨m,now,ts,(RL,RM),(DL,DM),ev,nt⟩) (RL,RM)).2 }).now))] 0 64 (({ (⟨m,now,ts,(RL,RM),(DL,DM),ev,nt⟩:EG) with rq:=(pk (pkN ⟨m,now,ts,(RL,RM),(DL,DM),ev,nt⟩) (RL,RM)).2 }).ts) none [.ptr 1 0, .ptr 2 0, .own 10, .own 11] 105)),(1,some (.cells [.fn 40 [], .own 12, .own 6] 146)),(3,none),(4,none),(5,none),(6,some (.map 0 ({ (⟨m,now,ts,(RL,RM),(DL,DM),ev,nt⟩:EG) with rq:=(pk (pkN ⟨m,now,ts,(RL,RM),(DL,DM),ev,nt⟩) (RL,RM)).2 }).rq.2)),(7,some (.cells [.fn 83 [], .own 13, .own 9] 198)),(8,none),(9,some (.map 0 ({ (⟨m,now,ts,(RL,RM),(DL,DM),ev,nt⟩:EG) with rq:=(pk (pkN ⟨m,now,ts,(RL,RM),(DL,DM),ev,nt⟩) (RL,RM)).2 }).dq.2)),(10,some (.vec 4 ({ (⟨m,now,ts,(RL,RM),(DL,DM),ev,nt⟩:EG) with rq:=(pk (pkN ⟨m,now,ts,(RL,RM),(DL,DM),ev,nt⟩) (RL,RM)).2 }).ev 151)),(11,some (.que 7 ({ (⟨m,now,ts,(RL,RM),(DL,DM),ev,nt⟩:EG) with rq:=(pk (pkN ⟨m,now,ts,(RL,RM),(DL,DM),ev,nt⟩) (RL,RM)).2 }).nt 84)),(12,some (.vec 5 ({ (⟨m,now,ts,(RL,RM),(DL,DM),ev,nt⟩:EG) with rq:=(pk (pkN ⟨m,now,ts,(RL,RM),(DL,DM),ev,nt⟩) (RL,RM)).2 }).rq.1 200)),(13,some (.vec 6 ({ (⟨m,now,ts,(RL,RM),(DL,DM),ev,nt⟩:EG) with rq:=(pk (pkN ⟨m,now,ts,(RL,RM),(DL,DM),ev,nt⟩) (RL,RM)).2 }).dq.1 242)),(14,some (.vec 3 (pk (pkN ⟨m,now,ts,(RL,RM),(DL,DM),ev,nt⟩) (RL,RM)).1 98))]⟩
def picksCText (m now:Int) (ts:List (Option Rnr)) (RL:List EThing) (RM:List (Int×Int)) (DL:List VThing) (DM:List (Int×Int)) (ev:List Ev) (nt:List Note):Prop:=let q1:=(EG.mk m now ts (RL,RM) (DL,DM) ev nt);let q6:=(True/\ (True/\ True));let q2:=(True/\ q6);let q3:=(((m=m)/\ ((now=now)/\ True))/\ ((ts=ts)/\ ((True/\ q2)/\ True)));((∃x:Nat,((x.le (pkN q1))/\ (q6/\ (q3/\ (q2/\ ((True/\ True)/\ (((pk x (RL,RM)).snd.snd=RM)/\ (q2/\ (((DL,DM).snd=DM)/\ ((ev=ev)/\ ((nt=nt)/\ (((pk x (RL,RM)).snd.fst=RL)/\ (((DL,DM).fst=DL)/\ (((pk x (RL,RM)).fst=[])/\ True))))))))))))))/\ (∀x:Nat,let q0:=((True/\ True)/\ (q3/\ (q2/\ ((True/\ True)/\ (((pk (pkN q1) (RL,RM)).snd.snd=(pk x (RL,RM)).snd.snd)/\ (q2/\ (((DL,DM).snd=(DL,DM).snd)/\ ((ev=ev)/\ ((nt=nt)/\ (((pk (pkN q1) (RL,RM)).snd.fst=(pk x (RL,RM)).snd.fst)/\ (((DL,DM).fst=(DL,DM).fst)/\ (((pk (pkN q1) (RL,RM)).fst=(pk x (RL,RM)).fst)/\ True))))))))))));let q4:=(at' etz (pk x (RL,RM)).snd.fst (0:Int));let q5:=(roomy ((pk x (RL,RM)).fst.length+(1:Nat)) (nat_lit 48));((x.le (pkN q1))->(match (decide ((↑(pk x (RL,RM)).fst.length:Int)<m)) with|true=>(match (decide ((↑(pk x (RL,RM)).snd.fst.length:Int)>(0:Int))) with|true=>(match (decide ((pk x (RL,RM)).snd.fst.length<=(1000:Nat))) with|true=>(match ((pk x (RL,RM)).snd.fst.length==(0:Nat)) with|true=>(match q5 with|true=>(∃x':Nat,((x'.le (pkN q1))/\ ((pkN q1-x'<pkN q1-x)/\ (q6/\ (q3/\ (q2/\ ((True/\ True)/\ (((pk x' (RL,RM)).snd.snd=(pk x (RL,RM)).snd.snd)/\ (q2/\ (((DL,DM).snd=(DL,DM).snd)/\ ((ev=ev)/\ ((nt=nt)/\ (((pk x' (RL,RM)).snd.fst=(pk x (RL,RM)).snd.fst)/\ (((DL,DM).fst=(DL,DM).fst)/\ (((pk x' (RL,RM)).fst=(pk x (RL,RM)).fst++[Entry.mk (0:Int) (0:Int) (0:Int) (0:Int) (0:Int) (0:Int)])/\ True)))))))))))))))|false=>False)|false=>(match q5 with|true=>(∃x':Nat,((x'.le (pkN q1))/\ ((pkN q1-x'<pkN q1-x)/\ (q6/\ (q3/\ (q2/\ ((True/\ True)/\ (((pk x' (RL,RM)).snd.snd=(etakeH (pk x (RL,RM)).snd (0:Nat)).snd)/\ (q2/\ (((DL,DM).snd=(DL,DM).snd)/\ ((ev=ev)/\ ((nt=nt)/\ (((pk x' (RL,RM)).snd.fst=(etakeH (pk x (RL,RM)).snd (0:Nat)).fst)/\ (((DL,DM).fst=(DL,DM).fst)/\ (((pk x' (RL,RM)).fst=(pk x (RL,RM)).fst++[Entry.mk q4.XID q4.XSubIndex q4.XSubRelease q4.XSubDeadline q4.XSubBit q4.XSubGroup])/\ True)))))))))))))))|false=>False))|false=>False)|false=>q0)|false=>q0))))
theorem picksCVc (m now:Int) (ts:List (Option Rnr)) (RL:List EThing) (RM:List (Int×Int)) (DL:List VThing) (DM:List (Int×Int)) (ev:List Ev) (nt:List Note):fnX X49 ((picksCA m now ts RL RM DL DM ev nt)) Tryz.f46 [.ptr 0 0] (cs3 m now ts RL RM DL DM ev nt) (ends (cs3 m now ts RL RM DL DM ev nt) (picksCE0 m now ts RL RM DL DM ev nt))=picksCText m now ts RL RM DL DM ev nt:=by kernel_rfl
theorem picksCHolds (m now:Int) (ts:List (Option Rnr)) (RL:List EThing) (RM:List (Int×Int)) (DL:List VThing) (DM:List (Int×Int)) (ev:List Ev) (nt:List Note) (hp:0<=m/\ m<=1024/\ RL.length<=999):picksCText m now ts RL RM DL DM ev nt:=by
 unfold picksCText
 conv=>zeta
 obtain ⟨m0,m1,hR⟩:=hp
 refine ⟨⟨0,Nat.zero_le _,by repeat' first|exact True.intro|with_reducible rfl|apply And.intro|exact rfl⟩, ?_⟩
 intro x hx
 have hx:x<=min m.toNat RL.length:=hx
 have l1:=pk_len (RL,RM) x
 have l2:(pk x (RL,RM)).2.1.length=RL.length-x:=pk_len2 (RL,RM) x
 by_cases h1:x<m.toNat
 ·refine mD (show (((pk x (RL,RM)).1.length:Nat):Int)<m by omega) ?_
  by_cases h2:x<RL.length
  ·refine mD (show (((pk x (RL,RM)).2.1.length:Nat):Int)>0 by omega) (mD (show (pk x (RL,RM)).2.1.length<=1000 by omega) (mF (show ((pk x (RL,RM)).2.1.length==0)=false from beq_eq_false_iff_ne.2 (by omega)) (mT (show roomy ((pk x (RL,RM)).1.length+1) 48=true by unfold roomy;simp;omega) ⟨x+1,(show x+1<=min m.toNat RL.length by omega),(show min m.toNat RL.length-(x+1)<min m.toNat RL.length-x by omega), ?_⟩)))
   repeat' first|exact True.intro|with_reducible rfl|apply And.intro|exact rfl
  ·obtain rfl:x=pkN ⟨m,now,ts,(RL,RM),(DL,DM),ev,nt⟩:=show x=min m.toNat RL.length by omega
   refine mN (show ¬(((pk (pkN ⟨m,now,ts,(RL,RM),(DL,DM),ev,nt⟩) (RL,RM)).2.1.length:Nat):Int)>0 by omega) ?_
   repeat' first|exact True.intro|with_reducible rfl|apply And.intro|exact rfl
 ·obtain rfl:x=pkN ⟨m,now,ts,(RL,RM),(DL,DM),ev,nt⟩:=show x=min m.toNat RL.length by omega
  refine mN (show ¬(((pk (pkN ⟨m,now,ts,(RL,RM),(DL,DM),ev,nt⟩) (RL,RM)).1.length:Nat):Int)<m by omega) ?_
  repeat' first|exact True.intro|with_reducible rfl|apply And.intro|exact rfl
set_option maxHeartbeats 4000000 in
noncomputable def picksCCon:Con T O:=fun args cs=>match args,cs with
 |[.ptr 0 0],[.tab [.raw (.int .i64 m), .raw (.int .i64 now)] 0 64 (ts) none [.ptr 1 0, .ptr 2 0, .own 3, .own 4] 105, .cells [.fn 40 [], .own 5, .own 6] 146, .cells [.ptr 7 0] 156, .vec 4 ev 151, .que 7 nt 84, .vec 5 RL 200, .map 0 RM, .cells [.fn 83 [], .own 8, .own 9] 198, .vec 6 DL 242, .map 0 DM]=>chk (decide (0<=m/\ m<=1024/\ RL.length<=999)) (.ret (picksCE0 m now ts RL RM DL DM ev nt))
 |_,_=> .fail
theorem picksCOk:ConOk R Tryz.prog 46 picksCCon:=con_of_fn R (X49) (good (X49) rfl (TabOk.con R X49Ok)) mixed Tryz.call46 Tryz.func46 picksCCon (by
 intro args cs K h
 unfold picksCCon at h
 split at h
 ·rename_i m now ts ev nt RL RM DL DM
  rw [Tree.holds_chk] at h
  obtain ⟨hp,h⟩:=h
  refine ⟨(picksCA m now ts RL RM DL DM ev nt),_,fun v S hv=>⟨_,h,hv⟩, ?_⟩
  have hv:=picksCVc m now ts RL RM DL DM ev nt
  unfold cs3 at hv
  rw [hv]
  exact picksCHolds m now ts RL RM DL DM ev nt (of_decide_eq_true hp)
 ·exact h.elim)
noncomputable def runsCE0 (m:Int) (now:Int) (ts:List (Option Rnr)) (RL:List EThing) (RM:List (Int×Int)) (DL:List VThing) (DM:List (Int×Int)) (ev:List Ev) (nt:List Note) (id:Int) (core:Int):Eff T O:=⟨some (.agg [.raw (.int .i64 id), .raw (.int .i64 core), .raw (.int .i64 ((headT (rnAt ts id).t.waits).Index))]),[(0,some (.tab [.raw (.int .i64 ((runsG ⟨m,now,ts,(RL,RM),(DL,DM),ev,nt⟩ id core).m)), .raw (.int .i64 ((runsG ⟨m,now,ts,(RL,RM),(DL,DM),ev,nt⟩ id core).now))] 0 64 ((runsG ⟨m,now,ts,(RL,RM),(DL,DM),ev,nt⟩ id core).ts) none [.ptr 1 0, .ptr 2 0, .own 10, .own 11] 105)),(1,some (.cells [.fn 40 [], .own 12, .own 6] 146)),(3,none),(4,none),(5,none),(6,some (.map 0 (runsG ⟨m,now,ts,(RL,RM),(DL,DM),ev,nt⟩ id core).rq.2)),(7,some (.cells [.fn 83 [], .own 13, .own 9] 198)),(8,none),(9,some (.map 0 (runsG ⟨m,now,ts,(RL,RM),(DL,DM),ev,nt⟩ id core).dq.2)),(10,some (.vec 4 (runsG ⟨m,now,ts,(RL,RM),(DL,DM),ev,nt⟩ id core).ev 151)),(11,some (.que 7 (runsG ⟨m,now,ts,(RL,RM),(DL,DM),ev,nt⟩ id core).nt 84)),(12,some (.vec 5 (runsG ⟨m,now,ts,(RL,RM),(DL,DM),ev,nt⟩ id core).rq.1 200)),(13,some (.vec 6 (runsG ⟨m,now,ts,(RL,RM),(DL,DM),ev,nt⟩ id core).dq.1 242))]⟩
def runsCText (m now:Int) (ts:List (Option Rnr)) (RL:List EThing) (RM:List (Int×Int)) (DL:List VThing) (DM:List (Int×Int)) (ev:List Ev) (nt:List Note) (id core:Int):Prop:=let q0:=(runsG (EG.mk m now ts (RL,RM) (DL,DM) ev nt) id core);let q1:=((atO ts id).getD rnrL.zero);let q3:=(True/\ (True/\ (True/\ True)));let q2:=(((q0.m=m)/\ ((q0.now=now)/\ True))/\ ((q0.ts=ts.set id.toNat (some (Rnr.mk (Tsk.mk q1.t.E q1.t.P q1.t.early q1.t.cut q1.t.st (List.drop (1:Nat) q1.t.waits) (headT q1.t.waits) (IntKind.i64.wrap (q1.t.done+(1:Int)))) q1.stage q1.early q1.pin core q1.since q1.nE q1.nP q1.kept)))/\ ((True/\ q3)/\ True)));let q4:=(((q0.m=m)/\ ((q0.now=now)/\ True))/\ ((q0.ts=ts.set id.toNat (some (Rnr.mk q1.t q1.stage q1.early q1.pin core q1.since q1.nE q1.nP q1.kept)))/\ ((True/\ q3)/\ True)));let q5:=((q0.rq.fst=RL)/\ ((q0.dq.fst=DL)/\ True));let q6:=(roomy (nt.length+(1:Nat)) (nat_lit 80));let q7:=(((id=id)/\ ((core=core)/\ (((headT (rnAt ts id).t.waits).Index=(headT q1.t.waits).Index)/\ True)))/\ True);let q8:=(((id=id)/\ ((core=core)/\ (((headT (rnAt ts id).t.waits).Index=(0:Int))/\ True)))/\ True);(match (inb id (64:Nat)) with|true=>(match (inb id (64:Nat)) with|true=>(match ((atO ts id).isSome) with|true=>(match (decide (q1.t.waits.length<=(1000:Nat))) with|true=>(match (someT q1.t.waits) with|true=>(match (!q1.early) with|true=>(match q6 with|true=>(q7/\ (q2/\ (q3/\ ((True/\ True)/\ ((q0.rq.snd=RM)/\ (q3/\ ((q0.dq.snd=DM)/\ ((q0.ev=ev)/\ ((q0.nt=nt++[Note.mk id q1.since (headT q1.t.waits).Index (headT q1.t.waits).Release (headT q1.t.waits).Deadline (headT q1.t.waits).Bit (headT q1.t.waits).Group (if (headT q1.t.waits).Release>q1.since then (headT q1.t.waits).Release else q1.since) now core])/\ q5)))))))))|false=>False)|false=>(match q6 with|true=>(q7/\ (q2/\ (q3/\ ((True/\ True)/\ ((q0.rq.snd=RM)/\ (q3/\ ((q0.dq.snd=DM)/\ ((q0.ev=ev)/\ ((q0.nt=nt++[Note.mk id q1.since (headT q1.t.waits).Index (headT q1.t.waits).Release (headT q1.t.waits).Deadline (headT q1.t.waits).Bit (headT q1.t.waits).Group q1.since now core])/\ q5)))))))))|false=>False))|false=>(match (!q1.early) with|true=>(match q6 with|true=>(q8/\ (q4/\ (q3/\ ((True/\ True)/\ ((q0.rq.snd=RM)/\ (q3/\ ((q0.dq.snd=DM)/\ ((q0.ev=ev)/\ ((q0.nt=nt++[Note.mk id q1.since (0:Int) (0:Int) (0:Int) (0:Int) (0:Int) (if (0:Int)>q1.since then (0:Int) else q1.since) now core])/\ q5)))))))))|false=>False)|false=>(match q6 with|true=>(q8/\ (q4/\ (q3/\ ((True/\ True)/\ ((q0.rq.snd=RM)/\ (q3/\ ((q0.dq.snd=DM)/\ ((q0.ev=ev)/\ ((q0.nt=nt++[Note.mk id q1.since (0:Int) (0:Int) (0:Int) (0:Int) (0:Int) q1.since now core])/\ q5)))))))))|false=>False)))|false=>False)|false=>False)|false=>False)|false=>False)
theorem runsCVc (m now:Int) (ts:List (Option Rnr)) (RL:List EThing) (RM:List (Int×Int)) (DL:List VThing) (DM:List (Int×Int)) (ev:List Ev) (nt:List Note) (id core:Int):fnX X49 (annOf [] [] [] [7]) Tryz.f51 [.ptr 0 0, .raw (.int .i64 id), .raw (.int .i64 core)] (cs3 m now ts RL RM DL DM ev nt) (ends (cs3 m now ts RL RM DL DM ev nt) (runsCE0 m now ts RL RM DL DM ev nt id core))=runsCText m now ts RL RM DL DM ev nt id core:=by kernel_rfl
theorem runsCHolds (m now:Int) (ts:List (Option Rnr)) (RL:List EThing) (RM:List (Int×Int)) (DL:List VThing) (DM:List (Int×Int)) (ev:List Ev) (nt:List Note) (id core:Int) (hp:RunsP ⟨m,now,ts,(RL,RM),(DL,DM),ev,nt⟩ id):runsCText m now ts RL RM DL DM ev nt id core:=by
 unfold runsCText
 conv=>zeta
 obtain ⟨h1,hts,h2,h3,h4,h5⟩:=hp
 have h5:nt.length<=1000000:=h5
 have hi:=idOk_inb h1
 have hr:roomy (nt.length+1) 80=true:=by unfold roomy;simp;omega
 refine mT hi (mT hi (mT h2 (mD h3 (mT h4 ?_))))
 have hz:(atO ts id).getD rnrL.zero=rnAt ts id:=rfl
 rw [hz]
 unfold runsG noteT
 dsimp only
 unfold runT
 cases hx:(rnAt ts id).early
 ·refine mT hr ?_
  repeat' first|exact True.intro|with_reducible rfl|apply And.intro|exact rfl
 ·refine mT hr ?_
  repeat' first|exact True.intro|with_reducible rfl|apply And.intro|exact rfl
set_option maxHeartbeats 4000000 in
noncomputable def runsCCon:Con T O:=fun args cs=>match args,cs with
 |[.ptr 0 0, .raw (.int .i64 id), .raw (.int .i64 core)],[.tab [.raw (.int .i64 m), .raw (.int .i64 now)] 0 64 (ts) none [.ptr 1 0, .ptr 2 0, .own 3, .own 4] 105, .cells [.fn 40 [], .own 5, .own 6] 146, .cells [.ptr 7 0] 156, .vec 4 ev 151, .que 7 nt 84, .vec 5 RL 200, .map 0 RM, .cells [.fn 83 [], .own 8, .own 9] 198, .vec 6 DL 242, .map 0 DM]=>chk (decide (RunsP ⟨m,now,ts,(RL,RM),(DL,DM),ev,nt⟩ id)) (.ret (runsCE0 m now ts RL RM DL DM ev nt id core))
 |_,_=> .fail
theorem runsCOk:ConOk R Tryz.prog 51 runsCCon:=con_of_fn R (X49) (good (X49) rfl (TabOk.con R X49Ok)) mixed Tryz.call51 Tryz.func51 runsCCon (by
 intro args cs K h
 unfold runsCCon at h
 split at h
 ·rename_i id core m now ts ev nt RL RM DL DM
  rw [Tree.holds_chk] at h
  obtain ⟨hp,h⟩:=h
  refine ⟨annOf [] [] [] [7],_,fun v S hv=>⟨_,h,hv⟩, ?_⟩
  have hv:=runsCVc m now ts RL RM DL DM ev nt id core
  unfold cs3 at hv
  rw [hv]
  exact runsCHolds m now ts RL RM DL DM ev nt id core (of_decide_eq_true hp)
 ·exact h.elim)
noncomputable def tab50:Tab T O:=(74,goesCCon)::(46,picksCCon)::(51,runsCCon)::tab49
theorem tabOk50:TabOk R Tryz.prog tab50:=TabOk.cons R goesCOk<|TabOk.cons R picksCOk<|TabOk.cons R runsCOk<|tabOk49
noncomputable def X50:Ctx T O:= { X0 with con:=conOf tab50 }
theorem X50Ok:TabOk R X50.P tab50:=tabOk50
end Go.Proofs.YtlfjbnflfdnoaaaGreat