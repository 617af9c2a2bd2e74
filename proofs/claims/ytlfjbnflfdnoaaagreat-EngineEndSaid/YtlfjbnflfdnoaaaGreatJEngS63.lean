/-
  Part of a proof over the seat YtlfjbnflfdnoaaaGreat: printed by a small program or typed by hand.
-/
import Derived.Test.YtlfjbnflfdnoaaaGreatJEngS61
import Derived.KernelRfl
namespace Go.Proofs.YtlfjbnflfdnoaaaGreat
open Go.Sx Go.Proofs Classical
def eg0 (m at1:Int):EG:=⟨m,at1,noTs,(noET,noM),(noVT,noM),noEv,noNt⟩
def rg0 (m at1:Int):RG:=⟨m,at1,noTr,noEv,noNt⟩
def tkI (g:EG):Nat->EG
 |0=>g
 |n+1=>tickG (tkI g n)
def tkRI (r:RG):Nat->RG
 |0=>r
 |n+1=>tickRG (tkRI r n)
def kE (n:Int):Int:=(IntKind.i64.wrap (n.tmod 10+10)).tmod 10
def endG (k:Int):EG:=arrG (putG (eg0 2 (IntKind.i64.wrap (1099511627776-k))) 3 1 2 false 1) 3 3
def endR (k:Int):RG:=arrRG (putRG (rg0 2 (IntKind.i64.wrap (1099511627776-k))) 3 1 2 false 1) 3 3
def awG:EG:=arrG (arrG (putG (putG (eg0 1 0) 0 1 2 false (-1)) 1 1 2 false (-1)) 0 2) 1 2
def awR:RG:=arrRG (arrRG (putRG (putRG (rg0 1 0) 0 1 2 false (-1)) 1 1 2 false (-1)) 0 2) 1 2
theorem atO_rep {α:Type} (id:Int):atO (List.replicate 64 (none:Option α)) id=none:=by
 unfold atO List.getD
 rw [List.getElem?_replicate]
 split<;>rfl
theorem rdyF_none {now id:Int}:rdyF noTs now id=none:=by
 unfold rdyF isLv noTs
 rw [atO_rep]
 simp
theorem waitF_none {now id:Int}:waitF noTs now id=none:=by
 unfold waitF isLv noTs
 rw [atO_rep]
 simp
theorem EGR.new {m at1:Int} (hm:1<=m/\ m<=4) (ha:0<=at1/\ at1<=1099511627776):EGR 0 0 (eg0 m at1) (rg0 m at1):=by
 have hno: ∀id,(atO (rg0 m at1).ts id).isSome=false:=fun id=>by
  show (atO (List.replicate 64 none) id).isSome=false
  rw [atO_rep];rfl
 refine ⟨{ kb:=by omega,m:=rfl,mr:=hm,now:=rfl,nowr:=ha,ev:=rfl,evl:=by simp [rg0,noEv],nt:=rfl,ntl:=by simp [rg0,noNt],lg:=by simp [eg0,noTs],lr:=by simp [rg0,noTr],no:=fun id _ _=> ?_,tr:=fun id _ _ hs=> ?_,dom:=fun id _ _ hs=> ?_,pins:=fun i j _ _ _ _ hi _ _=> ?_ }, ?_, ?_,fun id _ _=> ?_⟩
 ·rw [hno]
  show (atO (List.replicate 64 none) id).isSome=false
  rw [atO_rep];rfl
 ·rw [hno] at hs;cases hs
 ·rw [hno] at hs;cases hs
 ·rw [hno] at hi;cases hi
 ·have:rdyF (eg0 m at1).ts (eg0 m at1).now=fun _=>none:=by
   funext id;exact rdyF_none
  rw [this]
  exact RqV.new
 ·have:dqf (waitF (eg0 m at1).ts (eg0 m at1).now) (ruleF (rg0 m at1))=fun _=>none:=by
   funext k
   unfold dqf
   split
   ·split
    ·exact waitF_none
    ·split
     ·unfold ruleF
      rw [hno];rfl
     ·rfl
   ·rfl
  unfold DQ
  rw [this]
  exact DqV.new
 ·unfold canS
  rw [hno];rfl
theorem setR_now: ∀(n:Nat) (r:RG),(setR n r).now=r.now/\ (setR n r).m=r.m/\ (setR n r).nt=r.nt
 |0,r=>⟨rfl,rfl,rfl⟩
 |n+1,r=>by
  obtain ⟨a,b,c⟩:=setR_now n r
  simp only [setR]
  unfold setR1
  cases (atO (setR n r).ts (n:Int)).isSome&&canR (setR n r).now (rtAt (setR n r).ts (n:Int))
  ·exact ⟨a,b,c⟩
  ·cases (rtAt (setR n r).ts (n:Int)).stage==2
   ·exact ⟨a,b,c⟩
   ·exact ⟨a,b,c⟩
theorem inR_now {l:List Entry} {co:List Int} {c:Nat}: ∀(n:Nat) (q:RG×List Run),(inR l co c n q).1.now=q.1.now/\ (inR l co c n q).1.m=q.1.m
 |0,q=>⟨rfl,rfl⟩
 |n+1,q=>by
  obtain ⟨a,b⟩:=inR_now (l:=l) (co:=co) (c:=c) n q
  simp only [inR]
  unfold inR1
  cases at' (0:Int) co (n:Int)==(c:Int)
  ·exact ⟨a,b⟩
  ·exact ⟨a,b⟩
theorem outR_now {l:List Entry} {co:List Int}: ∀(n:Nat) (q:RG×List Run),(outR l co n q).1.now=q.1.now/\ (outR l co n q).1.m=q.1.m
 |0,q=>⟨rfl,rfl⟩
 |n+1,q=>by
  obtain ⟨a,b⟩:=outR_now (l:=l) (co:=co) n q
  obtain ⟨c,d⟩:=inR_now (l:=l) (co:=co) (c:=n) l.length (outR l co n q)
  simp only [outR]
  exact ⟨c.trans a,d.trans b⟩
theorem tickRG_now (r:RG):(tickRG r).now=IntKind.i64.wrap (r.now+1)/\ (tickRG r).m=r.m:=by
 unfold tickRG
 obtain ⟨a,b,_⟩:=setR_now 64 (trimR (tkR0 r).1)
 obtain ⟨c,d⟩:=outR_now (l:=pickR r) (co:=coR r) r.m.toNat (r,[])
 refine ⟨a.trans ?_,b.trans ?_⟩
 ·show IntKind.i64.wrap ((tkR0 r).1.now+1)=_
  unfold tkR0
  rw [c]
 ·exact d
theorem EGR.ticks {K:Nat} {g:EG} {r:RG} (h:EGR K 0 g r): ∀n:Nat,K+2*n<9000->r.now+n<=1099511627776->EGR (K+2*n) 0 (tkI g n) (tkRI r n)/\ (tkRI r n).now=r.now+n
 |0,_,_=>⟨h,by show r.now=_;omega⟩
 |n+1,hK,hn=>by
  obtain ⟨i1,i2⟩:=h.ticks n (by omega) (by omega)
  obtain ⟨_,_,_,_,t⟩:=i1.tick (by omega) (by omega)
  have hnr:=h.b.nowr
  refine ⟨?_, ?_⟩
  ·have:=t.norm (Nat.le_refl _) (by omega)
   rw [show K+2*(n+1)=K+2*n+1+1 by omega]
   exact this
  ·show (tickRG (tkRI r n)).now=_
   rw [(tickRG_now _).1,i2,wrap_id (by omega) (by omega)]
   omega
theorem rem_mod (a:Int) {n:Int} (h:0<n) (h2:n<=4611686018427387904):(IntKind.i64.wrap (a.tmod n+n)).tmod n=a%n:=by
 have h1:=Int.mul_tdiv_add_tmod a n
 have h3: -n<a.tmod n:=Int.lt_tmod_of_pos a h
 have h4:a.tmod n<n:=Int.tmod_lt_of_pos a h
 rw [wrap_id (by omega) (by omega),tmod_pos (by omega),Int.add_emod_right]
 conv=>rhs;rw [←h1,Int.mul_add_emod_self_left]
theorem awW:Wt 1 2:=⟨by omega,by omega,by omega⟩
theorem aw_all:(let g:=putG (putG (eg0 1 0) 0 1 2 false (-1)) 1 1 2 false (-1)
  (g.ts.length=64/\ (idOk 0=true->(atO g.ts 0).isSome=true->((rnAt g.ts 0).stage=3->0<=(rnAt g.ts 0).kept/\ (rnAt g.ts 0).kept<=1000)/\ ArrTP g.now 2 (rnAt g.ts 0)/\ FilesP (setT' g 0 (arrT g.now 2 (rnAt g.ts 0))) 0))∧
  ((arrG g 0 2).ts.length=64/\ (idOk 1=true->(atO (arrG g 0 2).ts 1).isSome=true->((rnAt (arrG g 0 2).ts 1).stage=3->0<=(rnAt (arrG g 0 2).ts 1).kept/\ (rnAt (arrG g 0 2).ts 1).kept<=1000)/\ ArrTP (arrG g 0 2).now 2 (rnAt (arrG g 0 2).ts 1)/\ FilesP (setT' (arrG g 0 2) 1 (arrT (arrG g 0 2).now 2 (rnAt (arrG g 0 2).ts 1))) 1)))/\ EGR 2 0 awG awR:=by
 have e0:=EGR.new (m:=1) (at1:=0) ⟨by omega,by omega⟩ ⟨by omega,by omega⟩
 obtain ⟨_,_,_,e1⟩:=e0.putOp (id:=0) (E:=1) (P:=2) (pin:= -1) (early:=false) (by omega) ⟨by omega,by omega, .inl (by omega)⟩ awW (by omega)
 obtain ⟨_,_,_,e2⟩:=e1.putOp (id:=1) (E:=1) (P:=2) (pin:= -1) (early:=false) (by omega) ⟨by omega,by omega, .inl (by omega)⟩ awW (by omega)
 obtain ⟨q1,_,_,e3⟩:=e2.arrOp (by omega) (by omega) 0 2
 obtain ⟨q2,_,_,e4⟩:=e3.arrOp (by omega) (by omega) 1 2
 exact ⟨⟨q1,q2⟩,e4⟩
theorem aw_eval:awR.now=0/\ ∀x:Fin 4,((tkR0 (tkRI awR x.val)).2.map fun u=>u.ID)=[bits .and .i64 (x.val:Int) 1]:=by decide+kernel
theorem aw_tick {x:Nat} (hx:x<=4):(tkI awG x).now=x/\ (x<4->TickP (tkI awG x)/\ (tickL (tkI awG x)).map (fun u=>u.ID)=[bits .and .i64 (x:Int) 1]):=by
 obtain ⟨_,h⟩:=aw_all
 have h0:=aw_eval.1
 obtain ⟨i1,i2⟩:=h.ticks x (by omega) (by omega)
 rw [h0] at i2
 have hn:=i1.b.now
 refine ⟨by omega,fun hx4=> ?_⟩
 obtain ⟨t1,_,t3,_⟩:=i1.tick (by omega) (by omega)
 exact ⟨t1,by rw [t3];exact aw_eval.2 ⟨x,hx4⟩⟩
theorem kE_bd (n:Int):0<=kE n/\ kE n<=9:=by
 unfold kE
 rw [rem_mod n (by omega) (by omega)]
 omega
theorem end_eval: ∀k:Fin 10,arrRE (putRG (rg0 2 (IntKind.i64.wrap (1099511627776-(k.val:Int)))) 3 1 2 false 1) 3 3=0/\ (endR (k.val:Int)).now=1099511627776-(k.val:Int):=by decide+kernel
theorem end_all (n:Int):IntKind.i64.wrap (1099511627776-kE n)=1099511627776-kE n/\ (let g:=putG (eg0 2 (IntKind.i64.wrap (1099511627776-kE n))) 3 1 2 false 1
  (g.ts.length=64/\ (idOk 3=true->(atO g.ts 3).isSome=true->((rnAt g.ts 3).stage=3->0<=(rnAt g.ts 3).kept/\ (rnAt g.ts 3).kept<=1000)/\ ArrTP g.now 3 (rnAt g.ts 3)/\ FilesP (setT' g 3 (arrT g.now 3 (rnAt g.ts 3))) 3))/\ arrEG g 3 3=0)/\ EGR 1 0 (endG (kE n)) (endR (kE n))/\ (endR (kE n)).now=1099511627776-kE n:=by
 obtain ⟨k0,k1⟩:=kE_bd n
 have hw:IntKind.i64.wrap (1099511627776-kE n)=1099511627776-kE n:=wrap_id (by omega) (by omega)
 have e0:=EGR.new (m:=2) (at1:=IntKind.i64.wrap (1099511627776-kE n)) ⟨by omega,by omega⟩ ⟨by omega,by omega⟩
 obtain ⟨_,_,_,e1⟩:=e0.putOp (id:=3) (E:=1) (P:=2) (pin:=1) (early:=false) (by omega) ⟨by omega,by omega, .inl (by omega)⟩ awW (by omega)
 obtain ⟨q1,_,q3,e2⟩:=e1.arrOp (by omega) (by omega) 3 3
 refine ⟨hw,⟨q1, ?_⟩,e2, ?_⟩
 ·rw [q3]
  have:=(end_eval ⟨(kE n).toNat,by omega⟩).1
  rw [show (((⟨(kE n).toNat,by omega⟩:Fin 10).val:Nat):Int)=kE n by dsimp only;omega] at this
  exact this
 ·have:=(end_eval ⟨(kE n).toNat,by omega⟩).2
  rw [show (((⟨(kE n).toNat,by omega⟩:Fin 10).val:Nat):Int)=kE n by dsimp only;omega] at this
  exact this
theorem end_tick {n:Int} {x:Nat} (hx:x<=(kE n).toNat):(tkI (endG (kE n)) x).now=1099511627776-kE n+x/\ ((tkI (endG (kE n)) x).now<1099511627776->TickP (tkI (endG (kE n)) x)):=by
 obtain ⟨_,_,h,h0⟩:=end_all n
 have:=kE_bd n
 obtain ⟨i1,i2⟩:=h.ticks x (by omega) (by omega)
 have hn:=i1.b.now
 refine ⟨by omega,fun hl=> ?_⟩
 exact (i1.tick (by omega) (by omega)).1
noncomputable def awk19A:Ann T O:=annOf [(9, { σ:=Nat,st:=fun S x=>((((((((((((((S.keep [0,2,3,4,5]).int 6 x).slot 1 (.ptr S.next 0)).add (.tab [.raw (.int .i64 ((tkI awG x).m)), .raw (.int .i64 ((tkI awG x).now))] 0 64 ((tkI awG x).ts) none [.ptr (S.next+1) 0, .ptr (S.next+2) 0, .own (S.next+3), .own (S.next+4)] 105)).add (.cells [.fn 40 [], .own (S.next+5), .own (S.next+6)] 146)).add (.cells [.ptr (S.next+7) 0] 156)).add (.vec 4 (tkI awG x).ev 151)).add (.que 7 (tkI awG x).nt 84)).add (.vec 5 (tkI awG x).rq.1 200)).add (.map 0 (tkI awG x).rq.2)).add (.cells [.fn 83 [], .own (S.next+8), .own (S.next+9)] 198)).add (.vec 6 (tkI awG x).dq.1 242)).add (.map 0 (tkI awG x).dq.2)).gc 0),inv:=fun _ x=>x<=4,m:=fun x=>4-x })] []
def awk19Text:Prop:=let q4:=(EG.mk (1:Int) (0:Int) noTs (noET,noM) (noVT,noM) noEv noNt);let q1:=(putG q4 (0:Int) halfWC0 halfWC1 false (-1:Int));let q0:=(putG (EG.mk q1.m q1.now q1.ts (q1.rq.fst,q1.rq.snd) (q1.dq.fst,q1.dq.snd) q1.ev q1.nt) (1:Int) halfWC0 halfWC1 false (-1:Int));let q10:=(EG.mk q0.m q0.now q0.ts (q0.rq.fst,q0.rq.snd) (q0.dq.fst,q0.dq.snd) q0.ev q0.nt);let q2:=(arrG q10 (0:Int) (2:Int));let q5:=(putG q1 (1:Int) halfWC0 halfWC1 false (-1:Int));let q3:=(arrG q5 (0:Int) (2:Int));let q6:=(arrG q3 (1:Int) (2:Int));let q7:=(True/\ (True/\ (True/\ True)));let q8:=(putE q4 (0:Int) halfWC0 halfWC1 (-1:Int)=putE q4 (0:Int) halfWC0 halfWC1 (-1:Int));let q9:=(putE q1 (1:Int) halfWC0 halfWC1 (-1:Int)=putE q1 (1:Int) halfWC0 halfWC1 (-1:Int));let q11:=(rnAt q0.ts (0:Int));let q12:=(rnAt q2.ts (1:Int));let q13:=(arrEG q5 (0:Int) (2:Int)=arrEG q5 (0:Int) (2:Int));let q14:=(arrEG q3 (1:Int) (2:Int)=arrEG q3 (1:Int) (2:Int));let q15:=(((true=false)/\ True)/\ True);(match (decide (q5.ts.length=(64:Nat)/\ (idOk (0:Int)=true->(atO q0.ts (0:Int)).isSome=true->(q11.stage=(3:Int)->(0:Int)<=q11.kept/\ q11.kept<=(1000:Int))/\ ArrTP q0.now (2:Int) q11/\ FilesP (setT' q10 (0:Int) (arrT q0.now (2:Int) q11)) (0:Int)))) with|true=>(match (decide (q3.ts.length=(64:Nat)/\ (idOk (1:Int)=true->(atO q2.ts (1:Int)).isSome=true->(q12.stage=(3:Int)->(0:Int)<=q12.kept/\ q12.kept<=(1000:Int))/\ ArrTP q2.now (2:Int) q12/\ FilesP (setT' (EG.mk q2.m q2.now q2.ts (q2.rq.fst,q2.rq.snd) (q2.dq.fst,q2.dq.snd) q2.ev q2.nt) (1:Int) (arrT q2.now (2:Int) q12)) (1:Int)))) with|true=>((∃x:Nat,((x.le (4:Nat))/\ ((True/\ (q8/\ (q9/\ (q13/\ (q14/\ (((↑x:Int)=(0:Int))/\ True))))))/\ (((((tkI awG x).m=q6.m)/\ (((tkI awG x).now=q6.now)/\ True))/\ (((tkI awG x).ts=q6.ts)/\ ((True/\ q7)/\ True)))/\ (q7/\ ((True/\ True)/\ (((tkI awG x).ev=q6.ev)/\ (((tkI awG x).nt=q6.nt)/\ (((tkI awG x).rq.fst=q6.rq.fst)/\ (((tkI awG x).rq.snd=q6.rq.snd)/\ (q7/\ (((tkI awG x).dq.fst=q6.dq.fst)/\ (((tkI awG x).dq.snd=q6.dq.snd)/\ True)))))))))))))/\ (∀x:Nat,((x.le (4:Nat))->(match (decide ((↑x:Int)<(4:Int))) with|true=>(match (decide ((tkI awG x).now<(1099511627776:Int)->TickP (EG.mk (tkI awG x).m (tkI awG x).now (tkI awG x).ts ((tkI awG x).rq.fst,(tkI awG x).rq.snd) ((tkI awG x).dq.fst,(tkI awG x).dq.snd) (tkI awG x).ev (tkI awG x).nt))) with|true=>(match (decide ((tkI awG x).now<(1099511627776:Int))) with|true=>(match ((↑(tickL (tkI awG x)).length:Int) !=(1:Int)) with|true=>q15|false=>(match (inb (0:Int) (tickL (tkI awG x)).length) with|true=>(match (inb (0:Int) (tickL (tkI awG x)).length) with|true=>(match ((at' runE.zero (tickL (tkI awG x)) (0:Int)).ID !=bits BinOp.and IntKind.i64 (↑x:Int) (1:Int)) with|true=>q15|false=>(∃x':Nat,((x'.le (4:Nat))/\ (((4:Nat)-x'<(4:Nat)-x)/\ ((True/\ (q8/\ (q9/\ (q13/\ (q14/\ (((↑x':Int)=IntKind.i64.wrap ((↑x:Int)+(1:Int)))/\ True))))))/\ (((((tkI awG x').m=(tickG (tkI awG x)).m)/\ (((tkI awG x').now=(tickG (tkI awG x)).now)/\ True))/\ (((tkI awG x').ts=(tickG (tkI awG x)).ts)/\ ((True/\ q7)/\ True)))/\ (q7/\ ((True/\ True)/\ (((tkI awG x').ev=(tickG (tkI awG x)).ev)/\ (((tkI awG x').nt=(tickG (tkI awG x)).nt)/\ (((tkI awG x').rq.fst=(tickG (tkI awG x)).rq.fst)/\ (((tkI awG x').rq.snd=(tickG (tkI awG x)).rq.snd)/\ (q7/\ (((tkI awG x').dq.fst=(tickG (tkI awG x)).dq.fst)/\ (((tkI awG x').dq.snd=(tickG (tkI awG x)).dq.snd)/\ True)))))))))))))))|false=>False)|false=>False))|false=>q15)|false=>False)|false=>(((true=((tkI awG x).now==(4:Int)))/\ True)/\ True)))))|false=>False)|false=>False)
theorem awk19Vc:fnX X61 (awk19A) Tryz.f11 [] [] (ends [] ⟨some (.raw (.bool true)),[]⟩)=awk19Text:=by kernel_rfl
theorem awk19Holds:awk19Text:=by
 unfold awk19Text
 conv=>zeta
 obtain ⟨⟨p1,p2⟩,_⟩:=aw_all
 refine mD p1 (mD p2 ?_)
 refine ⟨⟨0,Nat.zero_le _,by repeat' first|exact True.intro|with_reducible rfl|apply And.intro|exact rfl⟩, ?_⟩
 intro x hx
 have hx:x<=4:=hx
 obtain ⟨a1,a2⟩:=aw_tick hx
 by_cases h:x<4
 ·have hw:((x+1:Nat):Int)=IntKind.i64.wrap ((x:Int)+1):=by rw [wrap_id (by omega) (by omega)];rfl
  obtain ⟨b1,b2⟩:=a2 h
  have hs:tkI awG (x+1)=tickG (tkI awG x):=rfl
  have hl:(tickL (tkI awG x)).length=1:=by
   have:=congrArg List.length b2
   simpa using this
  obtain ⟨u,hu⟩: ∃u,tickL (tkI awG x)=[u]:=by
   match tickL (tkI awG x),hl with
   |[u],_=>exact ⟨u,rfl⟩
  have hid:u.ID=bits .and .i64 (x:Int) 1:=by
   rw [hu] at b2
   simpa using b2
  refine mD (show (x:Int)<4 by omega) (mD (fun _=>b1) (mD (show (tkI awG x).now<1099511627776 by omega) ?_))
  refine mF (by rw [hl];rfl) (mT (by rw [hl];rfl) (mT (by rw [hl];rfl) (mF ?_ ⟨x+1,h,by omega, ?_⟩)))
  ·rw [hu]
   show (u.ID !=bits .and .i64 (x:Int) 1)=false
   rw [hid];simp
  ·rw [hs]
   generalize tickG (tkI awG x)=Z
   repeat' first|exact hw|exact True.intro|with_reducible rfl|apply And.intro|exact rfl
 refine mN (show ¬((x:Int)<4) by omega) ?_
 have:((tkI awG x).now==4)=true:=beq_iff_eq.2 (by omega)
 exact ⟨⟨this.symm,True.intro⟩,True.intro⟩
noncomputable def awk19Con:Con T O:=fun args cs=>match args,cs with
 |[],[]=> .ret ⟨some (.raw (.bool true)),[]⟩
 |_,_=> .fail
theorem awk19Ok:ConOk R Tryz.prog 11 awk19Con:=con_of_fn R (X61) (good (X61) rfl (TabOk.con R X61Ok)) mixed Tryz.call11 Tryz.func11 awk19Con (by
 intro args cs K h
 unfold awk19Con at h
 split at h
 ·
  refine ⟨awk19A,_,fun v S hv=>⟨_,h,hv⟩, ?_⟩
  rw [awk19Vc]
  exact awk19Holds
 ·exact h.elim)
noncomputable def tab62:Tab T O:=(11,awk19Con)::tab61
theorem tabOk62:TabOk R Tryz.prog tab62:=TabOk.cons R awk19Ok<|tabOk61
noncomputable def X62:Ctx T O:= { X0 with con:=conOf tab62 }
theorem X62Ok:TabOk R X62.P tab62:=tabOk62
end Go.Proofs.YtlfjbnflfdnoaaaGreat
namespace Go.Proofs.YtlfjbnflfdnoaaaGreat
open Go.Sx Go.Proofs Classical
noncomputable def endCA (m:Int) (n:Int):Ann T O:=annOf [(14, { σ:=Nat,st:=fun S x=>((((((((((((((S.keep [6,12,14,15]).int 16 x).slot 13 (.ptr S.next 0)).add (.tab [.raw (.int .i64 ((tkI (endG (kE n)) x).m)), .raw (.int .i64 ((tkI (endG (kE n)) x).now))] 0 64 ((tkI (endG (kE n)) x).ts) none [.ptr (S.next+1) 0, .ptr (S.next+2) 0, .own (S.next+3), .own (S.next+4)] 105)).add (.cells [.fn 40 [], .own (S.next+5), .own (S.next+6)] 146)).add (.cells [.ptr (S.next+7) 0] 156)).add (.vec 4 (tkI (endG (kE n)) x).ev 151)).add (.que 7 (tkI (endG (kE n)) x).nt 84)).add (.vec 5 (tkI (endG (kE n)) x).rq.1 200)).add (.map 0 (tkI (endG (kE n)) x).rq.2)).add (.cells [.fn 83 [], .own (S.next+8), .own (S.next+9)] 198)).add (.vec 6 (tkI (endG (kE n)) x).dq.1 242)).add (.map 0 (tkI (endG (kE n)) x).dq.2)).gc 0),inv:=fun _ x=>x<=(kE n).toNat,m:=fun x=>(kE n).toNat-x })] []
def endCText (m at1 n:Int):Prop:=let q6:=(IntKind.i64.wrap (n.tmod (10:Int)+(10:Int)));let q2:=((1099511627776:Int)-q6.tmod (10:Int));let q4:=(EG.mk (2:Int) (IntKind.i64.wrap q2) noTs (noET,noM) (noVT,noM) noEv noNt);let q1:=(putG q4 (3:Int) halfWC0 halfWC1 false (1:Int));let q10:=(True/\ (True/\ (True/\ True)));let q11:=(putE q4 (3:Int) halfWC0 halfWC1 (1:Int)=putE q4 (3:Int) halfWC0 halfWC1 (1:Int));let q5:=(((true=false)/\ True)/\ True);let q7:=(arrG q1 (3:Int) (3:Int));let q13:=(arrEG q1 (3:Int) (3:Int)=arrEG q1 (3:Int) (3:Int));let q12:=(rnAt q1.ts (3:Int));let q0:=(match (decide ((1:Int)<=(2:Int))&&decide ((2:Int)<=(1024:Int))&&decide ((0:Int)<=IntKind.i64.wrap q2)&&decide (IntKind.i64.wrap q2<=(1099511627776:Int))) with|true=>(match (decide (noTs.length=(64:Nat)/\ (0:Int)<=IntKind.i64.wrap q2/\ IntKind.i64.wrap q2<=(1099511627776:Int))) with|true=>(match (decide (q1.ts.length=(64:Nat)/\ (idOk (3:Int)=true->(atO q1.ts (3:Int)).isSome=true->(q12.stage=(3:Int)->(0:Int)<=q12.kept/\ q12.kept<=(1000:Int))/\ ArrTP q1.now (3:Int) q12/\ FilesP (setT' (EG.mk q1.m q1.now q1.ts (q1.rq.fst,q1.rq.snd) (q1.dq.fst,q1.dq.snd) q1.ev q1.nt) (3:Int) (arrT q1.now (3:Int) q12)) (3:Int)))) with|true=>((∃x:Nat,((x.le (kE n).toNat)/\ (((q6.tmod (10:Int)=q6.tmod (10:Int))/\ (True/\ (q11/\ (q13/\ (((↑x:Int)=(0:Int))/\ True)))))/\ (((((tkI (endG (kE n)) x).m=q7.m)/\ (((tkI (endG (kE n)) x).now=q7.now)/\ True))/\ (((tkI (endG (kE n)) x).ts=q7.ts)/\ ((True/\ q10)/\ True)))/\ (q10/\ ((True/\ True)/\ (((tkI (endG (kE n)) x).ev=q7.ev)/\ (((tkI (endG (kE n)) x).nt=q7.nt)/\ (((tkI (endG (kE n)) x).rq.fst=q7.rq.fst)/\ (((tkI (endG (kE n)) x).rq.snd=q7.rq.snd)/\ (q10/\ (((tkI (endG (kE n)) x).dq.fst=q7.dq.fst)/\ (((tkI (endG (kE n)) x).dq.snd=q7.dq.snd)/\ True)))))))))))))/\ (∀x:Nat,let q3:=(decide ((tkI (endG (kE n)) x).now<(1099511627776:Int)->TickP (EG.mk (tkI (endG (kE n)) x).m (tkI (endG (kE n)) x).now (tkI (endG (kE n)) x).ts ((tkI (endG (kE n)) x).rq.fst,(tkI (endG (kE n)) x).rq.snd) ((tkI (endG (kE n)) x).dq.fst,(tkI (endG (kE n)) x).dq.snd) (tkI (endG (kE n)) x).ev (tkI (endG (kE n)) x).nt)));let q8:=(tickG (tkI (endG (kE n)) x));let q14:=(decide ((tkI (endG (kE n)) x).now<(1099511627776:Int)));((x.le (kE n).toNat)->(match (decide ((↑x:Int)<q6.tmod (10:Int))) with|true=>(match q3 with|true=>(match q14 with|true=>(∃x':Nat,let q9:=(tkI (endG (kE n)) x');((x'.le (kE n).toNat)/\ (((kE n).toNat-x'<(kE n).toNat-x)/\ (((q6.tmod (10:Int)=q6.tmod (10:Int))/\ (True/\ (q11/\ (q13/\ (((↑x':Int)=IntKind.i64.wrap ((↑x:Int)+(1:Int)))/\ True)))))/\ ((((q9.m=q8.m)/\ ((q9.now=q8.now)/\ True))/\ ((q9.ts=q8.ts)/\ ((True/\ q10)/\ True)))/\ (q10/\ ((True/\ True)/\ ((q9.ev=q8.ev)/\ ((q9.nt=q8.nt)/\ ((q9.rq.fst=q8.rq.fst)/\ ((q9.rq.snd=q8.rq.snd)/\ (q10/\ ((q9.dq.fst=q8.dq.fst)/\ ((q9.dq.snd=q8.dq.snd)/\ True))))))))))))))|false=>q5)|false=>False)|false=>(match q3 with|true=>(match q14 with|true=>(match (arrEG q1 (3:Int) (3:Int)==(0:Int)) with|true=>q5|false=>q5)|false=>(match (arrEG q1 (3:Int) (3:Int)==(0:Int)) with|true=>(((true=((tkI (endG (kE n)) x).now==(1099511627776:Int)))/\ True)/\ True)|false=>q5))|false=>False)))))|false=>False)|false=>False)|false=>q5);(match (decide ((1:Int)<=m)&&decide (m<=(1024:Int))&&decide ((0:Int)<=at1)&&decide (at1<=(1099511627776:Int))) with|true=>(match (decide (m>=(1:Int))) with|true=>(match (decide (m<=(1024:Int))) with|true=>(match (decide (at1>=(0:Int))) with|true=>(match ((!false) !=decide (at1<=(1099511627776:Int))) with|true=>q5|false=>q0)|false=>q5)|false=>q5)|false=>q5)|false=>(match (decide (m>=(1:Int))) with|true=>(match (decide (m<=(1024:Int))) with|true=>(match (decide (at1>=(0:Int))) with|true=>(match ((!true) !=decide (at1<=(1099511627776:Int))) with|true=>q5|false=>q0)|false=>q0)|false=>q0)|false=>q0))
theorem endCVc (m at1 n:Int):fnX X62 ((endCA m n)) Tryz.f9 [.raw (.int .i64 m), .raw (.int .i64 at1), .raw (.int .i64 n)] [] (ends [] ⟨some (.raw (.bool true)),[]⟩)=endCText m at1 n:=by kernel_rfl
theorem endCHolds (m at1 n:Int):endCText m at1 n:=by
 unfold endCText
 conv=>zeta
 obtain ⟨hw0,⟨hp2,hp3⟩,_,_⟩:=end_all n
 obtain ⟨k0,k1⟩:=kE_bd n
 have hcond:(decide ((1:Int)<=2)&&decide ((2:Int)<=1024)&&decide (0<=IntKind.i64.wrap (1099511627776-kE n))&&decide (IntKind.i64.wrap (1099511627776-kE n)<=1099511627776))=true:=by
  rw [hw0,decide_eq_true (show (0:Int)<=1099511627776-kE n by omega),decide_eq_true (show 1099511627776-kE n<=1099511627776 by omega)];rfl
 have hp1:noTs.length=64/\ 0<=IntKind.i64.wrap (1099511627776-kE n)/\ IntKind.i64.wrap (1099511627776-kE n)<=1099511627776:=by
  rw [hw0];exact ⟨by simp [noTs],by omega,by omega⟩
 by_cases a1:1<=m
 ·by_cases a2:m<=1024
  ·by_cases a3:0<=at1
   ·by_cases a4:at1<=1099511627776
    ·refine mT (by rw [decide_eq_true a1,decide_eq_true a2,decide_eq_true a3,decide_eq_true a4];rfl) (mD a1 (mD a2 (mD a3 (mF (by rw [decide_eq_true a4];rfl) ?_))))
     refine mT hcond (mD hp1 (mD hp2 ?_))
     refine ⟨⟨0,Nat.zero_le _,by repeat' first|exact True.intro|with_reducible rfl|apply And.intro|exact rfl⟩, ?_⟩
     intro x hx
     have hx:x<=(kE n).toNat:=hx
     obtain ⟨b1,b2⟩:=end_tick hx
     by_cases h:x<(kE n).toNat
     ·have hw:((x+1:Nat):Int)=IntKind.i64.wrap ((x:Int)+1):=by rw [wrap_id (by omega) (by omega)];rfl
      have hs:tkI (endG (kE n)) (x+1)=tickG (tkI (endG (kE n)) x):=rfl
      refine mD (show (x:Int)<kE n by omega) (mD b2 (mD (show (tkI (endG (kE n)) x).now<1099511627776 by omega) ⟨x+1,h,by omega, ?_⟩))
      rw [hs]
      generalize tickG (tkI (endG (kE n)) x)=Z
      repeat' first|exact hw|exact True.intro|with_reducible rfl|apply And.intro|exact rfl
     have hz:((tkI (endG (kE n)) x).now==1099511627776)=true:=beq_iff_eq.2 (by omega)
     refine mN (show ¬(x:Int)<kE n by omega) (mD b2 (mN (show ¬(tkI (endG (kE n)) x).now<1099511627776 by omega) (mT (beq_iff_eq.2 hp3) ?_)))
     exact ⟨⟨hz.symm,True.intro⟩,True.intro⟩
    ·refine mF (by rw [decide_eq_false a4,Bool.and_false]) (mD a1 (mD a2 (mD a3 (mF (by rw [decide_eq_false a4];rfl) ?_))))
     refine mT hcond (mD hp1 (mD hp2 ?_))
     refine ⟨⟨0,Nat.zero_le _,by repeat' first|exact True.intro|with_reducible rfl|apply And.intro|exact rfl⟩, ?_⟩
     intro x hx
     have hx:x<=(kE n).toNat:=hx
     obtain ⟨b1,b2⟩:=end_tick hx
     by_cases h:x<(kE n).toNat
     ·have hw:((x+1:Nat):Int)=IntKind.i64.wrap ((x:Int)+1):=by rw [wrap_id (by omega) (by omega)];rfl
      have hs:tkI (endG (kE n)) (x+1)=tickG (tkI (endG (kE n)) x):=rfl
      refine mD (show (x:Int)<kE n by omega) (mD b2 (mD (show (tkI (endG (kE n)) x).now<1099511627776 by omega) ⟨x+1,h,by omega, ?_⟩))
      rw [hs]
      generalize tickG (tkI (endG (kE n)) x)=Z
      repeat' first|exact hw|exact True.intro|with_reducible rfl|apply And.intro|exact rfl
     have hz:((tkI (endG (kE n)) x).now==1099511627776)=true:=beq_iff_eq.2 (by omega)
     refine mN (show ¬(x:Int)<kE n by omega) (mD b2 (mN (show ¬(tkI (endG (kE n)) x).now<1099511627776 by omega) (mT (beq_iff_eq.2 hp3) ?_)))
     exact ⟨⟨hz.symm,True.intro⟩,True.intro⟩
   ·refine mF (by rw [decide_eq_false a3,Bool.and_false];rfl) (mD a1 (mD a2 (mN a3 ?_)))
    refine mT hcond (mD hp1 (mD hp2 ?_))
    refine ⟨⟨0,Nat.zero_le _,by repeat' first|exact True.intro|with_reducible rfl|apply And.intro|exact rfl⟩, ?_⟩
    intro x hx
    have hx:x<=(kE n).toNat:=hx
    obtain ⟨b1,b2⟩:=end_tick hx
    by_cases h:x<(kE n).toNat
    ·have hw:((x+1:Nat):Int)=IntKind.i64.wrap ((x:Int)+1):=by rw [wrap_id (by omega) (by omega)];rfl
     have hs:tkI (endG (kE n)) (x+1)=tickG (tkI (endG (kE n)) x):=rfl
     refine mD (show (x:Int)<kE n by omega) (mD b2 (mD (show (tkI (endG (kE n)) x).now<1099511627776 by omega) ⟨x+1,h,by omega, ?_⟩))
     rw [hs]
     generalize tickG (tkI (endG (kE n)) x)=Z
     repeat' first|exact hw|exact True.intro|with_reducible rfl|apply And.intro|exact rfl
    have hz:((tkI (endG (kE n)) x).now==1099511627776)=true:=beq_iff_eq.2 (by omega)
    refine mN (show ¬(x:Int)<kE n by omega) (mD b2 (mN (show ¬(tkI (endG (kE n)) x).now<1099511627776 by omega) (mT (beq_iff_eq.2 hp3) ?_)))
    exact ⟨⟨hz.symm,True.intro⟩,True.intro⟩
  ·refine mF (by rw [decide_eq_false a2,Bool.and_false];rfl) (mD a1 (mN a2 ?_))
   refine mT hcond (mD hp1 (mD hp2 ?_))
   refine ⟨⟨0,Nat.zero_le _,by repeat' first|exact True.intro|with_reducible rfl|apply And.intro|exact rfl⟩, ?_⟩
   intro x hx
   have hx:x<=(kE n).toNat:=hx
   obtain ⟨b1,b2⟩:=end_tick hx
   by_cases h:x<(kE n).toNat
   ·have hw:((x+1:Nat):Int)=IntKind.i64.wrap ((x:Int)+1):=by rw [wrap_id (by omega) (by omega)];rfl
    have hs:tkI (endG (kE n)) (x+1)=tickG (tkI (endG (kE n)) x):=rfl
    refine mD (show (x:Int)<kE n by omega) (mD b2 (mD (show (tkI (endG (kE n)) x).now<1099511627776 by omega) ⟨x+1,h,by omega, ?_⟩))
    rw [hs]
    generalize tickG (tkI (endG (kE n)) x)=Z
    repeat' first|exact hw|exact True.intro|with_reducible rfl|apply And.intro|exact rfl
   have hz:((tkI (endG (kE n)) x).now==1099511627776)=true:=beq_iff_eq.2 (by omega)
   refine mN (show ¬(x:Int)<kE n by omega) (mD b2 (mN (show ¬(tkI (endG (kE n)) x).now<1099511627776 by omega) (mT (beq_iff_eq.2 hp3) ?_)))
   exact ⟨⟨hz.symm,True.intro⟩,True.intro⟩
 ·refine mF (by rw [decide_eq_false a1];rfl) (mN a1 ?_)
  refine mT hcond (mD hp1 (mD hp2 ?_))
  refine ⟨⟨0,Nat.zero_le _,by repeat' first|exact True.intro|with_reducible rfl|apply And.intro|exact rfl⟩, ?_⟩
  intro x hx
  have hx:x<=(kE n).toNat:=hx
  obtain ⟨b1,b2⟩:=end_tick hx
  by_cases h:x<(kE n).toNat
  ·have hw:((x+1:Nat):Int)=IntKind.i64.wrap ((x:Int)+1):=by rw [wrap_id (by omega) (by omega)];rfl
   have hs:tkI (endG (kE n)) (x+1)=tickG (tkI (endG (kE n)) x):=rfl
   refine mD (show (x:Int)<kE n by omega) (mD b2 (mD (show (tkI (endG (kE n)) x).now<1099511627776 by omega) ⟨x+1,h,by omega, ?_⟩))
   rw [hs]
   generalize tickG (tkI (endG (kE n)) x)=Z
   repeat' first|exact hw|exact True.intro|with_reducible rfl|apply And.intro|exact rfl
  have hz:((tkI (endG (kE n)) x).now==1099511627776)=true:=beq_iff_eq.2 (by omega)
  refine mN (show ¬(x:Int)<kE n by omega) (mD b2 (mN (show ¬(tkI (endG (kE n)) x).now<1099511627776 by omega) (mT (beq_iff_eq.2 hp3) ?_)))
  exact ⟨⟨hz.symm,True.intro⟩,True.intro⟩
noncomputable def endCCon:Con T O:=fun args cs=>match args,cs with
 |[.raw (.int .i64 _), .raw (.int .i64 _), .raw (.int .i64 _)],[]=> .ret ⟨some (.raw (.bool true)),[]⟩
 |_,_=> .fail
theorem endCOk:ConOk R Tryz.prog 9 endCCon:=con_of_fn R (X62) (good (X62) rfl (TabOk.con R X62Ok)) mixed Tryz.call9 Tryz.func9 endCCon (by
 intro args cs K h
 unfold endCCon at h
 split at h
 ·rename_i m at1 n
  refine ⟨(endCA m n),_,fun v S hv=>⟨_,h,hv⟩, ?_⟩
  rw [endCVc m at1 n]
  exact endCHolds m at1 n
 ·exact h.elim)
end Go.Proofs.YtlfjbnflfdnoaaaGreat