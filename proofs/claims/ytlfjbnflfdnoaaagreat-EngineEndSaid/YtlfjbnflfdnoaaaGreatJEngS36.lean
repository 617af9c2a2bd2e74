/-
  Part of a proof over the seat YtlfjbnflfdnoaaaGreat: printed by a small program or typed by hand.
-/
import Derived.Test.YtlfjbnflfdnoaaaGreatJEngS20
import Derived.KernelRfl
namespace Go.Proofs.YtlfjbnflfdnoaaaGreat
open Go.Sx Go.Proofs Classical
def deadS (s:Stp):Int:=upC (cntW s.ew s.el s.eo s.whole s.rest) (cntL s.el s.eo s.rest)
def noG (s:Stp):Bool:=s.gw==0&&(s.gl==0&&(s.go==0&&true))
def grpN (long part go dl:Int):Nat->Int->Int->Int×Int
 |0,w,l=>(w,l)
 |n+1,w,l=>bif decide (upC w l>=dl) then (w,l) else grpN long part go dl n (cntW w l go long part) (cntL l go part)
def advG (s:Stp):Int×Int:=bif s.E==s.P then (s.gw,s.gl) else bif noG s then (s.gw,s.gl) else grpN s.long s.part s.go (deadS s) (deadS s-s.gw).toNat s.gw s.gl
def advX (s:Stp):Sub:=bif decide (s.idx+1>1099511627776) then ⟨0,0,0,0,0⟩ else
 ⟨s.idx+1,s.ew,deadS s,deadS s-cntW s.ew s.el s.eo s.whole s.rest,bif s.E==s.P then deadS s else bif noG s then 0 else upC (advG s).1 (advG s).2⟩
def advN (s:Stp):Stp:=bif decide (s.idx+1>1099511627776) then { s with idx:=s.idx+1,sub:=advX s } else
 { s with idx:=s.idx+1,ew:=cntW s.ew s.el s.eo s.whole s.rest,el:=cntL s.el s.eo s.rest,gw:=(advG s).1,gl:=(advG s).2,sub:=advX s }
def AdvP (s:Stp):Prop:=(0<=s.idx/\ s.idx<=2199023255552)/\ (0<=s.ew/\ s.ew<=2305843009213693952)/\ (0<=s.whole/\ s.whole<=2097152)/\ (0<=s.el/\ s.el<=2097152)/\ (0<=s.rest/\ s.rest<=2097152)/\ (0<=s.eo/\ s.eo<=2097152)∧
 (0<=s.gw/\ s.gw<=2305843009222082560)/\ (0<=s.gl/\ s.gl<=2097152)/\ (0<=s.go/\ s.go<=2097152)/\ (noG s=false->(1<=s.long/\ s.long<=2097152)/\ 0<=s.part/\ s.part<=s.go/\ s.gl<=s.go)
instance (s:Stp):Decidable (AdvP s):=by unfold AdvP;exact inferInstance
theorem up_eq {w l o:Int} (h1:0<=w) (h2:w<=4611686018427387904):stepperCounterUp w l o=upC w l:=by
 unfold stepperCounterUp upC
 cases decide (l>0)
 ·rfl
 ·exact wrap_id (by omega) (by omega)
theorem up_le (w l:Int):w<=upC w l/\ upC w l<=w+1:=by
 unfold upC
 cases decide (l>0)<;>simp<;>omega
theorem cntW_le (w l o a b:Int):w+a<=cntW w l o a b/\ cntW w l o a b<=w+a+1:=by
 unfold cntW
 cases decide (l+b>=o)<;>simp<;>omega
theorem cntL_le {l o b:Int} (h1:0<=l) (h2:l<=o) (h3:0<=b) (h4:b<=o):0<=cntL l o b/\ cntL l o b<=o:=by
 unfold cntL
 by_cases h:l+b>=o
 ·rw [decide_eq_true h];dsimp only [cond_true];omega
 ·rw [decide_eq_false h];dsimp only [cond_false];omega
noncomputable def advSA (s:Stp):Ann T O:=oneLoop 11 { σ:=Int×Int×Int,st:=fun S x=>((S.keep [0,2,3]).chunk 0 (.cells [.raw (.int .i64 s.E), .raw (.int .i64 s.P), .raw (.int .i64 s.off), .raw (.int .i64 (IntKind.i64.wrap (s.idx+1))), .raw (.int .i64 s.whole), .raw (.int .i64 s.rest), .raw (.int .i64 (cntW s.ew s.el s.eo s.whole s.rest)), .raw (.int .i64 (cntL s.el s.eo s.rest)), .raw (.int .i64 s.eo), .raw (.int .i64 s.long), .raw (.int .i64 s.part), .raw (.int .i64 x.1), .raw (.int .i64 x.2.1), .raw (.int .i64 s.go), .raw (.int .i64 s.sub.Index), .raw (.int .i64 s.sub.Release), .raw (.int .i64 s.sub.Deadline), .raw (.int .i64 s.sub.Bit), .raw (.int .i64 s.sub.Group)] 226)).at' 2 (.cells [.raw (.int .i64 (IntKind.i64.wrap (s.idx+1))), .raw (.int .i64 s.ew), .raw (.int .i64 (deadS s)), .raw (.int .i64 (IntKind.i64.wrap (deadS s-cntW s.ew s.el s.eo s.whole s.rest))), .raw (.int .i64 x.2.2)] 39),inv:=fun _ x=>(0<=x.1/\ x.1<=2305843009222082560)/\ (0<=x.2.1/\ x.2.1<=s.go)/\ grpN s.long s.part s.go (deadS s) (deadS s-s.gw).toNat s.gw s.gl=grpN s.long s.part s.go (deadS s) (deadS s-x.1).toNat x.1 x.2.1,m:=fun x=>(deadS s-x.1).toNat }
noncomputable def advSE0 (s:Stp):Eff T O:=⟨some (.tup []),[(0,some (.cells [.raw (.int .i64 ((advN s).E)), .raw (.int .i64 ((advN s).P)), .raw (.int .i64 ((advN s).off)), .raw (.int .i64 ((advN s).idx)), .raw (.int .i64 ((advN s).whole)), .raw (.int .i64 ((advN s).rest)), .raw (.int .i64 ((advN s).ew)), .raw (.int .i64 ((advN s).el)), .raw (.int .i64 ((advN s).eo)), .raw (.int .i64 ((advN s).long)), .raw (.int .i64 ((advN s).part)), .raw (.int .i64 ((advN s).gw)), .raw (.int .i64 ((advN s).gl)), .raw (.int .i64 ((advN s).go)), .raw (.int .i64 ((advN s).sub.Index)), .raw (.int .i64 ((advN s).sub.Release)), .raw (.int .i64 ((advN s).sub.Deadline)), .raw (.int .i64 ((advN s).sub.Bit)), .raw (.int .i64 ((advN s).sub.Group))] 226))]⟩
def advSText (s:Stp):Prop:=let q5:=(cntW s.ew s.el s.eo s.whole s.rest);let q10:=(cntL s.el s.eo s.rest);let q1:=(stepperCounterUp q5 q10 s.eo-cntW s.ew s.el s.eo s.whole s.rest);let q2:=(IntKind.i64.wrap (s.idx+(1:Int))=IntKind.i64.wrap (s.idx+(1:Int)));let q3:=((s.go=s.go)/\ ((s.sub.Index=s.sub.Index)/\ ((s.sub.Release=s.sub.Release)/\ ((s.sub.Deadline=s.sub.Deadline)/\ ((s.sub.Bit=s.sub.Bit)/\ ((s.sub.Group=s.sub.Group)/\ True))))));let q4:=((advN s).idx=IntKind.i64.wrap (s.idx+(1:Int)));let q6:=(deadS s-cntW s.ew s.el s.eo s.whole s.rest);let q7:=((advN s).sub.Index=IntKind.i64.wrap (s.idx+(1:Int)));let q8:=((0:Int)=(0:Int));let q9:=((advN s).ew=cntW s.ew s.el s.eo s.whole s.rest);let q11:=(cntW s.ew s.el s.eo s.whole s.rest=cntW s.ew s.el s.eo s.whole s.rest);let q12:=((advN s).whole=s.whole);let q13:=((advN s).el=cntL s.el s.eo s.rest);let q14:=((advN s).rest=s.rest);let q15:=((advN s).long=s.long);let q16:=((advN s).part=s.part);let q17:=((advN s).off=s.off);(match (decide (IntKind.i64.wrap (s.idx+(1:Int))>(1099511627776:Int))) with|true=>((True/\ True)/\ ((((advN s).E=s.E)/\ (((advN s).P=s.P)/\ (q17/\ (q4/\ (q12/\ (q14/\ (((advN s).ew=s.ew)/\ (((advN s).el=s.el)/\ (((advN s).eo=s.eo)/\ (q15/\ (q16/\ (((advN s).gw=s.gw)/\ (((advN s).gl=s.gl)/\ (((advN s).go=s.go)/\ (((advN s).sub.Index=(0:Int))/\ (((advN s).sub.Release=(0:Int))/\ (((advN s).sub.Deadline=(0:Int))/\ (((advN s).sub.Bit=(0:Int))/\ (((advN s).sub.Group=(0:Int))/\ True)))))))))))))))))))/\ True))|false=>(match (decide (CntOk s.ew s.el s.eo s.whole s.rest)) with|true=>(match (s.E==s.P) with|true=>((True/\ True)/\ ((((advN s).E=s.E)/\ (((advN s).P=s.P)/\ (q17/\ (q4/\ (q12/\ (q14/\ (q9/\ (q13/\ (((advN s).eo=s.eo)/\ (q15/\ (q16/\ (((advN s).gw=s.gw)/\ (((advN s).gl=s.gl)/\ (((advN s).go=s.go)/\ (q7/\ (((advN s).sub.Release=s.ew)/\ (((advN s).sub.Deadline=stepperCounterUp q5 q10 s.eo)/\ (((advN s).sub.Bit=IntKind.i64.wrap q1)/\ (((advN s).sub.Group=stepperCounterUp q5 q10 s.eo)/\ True)))))))))))))))))))/\ True))|false=>(match (!(s.gw==(0:Int)&&(s.gl==(0:Int)&&(s.go==(0:Int)&&true)))) with|true=>((∃x:Int×Int×Int,let q0:=((((0:Int)<=x.fst)/\ (x.fst<=(2305843009222082560:Int)))/\ ((((0:Int)<=x.snd.fst)/\ (x.snd.fst<=s.go))/\ (grpN s.long s.part s.go (deadS s) (deadS s-s.gw).toNat s.gw s.gl=grpN s.long s.part s.go (deadS s) (deadS s-x.fst).toNat x.fst x.snd.fst)));(q0/\ ((True/\ (True/\ (True/\ True)))/\ (((s.E=s.E)/\ ((s.P=s.P)/\ ((s.off=s.off)/\ (q2/\ ((s.whole=s.whole)/\ ((s.rest=s.rest)/\ (q11/\ ((cntL s.el s.eo s.rest=cntL s.el s.eo s.rest)/\ ((s.eo=s.eo)/\ ((s.long=s.long)/\ ((s.part=s.part)/\ ((x.fst=s.gw)/\ ((x.snd.fst=s.gl)/\ q3)))))))))))))/\ ((q2/\ ((s.ew=s.ew)/\ ((deadS s=stepperCounterUp q5 q10 s.eo)/\ ((IntKind.i64.wrap q6=IntKind.i64.wrap q1)/\ ((x.snd.snd=(0:Int))/\ True)))))/\ ((q8/\ (q8/\ (q8/\ True)))/\ True))))))/\ (∀x:Int×Int×Int,let q0:=((((0:Int)<=x.fst)/\ (x.fst<=(2305843009222082560:Int)))/\ ((((0:Int)<=x.snd.fst)/\ (x.snd.fst<=s.go))/\ (grpN s.long s.part s.go (deadS s) (deadS s-s.gw).toNat s.gw s.gl=grpN s.long s.part s.go (deadS s) (deadS s-x.fst).toNat x.fst x.snd.fst)));(q0->(match (decide (stepperCounterUp x.fst x.snd.fst s.go>=deadS s)) with|true=>((True/\ True)/\ ((((advN s).E=s.E)/\ (((advN s).P=s.P)/\ (q17/\ (q4/\ (q12/\ (q14/\ (q9/\ (q13/\ (((advN s).eo=s.eo)/\ (q15/\ (q16/\ (((advN s).gw=x.fst)/\ (((advN s).gl=x.snd.fst)/\ (((advN s).go=s.go)/\ (q7/\ (((advN s).sub.Release=s.ew)/\ (((advN s).sub.Deadline=deadS s)/\ (((advN s).sub.Bit=IntKind.i64.wrap q6)/\ (((advN s).sub.Group=stepperCounterUp x.fst x.snd.fst s.go)/\ True)))))))))))))))))))/\ True))|false=>(match (decide (CntOk x.fst x.snd.fst s.go s.long s.part)) with|true=>(∃x':Int×Int×Int,(((((0:Int)<=x'.fst)/\ (x'.fst<=(2305843009222082560:Int)))/\ ((((0:Int)<=x'.snd.fst)/\ (x'.snd.fst<=s.go))/\ (grpN s.long s.part s.go (deadS s) (deadS s-s.gw).toNat s.gw s.gl=grpN s.long s.part s.go (deadS s) (deadS s-x'.fst).toNat x'.fst x'.snd.fst)))/\ (((deadS s-x'.fst).toNat<(deadS s-x.fst).toNat)/\ ((True/\ (True/\ (True/\ True)))/\ (((s.E=s.E)/\ ((s.P=s.P)/\ ((s.off=s.off)/\ (q2/\ ((s.whole=s.whole)/\ ((s.rest=s.rest)/\ (q11/\ ((cntL s.el s.eo s.rest=cntL s.el s.eo s.rest)/\ ((s.eo=s.eo)/\ ((s.long=s.long)/\ ((s.part=s.part)/\ ((x'.fst=cntW x.fst x.snd.fst s.go s.long s.part)/\ ((x'.snd.fst=cntL x.snd.fst s.go s.part)/\ q3)))))))))))))/\ ((q2/\ ((s.ew=s.ew)/\ ((deadS s=deadS s)/\ ((IntKind.i64.wrap q6=IntKind.i64.wrap q6)/\ ((x'.snd.snd=stepperCounterUp x.fst x.snd.fst s.go)/\ True)))))/\ ((q8/\ (q8/\ (q8/\ True)))/\ True)))))))|false=>False)))))|false=>((True/\ True)/\ ((((advN s).E=s.E)/\ (((advN s).P=s.P)/\ (q17/\ (q4/\ (q12/\ (q14/\ (q9/\ (q13/\ (((advN s).eo=s.eo)/\ (q15/\ (q16/\ (((advN s).gw=s.gw)/\ (((advN s).gl=s.gl)/\ (((advN s).go=s.go)/\ (q7/\ (((advN s).sub.Release=s.ew)/\ (((advN s).sub.Deadline=stepperCounterUp q5 q10 s.eo)/\ (((advN s).sub.Bit=IntKind.i64.wrap q1)/\ (((advN s).sub.Group=(0:Int))/\ True)))))))))))))))))))/\ True))))|false=>False))
theorem advSVc (s:Stp):fnX X20 ((advSA s)) Tryz.f152 [.ptr 0 0] (cs0 s) (ends (cs0 s) (advSE0 s))=advSText s:=by kernel_rfl
theorem advSHolds (s:Stp) (hp:AdvP s):advSText s:=by
 unfold advSText
 conv=>zeta
 obtain ⟨⟨a1,a2⟩,⟨b1,b2⟩,⟨c1,c2⟩,⟨d1,d2⟩,⟨e1,e2⟩,⟨f1,f2⟩,⟨g1,g2⟩,⟨h1,h2⟩,⟨i1,i2⟩,hg⟩:=hp
 have hW:=cntW_le s.ew s.el s.eo s.whole s.rest
 have hD:=up_le (cntW s.ew s.el s.eo s.whole s.rest) (cntL s.el s.eo s.rest)
 rw [wrap_id (n:=s.idx+1) (by omega) (by omega),up_eq (w:=cntW s.ew s.el s.eo s.whole s.rest) (by omega) (by omega)]
 rw [show upC (cntW s.ew s.el s.eo s.whole s.rest) (cntL s.el s.eo s.rest)=deadS s from rfl] at hD ⊢
 rw [wrap_id (n:=deadS s-cntW s.ew s.el s.eo s.whole s.rest) (by omega) (by omega),show decide (CntOk s.ew s.el s.eo s.whole s.rest)=true from decide_eq_true ⟨by omega,by omega,by omega,by omega,by omega,by omega,by omega⟩]
 by_cases q:s.idx+1>1099511627776
 ·rw [decide_eq_true q]
  simp only [advN,advX,decide_eq_true q,cond_true]
  repeat' first|trivial|rfl|apply And.intro
 ·rw [decide_eq_false q]
  cases hE:s.E==s.P
  ·cases hn:noG s
   ·rw [show (!(s.gw==0&&(s.gl==0&&(s.go==0&&true))))=true by rw [show (s.gw==0&&(s.gl==0&&(s.go==0&&true)))=false from hn];rfl]
    obtain ⟨⟨k1,k2⟩,k3,k4,k5⟩:=hg hn
    refine ⟨⟨(s.gw,s.gl,0),⟨⟨g1,g2⟩,⟨h1,k5⟩,rfl⟩,by repeat' first|trivial|rfl|apply And.intro⟩, ?_⟩
    rintro ⟨w,l,gr⟩ ⟨⟨x1,x2⟩,⟨x3,x4⟩,hs⟩
    dsimp only at x1 x2 x3 x4 hs ⊢
    rw [up_eq (w:=w) x1 (by omega)]
    have hu:=up_le w l
    have hw:=cntW_le w l s.go s.long s.part
    have hl:=cntL_le x3 x4 k3 k4
    by_cases r:upC w l>=deadS s
    ·rw [decide_eq_true r]
     have hG:advG s=(w,l):=by
      unfold advG
      rw [hE,hn,cond_false,cond_false,hs]
      cases (deadS s-w).toNat with
      |zero=>rfl
      |succ n=>simp only [grpN,decide_eq_true r,cond_true]
     simp only [advN,advX,decide_eq_false q,cond_false,hE,hn,hG]
     repeat' first|trivial|rfl|apply And.intro
    ·rw [decide_eq_false r,show decide (CntOk w l s.go s.long s.part)=true from decide_eq_true ⟨by omega,by omega,by omega,by omega,by omega,by omega,by omega⟩]
     refine ⟨(cntW w l s.go s.long s.part,cntL l s.go s.part,upC w l),⟨⟨by dsimp only;omega,by dsimp only;omega⟩,hl, ?_⟩,by dsimp only;omega,by repeat' first|trivial|rfl|apply And.intro⟩
     rw [hs]
     have fuel: ∀(n m:Nat) (w l:Int),0<=l/\ l<=s.go->deadS s-w<=n->deadS s-w<=m->grpN s.long s.part s.go (deadS s) n w l=grpN s.long s.part s.go (deadS s) m w l:=by
      intro n
      induction n with
      |zero=>
       intro m w l _ h1 h2
       cases m with
       |zero=>rfl
       |succ m=>simp only [grpN];rw [decide_eq_true (show upC w l>=deadS s by have:=up_le w l;omega)];rfl
      |succ n ih=>
       intro m w l hl h1 h2
       cases m with
       |zero=>simp only [grpN];rw [decide_eq_true (show upC w l>=deadS s by have:=up_le w l;omega)];rfl
       |succ m=>
        simp only [grpN]
        have:=cntW_le w l s.go s.long s.part
        rw [ih m _ _ (cntL_le hl.1 hl.2 k3 k4) (by omega) (by omega)]
     obtain ⟨n,hn1⟩: ∃n,(deadS s-w).toNat=n+1:=⟨(deadS s-w).toNat-1,by omega⟩
     rw [hn1]
     simp only [grpN,decide_eq_false r,cond_false]
     exact fuel _ _ _ _ hl (by omega) (by omega)
   ·rw [show (!(s.gw==0&&(s.gl==0&&(s.go==0&&true))))=false by rw [show (s.gw==0&&(s.gl==0&&(s.go==0&&true)))=true from hn];rfl]
    simp only [advN,advX,advG,decide_eq_false q,cond_false,cond_true,hE,hn]
    repeat' first|trivial|rfl|apply And.intro
  ·simp only [advN,advX,advG,decide_eq_false q,cond_false,cond_true,hE]
   repeat' first|trivial|rfl|apply And.intro
set_option maxHeartbeats 4000000 in
noncomputable def advSCon:Con T O:=fun args cs=>match args,cs with
 |[.ptr 0 0],[.cells [.raw (.int .i64 s_0), .raw (.int .i64 s_1), .raw (.int .i64 s_2), .raw (.int .i64 s_3), .raw (.int .i64 s_4), .raw (.int .i64 s_5), .raw (.int .i64 s_6), .raw (.int .i64 s_7), .raw (.int .i64 s_8), .raw (.int .i64 s_9), .raw (.int .i64 s_10), .raw (.int .i64 s_11), .raw (.int .i64 s_12), .raw (.int .i64 s_13), .raw (.int .i64 s_14), .raw (.int .i64 s_15), .raw (.int .i64 s_16), .raw (.int .i64 s_17), .raw (.int .i64 s_18)] 226]=>chk (decide (AdvP (⟨s_0,s_1,s_2,s_3,s_4,s_5,s_6,s_7,s_8,s_9,s_10,s_11,s_12,s_13,s_14,s_15,s_16,s_17,s_18⟩:Stp))) (.ret (advSE0 (⟨s_0,s_1,s_2,s_3,s_4,s_5,s_6,s_7,s_8,s_9,s_10,s_11,s_12,s_13,s_14,s_15,s_16,s_17,s_18⟩:Stp)))
 |_,_=> .fail
theorem advSOk:ConOk R Tryz.prog 152 advSCon:=con_of_fn R (X20) (good (X20) rfl (TabOk.con R X20Ok)) mixed Tryz.call152 Tryz.func152 advSCon (by
 intro args cs K h
 unfold advSCon at h
 split at h
 ·rename_i s_0 s_1 s_2 s_3 s_4 s_5 s_6 s_7 s_8 s_9 s_10 s_11 s_12 s_13 s_14 s_15 s_16 s_17 s_18
  rw [Tree.holds_chk] at h
  obtain ⟨hp,h⟩:=h
  refine ⟨(advSA (⟨s_0,s_1,s_2,s_3,s_4,s_5,s_6,s_7,s_8,s_9,s_10,s_11,s_12,s_13,s_14,s_15,s_16,s_17,s_18⟩:Stp)),_,fun v S hv=>⟨_,h,hv⟩, ?_⟩
  have hv:=advSVc (⟨s_0,s_1,s_2,s_3,s_4,s_5,s_6,s_7,s_8,s_9,s_10,s_11,s_12,s_13,s_14,s_15,s_16,s_17,s_18⟩:Stp)
  unfold cs0 at hv
  rw [hv]
  exact advSHolds (⟨s_0,s_1,s_2,s_3,s_4,s_5,s_6,s_7,s_8,s_9,s_10,s_11,s_12,s_13,s_14,s_15,s_16,s_17,s_18⟩:Stp) (of_decide_eq_true hp)
 ·exact h.elim)
noncomputable def tab21:Tab T O:=(152,advSCon)::tab20
theorem tabOk21:TabOk R Tryz.prog tab21:=TabOk.cons R advSOk<|tabOk20
noncomputable def X21:Ctx T O:= { X0 with con:=conOf tab21 }
theorem X21Ok:TabOk R X21.P tab21:=tabOk21
end Go.Proofs.YtlfjbnflfdnoaaaGreat
namespace Go.Proofs.YtlfjbnflfdnoaaaGreat
open Go.Sx Go.Proofs Classical
def addW (a b:Int):Int:=IntKind.i64.wrap (a+b)
def peekS (s:Stp):Sub:=bif s.sub.Index==0 then ⟨0,0,0,0,0⟩ else ⟨s.sub.Index,addW s.sub.Release s.off,addW s.sub.Deadline s.off,s.sub.Bit,bif decide (s.sub.Group>0) then addW s.sub.Group s.off else s.sub.Group⟩
def nextS (s:Stp):Stp:=bif decide ((peekS s).Index>0) then advN s else s
def shiftB (s:Stp) (n:Int):Bool:= !(s.P==0)&& !decide (n<0)&& !decide (n>IntKind.i64.wrap (2305843009213693952-s.off))
def shiftS (s:Stp) (n:Int):Stp:=bif shiftB s n then { s with off:=addW s.off n } else s
def light0 (E P:Int):Bool:=windowHeavy E P&&decide (IntKind.i64.wrap (P-E)>0)
def st0 (E P off:Int):Stp:=⟨E,P,off,0,IntKind.i64.wrap (P.tdiv E),P.tmod E,0,0,E,bif light0 E P then IntKind.i64.wrap (P.tdiv (IntKind.i64.wrap (P-E))) else 0,bif light0 E P then P.tmod (IntKind.i64.wrap (P-E)) else 0,0,0,bif light0 E P then IntKind.i64.wrap (P-E) else 0,⟨0,0,0,0,0⟩⟩
theorem div_bounds {a b:Int} (h1:1<=b) (h2:b<=a) (h3:a<=1048576):(1<=a.tdiv b/\ a.tdiv b<=1048576)/\ 0<=a.tmod b/\ a.tmod b<b:=by
 rw [Int.tdiv_eq_ediv_of_nonneg (by omega),Int.tmod_eq_emod_of_nonneg (by omega)]
 refine ⟨⟨?_, ?_⟩,Int.emod_nonneg _ (by omega),Int.emod_lt_of_pos _ (by omega)⟩
 ·exact (Int.le_ediv_iff_mul_le (by omega)).2 (by omega)
 ·exact Int.le_trans (Int.ediv_le_self _ (by omega)) h3
theorem check_iff {E P:Int} (h:windowCheck E P=true):1<=E/\ E<=P/\ P<=1048576:=by
 unfold windowCheck at h
 by_cases h1:E>=1
 ·by_cases h2:E<=P
  ·rw [decide_eq_true h1,decide_eq_true h2] at h
   exact ⟨h1,h2,of_decide_eq_true h⟩
  ·rw [decide_eq_true h1,decide_eq_false h2] at h;cases h
 ·rw [decide_eq_false h1] at h;cases h
theorem st0_ok {E P off:Int} (h:windowCheck E P=true):AdvP (st0 E P off):=by
 obtain ⟨h1,h2,h3⟩:=check_iff h
 have d1:=div_bounds h1 h2 h3
 have w1:IntKind.i64.wrap (P.tdiv E)=P.tdiv E:=wrap_id (by omega) (by omega)
 have w2:IntKind.i64.wrap (P-E)=P-E:=wrap_id (by omega) (by omega)
 cases hl:light0 E P
 ·refine ⟨by simp [st0],by simp [st0],by simp only [st0,w1];omega,by simp [st0],by simp only [st0];omega,by simp only [st0];omega,by simp [st0],by simp [st0],by simp [st0,hl],fun hn=> ?_⟩
  simp [noG,st0,hl] at hn
 ·have hgt:P-E>0:=by
   unfold light0 at hl
   rw [w2] at hl
   simp only [Bool.and_eq_true,decide_eq_true_eq] at hl
   exact hl.2
  have d2:=div_bounds (a:=P) (b:=P-E) (by omega) (by omega) h3
  have w3:IntKind.i64.wrap (P.tdiv (P-E))=P.tdiv (P-E):=wrap_id (by omega) (by omega)
  refine ⟨by simp [st0],by simp [st0],by simp only [st0,w1];omega,by simp [st0],by simp only [st0];omega,by simp only [st0];omega,by simp [st0],by simp [st0],by simp only [st0,hl,w2,cond_true];omega,fun _=> ?_⟩
  simp only [st0,hl,w2,w3,cond_true]
  omega
noncomputable def peekE0 (s:Stp):Eff T O:=⟨some (.agg [.raw (.int .i64 ((peekS s).Index)), .raw (.int .i64 ((peekS s).Release)), .raw (.int .i64 ((peekS s).Deadline)), .raw (.int .i64 ((peekS s).Bit)), .raw (.int .i64 ((peekS s).Group))]),[]⟩
def peekText (s:Stp):Prop:=let q0:=(((s.E=s.E)/\ ((s.P=s.P)/\ ((s.off=s.off)/\ ((s.idx=s.idx)/\ ((s.whole=s.whole)/\ ((s.rest=s.rest)/\ ((s.ew=s.ew)/\ ((s.el=s.el)/\ ((s.eo=s.eo)/\ ((s.long=s.long)/\ ((s.part=s.part)/\ ((s.gw=s.gw)/\ ((s.gl=s.gl)/\ ((s.go=s.go)/\ ((s.sub.Index=s.sub.Index)/\ ((s.sub.Release=s.sub.Release)/\ ((s.sub.Deadline=s.sub.Deadline)/\ ((s.sub.Bit=s.sub.Bit)/\ ((s.sub.Group=s.sub.Group)/\ True)))))))))))))))))))/\ True);let q1:=((peekS s).Deadline=IntKind.i64.wrap (s.sub.Deadline+s.off));let q2:=((peekS s).Release=IntKind.i64.wrap (s.sub.Release+s.off));(match (s.sub.Index==(0:Int)) with|true=>(((((peekS s).Index=(0:Int))/\ (((peekS s).Release=(0:Int))/\ (((peekS s).Deadline=(0:Int))/\ (((peekS s).Bit=(0:Int))/\ (((peekS s).Group=(0:Int))/\ True)))))/\ True)/\ q0)|false=>(match (decide (s.sub.Group>(0:Int))) with|true=>(((((peekS s).Index=s.sub.Index)/\ (q2/\ (q1/\ (((peekS s).Bit=s.sub.Bit)/\ (((peekS s).Group=IntKind.i64.wrap (s.sub.Group+s.off))/\ True)))))/\ True)/\ q0)|false=>(((((peekS s).Index=s.sub.Index)/\ (q2/\ (q1/\ (((peekS s).Bit=s.sub.Bit)/\ (((peekS s).Group=s.sub.Group)/\ True)))))/\ True)/\ q0)))
theorem peekVc (s:Stp):fnX X21 (noAnn) Tryz.f109 [.ptr 0 0] (cs0 s) (ends (cs0 s) (peekE0 s))=peekText s:=by kernel_rfl
theorem peekHolds (s:Stp):peekText s:=by
 unfold peekText
 conv=>zeta
 cases h:s.sub.Index==0
 ·cases h2:decide (s.sub.Group>0)<;>(simp only [peekS,h,h2,cond_false,cond_true,addW];repeat' first|trivial|rfl|apply And.intro)
 ·simp only [peekS,h,cond_true]
  repeat' first|trivial|rfl|apply And.intro
set_option maxHeartbeats 4000000 in
noncomputable def peekCon:Con T O:=fun args cs=>match args,cs with
 |[.ptr 0 0],[.cells [.raw (.int .i64 s_0), .raw (.int .i64 s_1), .raw (.int .i64 s_2), .raw (.int .i64 s_3), .raw (.int .i64 s_4), .raw (.int .i64 s_5), .raw (.int .i64 s_6), .raw (.int .i64 s_7), .raw (.int .i64 s_8), .raw (.int .i64 s_9), .raw (.int .i64 s_10), .raw (.int .i64 s_11), .raw (.int .i64 s_12), .raw (.int .i64 s_13), .raw (.int .i64 s_14), .raw (.int .i64 s_15), .raw (.int .i64 s_16), .raw (.int .i64 s_17), .raw (.int .i64 s_18)] 226]=> .ret (peekE0 (⟨s_0,s_1,s_2,s_3,s_4,s_5,s_6,s_7,s_8,s_9,s_10,s_11,s_12,s_13,s_14,s_15,s_16,s_17,s_18⟩:Stp))
 |_,_=> .fail
theorem peekOk:ConOk R Tryz.prog 109 peekCon:=con_of_fn R (X21) (good (X21) rfl (TabOk.con R X21Ok)) mixed Tryz.call109 Tryz.func109 peekCon (by
 intro args cs K h
 unfold peekCon at h
 split at h
 ·rename_i s_0 s_1 s_2 s_3 s_4 s_5 s_6 s_7 s_8 s_9 s_10 s_11 s_12 s_13 s_14 s_15 s_16 s_17 s_18
  refine ⟨noAnn,_,fun v S hv=>⟨_,h,hv⟩, ?_⟩
  have hv:=peekVc (⟨s_0,s_1,s_2,s_3,s_4,s_5,s_6,s_7,s_8,s_9,s_10,s_11,s_12,s_13,s_14,s_15,s_16,s_17,s_18⟩:Stp)
  unfold cs0 at hv
  rw [hv]
  exact peekHolds (⟨s_0,s_1,s_2,s_3,s_4,s_5,s_6,s_7,s_8,s_9,s_10,s_11,s_12,s_13,s_14,s_15,s_16,s_17,s_18⟩:Stp)
 ·exact h.elim)
noncomputable def shiftE0 (s:Stp) (n:Int):Eff T O:=⟨some (.raw (.bool (shiftB s n))),[(0,some (.cells [.raw (.int .i64 ((shiftS s n).E)), .raw (.int .i64 ((shiftS s n).P)), .raw (.int .i64 ((shiftS s n).off)), .raw (.int .i64 ((shiftS s n).idx)), .raw (.int .i64 ((shiftS s n).whole)), .raw (.int .i64 ((shiftS s n).rest)), .raw (.int .i64 ((shiftS s n).ew)), .raw (.int .i64 ((shiftS s n).el)), .raw (.int .i64 ((shiftS s n).eo)), .raw (.int .i64 ((shiftS s n).long)), .raw (.int .i64 ((shiftS s n).part)), .raw (.int .i64 ((shiftS s n).gw)), .raw (.int .i64 ((shiftS s n).gl)), .raw (.int .i64 ((shiftS s n).go)), .raw (.int .i64 ((shiftS s n).sub.Index)), .raw (.int .i64 ((shiftS s n).sub.Release)), .raw (.int .i64 ((shiftS s n).sub.Deadline)), .raw (.int .i64 ((shiftS s n).sub.Bit)), .raw (.int .i64 ((shiftS s n).sub.Group))] 226))]⟩
def shiftText (s:Stp) (n:Int):Prop:=let q0:=(((shiftS s n).idx=s.idx)/\ (((shiftS s n).whole=s.whole)/\ (((shiftS s n).rest=s.rest)/\ (((shiftS s n).ew=s.ew)/\ (((shiftS s n).el=s.el)/\ (((shiftS s n).eo=s.eo)/\ (((shiftS s n).long=s.long)/\ (((shiftS s n).part=s.part)/\ (((shiftS s n).gw=s.gw)/\ (((shiftS s n).gl=s.gl)/\ (((shiftS s n).go=s.go)/\ (((shiftS s n).sub.Index=s.sub.Index)/\ (((shiftS s n).sub.Release=s.sub.Release)/\ (((shiftS s n).sub.Deadline=s.sub.Deadline)/\ (((shiftS s n).sub.Bit=s.sub.Bit)/\ (((shiftS s n).sub.Group=s.sub.Group)/\ True))))))))))))))));let q1:=(((shiftB s n=false)/\ True)/\ ((((shiftS s n).E=s.E)/\ (((shiftS s n).P=s.P)/\ (((shiftS s n).off=s.off)/\ q0)))/\ True));(match (s.P==(0:Int)) with|true=>q1|false=>(match (decide (n<(0:Int))) with|true=>q1|false=>(match (decide (n>IntKind.i64.wrap ((2305843009213693952:Int)-s.off))) with|true=>q1|false=>(((shiftB s n=true)/\ True)/\ ((((shiftS s n).E=s.E)/\ (((shiftS s n).P=s.P)/\ (((shiftS s n).off=IntKind.i64.wrap (s.off+n))/\ q0)))/\ True)))))
theorem shiftVc (s:Stp) (n:Int):fnX X21 (noAnn) Tryz.f110 [.ptr 0 0, .raw (.int .i64 n)] (cs0 s) (ends (cs0 s) (shiftE0 s n))=shiftText s n:=by kernel_rfl
theorem shiftHolds (s:Stp) (n:Int):shiftText s n:=by
 unfold shiftText
 conv=>zeta
 cases h1:s.P==0<;>cases h2:decide (n<0)<;>cases h3:decide (n>IntKind.i64.wrap (2305843009213693952-s.off))<;>(simp only [shiftS,shiftB,h1,h2,h3,Bool.not_true,Bool.not_false,Bool.and_true,Bool.and_false,Bool.true_and,Bool.false_and,cond_false,cond_true,addW];repeat' first|trivial|rfl|apply And.intro)
set_option maxHeartbeats 4000000 in
noncomputable def shiftCon:Con T O:=fun args cs=>match args,cs with
 |[.ptr 0 0, .raw (.int .i64 n)],[.cells [.raw (.int .i64 s_0), .raw (.int .i64 s_1), .raw (.int .i64 s_2), .raw (.int .i64 s_3), .raw (.int .i64 s_4), .raw (.int .i64 s_5), .raw (.int .i64 s_6), .raw (.int .i64 s_7), .raw (.int .i64 s_8), .raw (.int .i64 s_9), .raw (.int .i64 s_10), .raw (.int .i64 s_11), .raw (.int .i64 s_12), .raw (.int .i64 s_13), .raw (.int .i64 s_14), .raw (.int .i64 s_15), .raw (.int .i64 s_16), .raw (.int .i64 s_17), .raw (.int .i64 s_18)] 226]=> .ret (shiftE0 (⟨s_0,s_1,s_2,s_3,s_4,s_5,s_6,s_7,s_8,s_9,s_10,s_11,s_12,s_13,s_14,s_15,s_16,s_17,s_18⟩:Stp) n)
 |_,_=> .fail
theorem shiftOk:ConOk R Tryz.prog 110 shiftCon:=con_of_fn R (X21) (good (X21) rfl (TabOk.con R X21Ok)) mixed Tryz.call110 Tryz.func110 shiftCon (by
 intro args cs K h
 unfold shiftCon at h
 split at h
 ·rename_i n s_0 s_1 s_2 s_3 s_4 s_5 s_6 s_7 s_8 s_9 s_10 s_11 s_12 s_13 s_14 s_15 s_16 s_17 s_18
  refine ⟨noAnn,_,fun v S hv=>⟨_,h,hv⟩, ?_⟩
  have hv:=shiftVc (⟨s_0,s_1,s_2,s_3,s_4,s_5,s_6,s_7,s_8,s_9,s_10,s_11,s_12,s_13,s_14,s_15,s_16,s_17,s_18⟩:Stp) n
  unfold cs0 at hv
  rw [hv]
  exact shiftHolds (⟨s_0,s_1,s_2,s_3,s_4,s_5,s_6,s_7,s_8,s_9,s_10,s_11,s_12,s_13,s_14,s_15,s_16,s_17,s_18⟩:Stp) n
 ·exact h.elim)
noncomputable def tab22:Tab T O:=(109,peekCon)::(110,shiftCon)::tab21
theorem tabOk22:TabOk R Tryz.prog tab22:=TabOk.cons R peekOk<|TabOk.cons R shiftOk<|tabOk21
noncomputable def X22:Ctx T O:= { X0 with con:=conOf tab22 }
theorem X22Ok:TabOk R X22.P tab22:=tabOk22
end Go.Proofs.YtlfjbnflfdnoaaaGreat
namespace Go.Proofs.YtlfjbnflfdnoaaaGreat
open Go.Sx Go.Proofs Classical
noncomputable def nextStE0 (s:Stp):Eff T O:=⟨some (.agg [.raw (.int .i64 ((peekS s).Index)), .raw (.int .i64 ((peekS s).Release)), .raw (.int .i64 ((peekS s).Deadline)), .raw (.int .i64 ((peekS s).Bit)), .raw (.int .i64 ((peekS s).Group))]),[(0,some (.cells [.raw (.int .i64 ((nextS s).E)), .raw (.int .i64 ((nextS s).P)), .raw (.int .i64 ((nextS s).off)), .raw (.int .i64 ((nextS s).idx)), .raw (.int .i64 ((nextS s).whole)), .raw (.int .i64 ((nextS s).rest)), .raw (.int .i64 ((nextS s).ew)), .raw (.int .i64 ((nextS s).el)), .raw (.int .i64 ((nextS s).eo)), .raw (.int .i64 ((nextS s).long)), .raw (.int .i64 ((nextS s).part)), .raw (.int .i64 ((nextS s).gw)), .raw (.int .i64 ((nextS s).gl)), .raw (.int .i64 ((nextS s).go)), .raw (.int .i64 ((nextS s).sub.Index)), .raw (.int .i64 ((nextS s).sub.Release)), .raw (.int .i64 ((nextS s).sub.Deadline)), .raw (.int .i64 ((nextS s).sub.Bit)), .raw (.int .i64 ((nextS s).sub.Group))] 226))]⟩
def nextStText (s:Stp):Prop:=let q0:=((((peekS s).Index=(peekS s).Index)/\ (((peekS s).Release=(peekS s).Release)/\ (((peekS s).Deadline=(peekS s).Deadline)/\ (((peekS s).Bit=(peekS s).Bit)/\ (((peekS s).Group=(peekS s).Group)/\ True)))))/\ True);(match (decide ((peekS s).Index>(0:Int))) with|true=>(match (decide (AdvP s)) with|true=>(q0/\ ((((nextS s).E=(advN s).E)/\ (((nextS s).P=(advN s).P)/\ (((nextS s).off=(advN s).off)/\ (((nextS s).idx=(advN s).idx)/\ (((nextS s).whole=(advN s).whole)/\ (((nextS s).rest=(advN s).rest)/\ (((nextS s).ew=(advN s).ew)/\ (((nextS s).el=(advN s).el)/\ (((nextS s).eo=(advN s).eo)/\ (((nextS s).long=(advN s).long)/\ (((nextS s).part=(advN s).part)/\ (((nextS s).gw=(advN s).gw)/\ (((nextS s).gl=(advN s).gl)/\ (((nextS s).go=(advN s).go)/\ (((nextS s).sub.Index=(advN s).sub.Index)/\ (((nextS s).sub.Release=(advN s).sub.Release)/\ (((nextS s).sub.Deadline=(advN s).sub.Deadline)/\ (((nextS s).sub.Bit=(advN s).sub.Bit)/\ (((nextS s).sub.Group=(advN s).sub.Group)/\ True)))))))))))))))))))/\ True))|false=>False)|false=>(q0/\ ((((nextS s).E=s.E)/\ (((nextS s).P=s.P)/\ (((nextS s).off=s.off)/\ (((nextS s).idx=s.idx)/\ (((nextS s).whole=s.whole)/\ (((nextS s).rest=s.rest)/\ (((nextS s).ew=s.ew)/\ (((nextS s).el=s.el)/\ (((nextS s).eo=s.eo)/\ (((nextS s).long=s.long)/\ (((nextS s).part=s.part)/\ (((nextS s).gw=s.gw)/\ (((nextS s).gl=s.gl)/\ (((nextS s).go=s.go)/\ (((nextS s).sub.Index=s.sub.Index)/\ (((nextS s).sub.Release=s.sub.Release)/\ (((nextS s).sub.Deadline=s.sub.Deadline)/\ (((nextS s).sub.Bit=s.sub.Bit)/\ (((nextS s).sub.Group=s.sub.Group)/\ True)))))))))))))))))))/\ True)))
theorem nextStVc (s:Stp):fnX X22 (noAnn) Tryz.f111 [.ptr 0 0] (cs0 s) (ends (cs0 s) (nextStE0 s))=nextStText s:=by kernel_rfl
theorem nextStHolds (s:Stp) (hp:AdvP s):nextStText s:=by
 unfold nextStText
 conv=>zeta
 cases h:decide ((peekS s).Index>0)
 ·simp only [nextS,h,cond_false]
  repeat' first|trivial|rfl|apply And.intro
 ·rw [decide_eq_true hp]
  simp only [nextS,h,cond_true]
  repeat' first|trivial|rfl|apply And.intro
set_option maxHeartbeats 4000000 in
noncomputable def nextStCon:Con T O:=fun args cs=>match args,cs with
 |[.ptr 0 0],[.cells [.raw (.int .i64 s_0), .raw (.int .i64 s_1), .raw (.int .i64 s_2), .raw (.int .i64 s_3), .raw (.int .i64 s_4), .raw (.int .i64 s_5), .raw (.int .i64 s_6), .raw (.int .i64 s_7), .raw (.int .i64 s_8), .raw (.int .i64 s_9), .raw (.int .i64 s_10), .raw (.int .i64 s_11), .raw (.int .i64 s_12), .raw (.int .i64 s_13), .raw (.int .i64 s_14), .raw (.int .i64 s_15), .raw (.int .i64 s_16), .raw (.int .i64 s_17), .raw (.int .i64 s_18)] 226]=>chk (decide (AdvP (⟨s_0,s_1,s_2,s_3,s_4,s_5,s_6,s_7,s_8,s_9,s_10,s_11,s_12,s_13,s_14,s_15,s_16,s_17,s_18⟩:Stp))) (.ret (nextStE0 (⟨s_0,s_1,s_2,s_3,s_4,s_5,s_6,s_7,s_8,s_9,s_10,s_11,s_12,s_13,s_14,s_15,s_16,s_17,s_18⟩:Stp)))
 |_,_=> .fail
theorem nextStOk:ConOk R Tryz.prog 111 nextStCon:=con_of_fn R (X22) (good (X22) rfl (TabOk.con R X22Ok)) mixed Tryz.call111 Tryz.func111 nextStCon (by
 intro args cs K h
 unfold nextStCon at h
 split at h
 ·rename_i s_0 s_1 s_2 s_3 s_4 s_5 s_6 s_7 s_8 s_9 s_10 s_11 s_12 s_13 s_14 s_15 s_16 s_17 s_18
  rw [Tree.holds_chk] at h
  obtain ⟨hp,h⟩:=h
  refine ⟨noAnn,_,fun v S hv=>⟨_,h,hv⟩, ?_⟩
  have hv:=nextStVc (⟨s_0,s_1,s_2,s_3,s_4,s_5,s_6,s_7,s_8,s_9,s_10,s_11,s_12,s_13,s_14,s_15,s_16,s_17,s_18⟩:Stp)
  unfold cs0 at hv
  rw [hv]
  exact nextStHolds (⟨s_0,s_1,s_2,s_3,s_4,s_5,s_6,s_7,s_8,s_9,s_10,s_11,s_12,s_13,s_14,s_15,s_16,s_17,s_18⟩:Stp) (of_decide_eq_true hp)
 ·exact h.elim)
noncomputable def tab23:Tab T O:=(111,nextStCon)::tab22
theorem tabOk23:TabOk R Tryz.prog tab23:=TabOk.cons R nextStOk<|tabOk22
noncomputable def X23:Ctx T O:= { X0 with con:=conOf tab23 }
theorem X23Ok:TabOk R X23.P tab23:=tabOk23
end Go.Proofs.YtlfjbnflfdnoaaaGreat
namespace Go.Proofs.YtlfjbnflfdnoaaaGreat
open Go.Sx Go.Proofs Classical
noncomputable def newSE0 (E:Int) (P:Int) (off:Int):Eff T O:=⟨some (.ptr 0 0),[(0,some (.cells [.raw (.int .i64 ((advN (st0 E P off)).E)), .raw (.int .i64 ((advN (st0 E P off)).P)), .raw (.int .i64 ((advN (st0 E P off)).off)), .raw (.int .i64 ((advN (st0 E P off)).idx)), .raw (.int .i64 ((advN (st0 E P off)).whole)), .raw (.int .i64 ((advN (st0 E P off)).rest)), .raw (.int .i64 ((advN (st0 E P off)).ew)), .raw (.int .i64 ((advN (st0 E P off)).el)), .raw (.int .i64 ((advN (st0 E P off)).eo)), .raw (.int .i64 ((advN (st0 E P off)).long)), .raw (.int .i64 ((advN (st0 E P off)).part)), .raw (.int .i64 ((advN (st0 E P off)).gw)), .raw (.int .i64 ((advN (st0 E P off)).gl)), .raw (.int .i64 ((advN (st0 E P off)).go)), .raw (.int .i64 ((advN (st0 E P off)).sub.Index)), .raw (.int .i64 ((advN (st0 E P off)).sub.Release)), .raw (.int .i64 ((advN (st0 E P off)).sub.Deadline)), .raw (.int .i64 ((advN (st0 E P off)).sub.Bit)), .raw (.int .i64 ((advN (st0 E P off)).sub.Group))] 226))]⟩
def newSText (E P off:Int):Prop:=let q3:=(Sub.mk (0:Int) (0:Int) (0:Int) (0:Int) (0:Int));let q0:=(Stp.mk E P off (0:Int) (IntKind.i64.wrap (P.tdiv E)) (P.tmod E) (0:Int) (0:Int) E (0:Int) (0:Int) (0:Int) (0:Int) (0:Int) q3);let q1:=(Stp.mk E P off (0:Int) (IntKind.i64.wrap (P.tdiv E)) (P.tmod E) (0:Int) (0:Int) E (IntKind.i64.wrap (P.tdiv (IntKind.i64.wrap (P-E)))) (P.tmod (IntKind.i64.wrap (P-E))) (0:Int) (0:Int) (IntKind.i64.wrap (P-E)) q3);let q2:=(match (decide (AdvP q0)) with|true=>((True/\ True)/\ ((((advN (st0 E P off)).E=(advN q0).E)/\ (((advN (st0 E P off)).P=(advN q0).P)/\ (((advN (st0 E P off)).off=(advN q0).off)/\ (((advN (st0 E P off)).idx=(advN q0).idx)/\ (((advN (st0 E P off)).whole=(advN q0).whole)/\ (((advN (st0 E P off)).rest=(advN q0).rest)/\ (((advN (st0 E P off)).ew=(advN q0).ew)/\ (((advN (st0 E P off)).el=(advN q0).el)/\ (((advN (st0 E P off)).eo=(advN q0).eo)/\ (((advN (st0 E P off)).long=(advN q0).long)/\ (((advN (st0 E P off)).part=(advN q0).part)/\ (((advN (st0 E P off)).gw=(advN q0).gw)/\ (((advN (st0 E P off)).gl=(advN q0).gl)/\ (((advN (st0 E P off)).go=(advN q0).go)/\ (((advN (st0 E P off)).sub.Index=(advN q0).sub.Index)/\ (((advN (st0 E P off)).sub.Release=(advN q0).sub.Release)/\ (((advN (st0 E P off)).sub.Deadline=(advN q0).sub.Deadline)/\ (((advN (st0 E P off)).sub.Bit=(advN q0).sub.Bit)/\ (((advN (st0 E P off)).sub.Group=(advN q0).sub.Group)/\ True)))))))))))))))))))/\ True))|false=>False);(match (!windowCheck E P) with|true=>False|false=>(match (decide (off<(0:Int))) with|true=>False|false=>(match (decide (off>(2305843009213693952:Int))) with|true=>False|false=>(match (E !=(0:Int)) with|true=>(match (E !=(0:Int)) with|true=>(match (windowHeavy E P) with|true=>(match (decide (IntKind.i64.wrap (P-E)>(0:Int))) with|true=>(match (IntKind.i64.wrap (P-E) !=(0:Int)) with|true=>(match (IntKind.i64.wrap (P-E) !=(0:Int)) with|true=>(match (decide (AdvP q1)) with|true=>((True/\ True)/\ ((((advN (st0 E P off)).E=(advN q1).E)/\ (((advN (st0 E P off)).P=(advN q1).P)/\ (((advN (st0 E P off)).off=(advN q1).off)/\ (((advN (st0 E P off)).idx=(advN q1).idx)/\ (((advN (st0 E P off)).whole=(advN q1).whole)/\ (((advN (st0 E P off)).rest=(advN q1).rest)/\ (((advN (st0 E P off)).ew=(advN q1).ew)/\ (((advN (st0 E P off)).el=(advN q1).el)/\ (((advN (st0 E P off)).eo=(advN q1).eo)/\ (((advN (st0 E P off)).long=(advN q1).long)/\ (((advN (st0 E P off)).part=(advN q1).part)/\ (((advN (st0 E P off)).gw=(advN q1).gw)/\ (((advN (st0 E P off)).gl=(advN q1).gl)/\ (((advN (st0 E P off)).go=(advN q1).go)/\ (((advN (st0 E P off)).sub.Index=(advN q1).sub.Index)/\ (((advN (st0 E P off)).sub.Release=(advN q1).sub.Release)/\ (((advN (st0 E P off)).sub.Deadline=(advN q1).sub.Deadline)/\ (((advN (st0 E P off)).sub.Bit=(advN q1).sub.Bit)/\ (((advN (st0 E P off)).sub.Group=(advN q1).sub.Group)/\ True)))))))))))))))))))/\ True))|false=>False)|false=>False)|false=>False)|false=>q2)|false=>q2)|false=>False)|false=>False))))
theorem newSVc (E P off:Int):fnX X23 (noAnn) Tryz.f107 [.agg [.raw (.int .i64 E), .raw (.int .i64 P)], .raw (.int .i64 off)] [] (ends [] (newSE0 E P off))=newSText E P off:=by kernel_rfl
theorem newSHolds (E P off:Int) (hp:windowCheck E P=true/\ 0<=off/\ off<=2305843009213693952):newSText E P off:=by
 unfold newSText
 conv=>zeta
 obtain ⟨hc,h1,h2⟩:=hp
 have hb:=check_iff hc
 have hA:=st0_ok (off:=off) hc
 have e1:(E !=0)=true:=by simp;omega
 have e2:IntKind.i64.wrap (P-E)=P-E:=wrap_id (by omega) (by omega)
 rw [hc,e1,show decide (off<0)=false from decide_eq_false (by omega),show decide (off>2305843009213693952)=false from decide_eq_false (by omega)]
 cases hh:windowHeavy E P
 ·have hs:light0 E P=false:=by unfold light0;rw [hh];rfl
  unfold st0 at hA ⊢
  rw [hs] at hA ⊢
  simp only [cond_false] at hA ⊢
  simp only [Bool.not_true]
  rw [decide_eq_true hA]
  repeat' first|trivial|rfl|apply And.intro
 ·cases hg:decide (IntKind.i64.wrap (P-E)>0)
  ·have hs:light0 E P=false:=by unfold light0;rw [hh,hg];rfl
   unfold st0 at hA ⊢
   rw [hs] at hA ⊢
   simp only [cond_false] at hA ⊢
   simp only [Bool.not_true]
   rw [decide_eq_true hA]
   repeat' first|trivial|rfl|apply And.intro
  ·have hs:light0 E P=true:=by unfold light0;rw [hh,hg];rfl
   have e3:(IntKind.i64.wrap (P-E) !=0)=true:=by
    have:=of_decide_eq_true hg
    simp;omega
   unfold st0 at hA ⊢
   rw [hs] at hA ⊢
   simp only [cond_true] at hA ⊢
   simp only [Bool.not_true]
   rw [e3,decide_eq_true hA]
   repeat' first|trivial|rfl|apply And.intro
noncomputable def newSCon:Con T O:=fun args cs=>match args,cs with
 |[.agg [.raw (.int .i64 E), .raw (.int .i64 P)], .raw (.int .i64 off)],[]=>chk (decide (windowCheck E P=true/\ 0<=off/\ off<=2305843009213693952)) (.ret (newSE0 E P off))
 |_,_=> .fail
theorem newSOk:ConOk R Tryz.prog 107 newSCon:=con_of_fn R (X23) (good (X23) rfl (TabOk.con R X23Ok)) mixed Tryz.call107 Tryz.func107 newSCon (by
 intro args cs K h
 unfold newSCon at h
 split at h
 ·rename_i E P off
  rw [Tree.holds_chk] at h
  obtain ⟨hp,h⟩:=h
  refine ⟨noAnn,_,fun v S hv=>⟨_,h,hv⟩, ?_⟩
  rw [newSVc E P off]
  exact newSHolds E P off (of_decide_eq_true hp)
 ·exact h.elim)
noncomputable def tab24:Tab T O:=(107,newSCon)::tab23
theorem tabOk24:TabOk R Tryz.prog tab24:=TabOk.cons R newSOk<|tabOk23
noncomputable def X24:Ctx T O:= { X0 with con:=conOf tab24 }
theorem X24Ok:TabOk R X24.P tab24:=tabOk24
end Go.Proofs.YtlfjbnflfdnoaaaGreat
namespace Go.Proofs.YtlfjbnflfdnoaaaGreat
open Go.Sx Go.Proofs Classical
abbrev subZ:Sub:=⟨0,0,0,0,0⟩
abbrev noSubs:List Sub:=[]
def headT (W:List Sub):Sub:=at' subZ W 0
def someT (W:List Sub):Bool:= !((W.length:Int)==0)
noncomputable def cs1 (E:Int) (P:Int) (te:Bool) (tc:Bool) (r:Sub) (dn:Int) (s:Stp) (W:List Sub):List (Chunk T O):=[.cells [.raw (.int .i64 E), .raw (.int .i64 P), .raw (.bool te), .raw (.bool tc), .ptr 1 0, .own 2, .raw (.int .i64 r.Index), .raw (.int .i64 r.Release), .raw (.int .i64 r.Deadline), .raw (.int .i64 r.Bit), .raw (.int .i64 r.Group), .raw (.int .i64 dn)] 179, .cells [.raw (.int .i64 s.E), .raw (.int .i64 s.P), .raw (.int .i64 s.off), .raw (.int .i64 s.idx), .raw (.int .i64 s.whole), .raw (.int .i64 s.rest), .raw (.int .i64 s.ew), .raw (.int .i64 s.el), .raw (.int .i64 s.eo), .raw (.int .i64 s.long), .raw (.int .i64 s.part), .raw (.int .i64 s.gw), .raw (.int .i64 s.gl), .raw (.int .i64 s.go), .raw (.int .i64 s.sub.Index), .raw (.int .i64 s.sub.Release), .raw (.int .i64 s.sub.Deadline), .raw (.int .i64 s.sub.Bit), .raw (.int .i64 s.sub.Group)] 226, .que 2 W 39]
def waitsTText (E P:Int) (te tc:Bool) (r:Sub) (dn:Int) (s:Stp) (W:List Sub):Prop:=((((↑W.length:Int)=(↑W.length:Int))/\ True)/\ (((E=E)/\ ((P=P)/\ ((te=te)/\ ((tc=tc)/\ (True/\ (True/\ ((r.Index=r.Index)/\ ((r.Release=r.Release)/\ ((r.Deadline=r.Deadline)/\ ((r.Bit=r.Bit)/\ ((r.Group=r.Group)/\ ((dn=dn)/\ True))))))))))))/\ (((s.E=s.E)/\ ((s.P=s.P)/\ ((s.off=s.off)/\ ((s.idx=s.idx)/\ ((s.whole=s.whole)/\ ((s.rest=s.rest)/\ ((s.ew=s.ew)/\ ((s.el=s.el)/\ ((s.eo=s.eo)/\ ((s.long=s.long)/\ ((s.part=s.part)/\ ((s.gw=s.gw)/\ ((s.gl=s.gl)/\ ((s.go=s.go)/\ ((s.sub.Index=s.sub.Index)/\ ((s.sub.Release=s.sub.Release)/\ ((s.sub.Deadline=s.sub.Deadline)/\ ((s.sub.Bit=s.sub.Bit)/\ ((s.sub.Group=s.sub.Group)/\ True)))))))))))))))))))/\ ((W=W)/\ True))))
theorem waitsTVc (E P:Int) (te tc:Bool) (r:Sub) (dn:Int) (s:Stp) (W:List Sub):fnX X24 (noAnn) Tryz.f60 [.ptr 0 0] (cs1 E P te tc r dn s W) (ends (cs1 E P te tc r dn s W) ⟨some (.raw (.int .i64 ((W.length:Int)))),[(2,some (.que 2 W 39))]⟩)=waitsTText E P te tc r dn s W:=by kernel_rfl
theorem waitsTHolds (E P:Int) (te tc:Bool) (r:Sub) (dn:Int) (s:Stp) (W:List Sub):waitsTText E P te tc r dn s W:=by
 unfold waitsTText
 repeat' first|trivial|rfl|apply And.intro
set_option maxHeartbeats 4000000 in
noncomputable def waitsTCon:Con T O:=fun args cs=>match args,cs with
 |[.ptr 0 0],[.cells [.raw (.int .i64 _), .raw (.int .i64 _), .raw (.bool _), .raw (.bool _), .ptr 1 0, .own 2, .raw (.int .i64 _), .raw (.int .i64 _), .raw (.int .i64 _), .raw (.int .i64 _), .raw (.int .i64 _), .raw (.int .i64 _)] 179, .cells [.raw (.int .i64 _), .raw (.int .i64 _), .raw (.int .i64 _), .raw (.int .i64 _), .raw (.int .i64 _), .raw (.int .i64 _), .raw (.int .i64 _), .raw (.int .i64 _), .raw (.int .i64 _), .raw (.int .i64 _), .raw (.int .i64 _), .raw (.int .i64 _), .raw (.int .i64 _), .raw (.int .i64 _), .raw (.int .i64 _), .raw (.int .i64 _), .raw (.int .i64 _), .raw (.int .i64 _), .raw (.int .i64 _)] 226, .que 2 W 39]=> .ret ⟨some (.raw (.int .i64 ((W.length:Int)))),[(2,some (.que 2 W 39))]⟩
 |_,_=> .fail
theorem waitsTOk:ConOk R Tryz.prog 60 waitsTCon:=con_of_fn R (X24) (good (X24) rfl (TabOk.con R X24Ok)) mixed Tryz.call60 Tryz.func60 waitsTCon (by
 intro args cs K h
 unfold waitsTCon at h
 split at h
 ·rename_i E P te tc r_0 r_1 r_2 r_3 r_4 dn s_0 s_1 s_2 s_3 s_4 s_5 s_6 s_7 s_8 s_9 s_10 s_11 s_12 s_13 s_14 s_15 s_16 s_17 s_18 W
  refine ⟨noAnn,_,fun v S hv=>⟨_,h,hv⟩, ?_⟩
  have hv:=waitsTVc E P te tc (⟨r_0,r_1,r_2,r_3,r_4⟩:Sub) dn (⟨s_0,s_1,s_2,s_3,s_4,s_5,s_6,s_7,s_8,s_9,s_10,s_11,s_12,s_13,s_14,s_15,s_16,s_17,s_18⟩:Stp) W
  unfold cs1 at hv
  rw [hv]
  exact waitsTHolds E P te tc (⟨r_0,r_1,r_2,r_3,r_4⟩:Sub) dn (⟨s_0,s_1,s_2,s_3,s_4,s_5,s_6,s_7,s_8,s_9,s_10,s_11,s_12,s_13,s_14,s_15,s_16,s_17,s_18⟩:Stp) W
 ·exact h.elim)
def weightTText (E P:Int) (te tc:Bool) (r:Sub) (dn:Int) (s:Stp) (W:List Sub):Prop:=((((E=E)/\ ((P=P)/\ True))/\ True)/\ (((E=E)/\ ((P=P)/\ ((te=te)/\ ((tc=tc)/\ (True/\ (True/\ ((r.Index=r.Index)/\ ((r.Release=r.Release)/\ ((r.Deadline=r.Deadline)/\ ((r.Bit=r.Bit)/\ ((r.Group=r.Group)/\ ((dn=dn)/\ True))))))))))))/\ (((s.E=s.E)/\ ((s.P=s.P)/\ ((s.off=s.off)/\ ((s.idx=s.idx)/\ ((s.whole=s.whole)/\ ((s.rest=s.rest)/\ ((s.ew=s.ew)/\ ((s.el=s.el)/\ ((s.eo=s.eo)/\ ((s.long=s.long)/\ ((s.part=s.part)/\ ((s.gw=s.gw)/\ ((s.gl=s.gl)/\ ((s.go=s.go)/\ ((s.sub.Index=s.sub.Index)/\ ((s.sub.Release=s.sub.Release)/\ ((s.sub.Deadline=s.sub.Deadline)/\ ((s.sub.Bit=s.sub.Bit)/\ ((s.sub.Group=s.sub.Group)/\ True)))))))))))))))))))/\ ((W=W)/\ True))))
theorem weightTVc (E P:Int) (te tc:Bool) (r:Sub) (dn:Int) (s:Stp) (W:List Sub):fnX X24 (noAnn) Tryz.f59 [.ptr 0 0] (cs1 E P te tc r dn s W) (ends (cs1 E P te tc r dn s W) ⟨some (.agg [.raw (.int .i64 E), .raw (.int .i64 P)]),[(2,some (.que 2 W 39))]⟩)=weightTText E P te tc r dn s W:=by kernel_rfl
theorem weightTHolds (E P:Int) (te tc:Bool) (r:Sub) (dn:Int) (s:Stp) (W:List Sub):weightTText E P te tc r dn s W:=by
 unfold weightTText
 repeat' first|trivial|rfl|apply And.intro
set_option maxHeartbeats 4000000 in
noncomputable def weightTCon:Con T O:=fun args cs=>match args,cs with
 |[.ptr 0 0],[.cells [.raw (.int .i64 E), .raw (.int .i64 P), .raw (.bool _), .raw (.bool _), .ptr 1 0, .own 2, .raw (.int .i64 _), .raw (.int .i64 _), .raw (.int .i64 _), .raw (.int .i64 _), .raw (.int .i64 _), .raw (.int .i64 _)] 179, .cells [.raw (.int .i64 _), .raw (.int .i64 _), .raw (.int .i64 _), .raw (.int .i64 _), .raw (.int .i64 _), .raw (.int .i64 _), .raw (.int .i64 _), .raw (.int .i64 _), .raw (.int .i64 _), .raw (.int .i64 _), .raw (.int .i64 _), .raw (.int .i64 _), .raw (.int .i64 _), .raw (.int .i64 _), .raw (.int .i64 _), .raw (.int .i64 _), .raw (.int .i64 _), .raw (.int .i64 _), .raw (.int .i64 _)] 226, .que 2 W 39]=> .ret ⟨some (.agg [.raw (.int .i64 E), .raw (.int .i64 P)]),[(2,some (.que 2 W 39))]⟩
 |_,_=> .fail
theorem weightTOk:ConOk R Tryz.prog 59 weightTCon:=con_of_fn R (X24) (good (X24) rfl (TabOk.con R X24Ok)) mixed Tryz.call59 Tryz.func59 weightTCon (by
 intro args cs K h
 unfold weightTCon at h
 split at h
 ·rename_i E P te tc r_0 r_1 r_2 r_3 r_4 dn s_0 s_1 s_2 s_3 s_4 s_5 s_6 s_7 s_8 s_9 s_10 s_11 s_12 s_13 s_14 s_15 s_16 s_17 s_18 W
  refine ⟨noAnn,_,fun v S hv=>⟨_,h,hv⟩, ?_⟩
  have hv:=weightTVc E P te tc (⟨r_0,r_1,r_2,r_3,r_4⟩:Sub) dn (⟨s_0,s_1,s_2,s_3,s_4,s_5,s_6,s_7,s_8,s_9,s_10,s_11,s_12,s_13,s_14,s_15,s_16,s_17,s_18⟩:Stp) W
  unfold cs1 at hv
  rw [hv]
  exact weightTHolds E P te tc (⟨r_0,r_1,r_2,r_3,r_4⟩:Sub) dn (⟨s_0,s_1,s_2,s_3,s_4,s_5,s_6,s_7,s_8,s_9,s_10,s_11,s_12,s_13,s_14,s_15,s_16,s_17,s_18⟩:Stp) W
 ·exact h.elim)
def doneTText (E P:Int) (te tc:Bool) (r:Sub) (dn:Int) (s:Stp) (W:List Sub):Prop:=(((dn=dn)/\ True)/\ (((E=E)/\ ((P=P)/\ ((te=te)/\ ((tc=tc)/\ (True/\ (True/\ ((r.Index=r.Index)/\ ((r.Release=r.Release)/\ ((r.Deadline=r.Deadline)/\ ((r.Bit=r.Bit)/\ ((r.Group=r.Group)/\ ((dn=dn)/\ True))))))))))))/\ (((s.E=s.E)/\ ((s.P=s.P)/\ ((s.off=s.off)/\ ((s.idx=s.idx)/\ ((s.whole=s.whole)/\ ((s.rest=s.rest)/\ ((s.ew=s.ew)/\ ((s.el=s.el)/\ ((s.eo=s.eo)/\ ((s.long=s.long)/\ ((s.part=s.part)/\ ((s.gw=s.gw)/\ ((s.gl=s.gl)/\ ((s.go=s.go)/\ ((s.sub.Index=s.sub.Index)/\ ((s.sub.Release=s.sub.Release)/\ ((s.sub.Deadline=s.sub.Deadline)/\ ((s.sub.Bit=s.sub.Bit)/\ ((s.sub.Group=s.sub.Group)/\ True)))))))))))))))))))/\ ((W=W)/\ True))))
theorem doneTVc (E P:Int) (te tc:Bool) (r:Sub) (dn:Int) (s:Stp) (W:List Sub):fnX X24 (noAnn) Tryz.f61 [.ptr 0 0] (cs1 E P te tc r dn s W) (ends (cs1 E P te tc r dn s W) ⟨some (.raw (.int .i64 dn)),[(2,some (.que 2 W 39))]⟩)=doneTText E P te tc r dn s W:=by kernel_rfl
theorem doneTHolds (E P:Int) (te tc:Bool) (r:Sub) (dn:Int) (s:Stp) (W:List Sub):doneTText E P te tc r dn s W:=by
 unfold doneTText
 repeat' first|trivial|rfl|apply And.intro
set_option maxHeartbeats 4000000 in
noncomputable def doneTCon:Con T O:=fun args cs=>match args,cs with
 |[.ptr 0 0],[.cells [.raw (.int .i64 _), .raw (.int .i64 _), .raw (.bool _), .raw (.bool _), .ptr 1 0, .own 2, .raw (.int .i64 _), .raw (.int .i64 _), .raw (.int .i64 _), .raw (.int .i64 _), .raw (.int .i64 _), .raw (.int .i64 dn)] 179, .cells [.raw (.int .i64 _), .raw (.int .i64 _), .raw (.int .i64 _), .raw (.int .i64 _), .raw (.int .i64 _), .raw (.int .i64 _), .raw (.int .i64 _), .raw (.int .i64 _), .raw (.int .i64 _), .raw (.int .i64 _), .raw (.int .i64 _), .raw (.int .i64 _), .raw (.int .i64 _), .raw (.int .i64 _), .raw (.int .i64 _), .raw (.int .i64 _), .raw (.int .i64 _), .raw (.int .i64 _), .raw (.int .i64 _)] 226, .que 2 W 39]=> .ret ⟨some (.raw (.int .i64 dn)),[(2,some (.que 2 W 39))]⟩
 |_,_=> .fail
theorem doneTOk:ConOk R Tryz.prog 61 doneTCon:=con_of_fn R (X24) (good (X24) rfl (TabOk.con R X24Ok)) mixed Tryz.call61 Tryz.func61 doneTCon (by
 intro args cs K h
 unfold doneTCon at h
 split at h
 ·rename_i E P te tc r_0 r_1 r_2 r_3 r_4 dn s_0 s_1 s_2 s_3 s_4 s_5 s_6 s_7 s_8 s_9 s_10 s_11 s_12 s_13 s_14 s_15 s_16 s_17 s_18 W
  refine ⟨noAnn,_,fun v S hv=>⟨_,h,hv⟩, ?_⟩
  have hv:=doneTVc E P te tc (⟨r_0,r_1,r_2,r_3,r_4⟩:Sub) dn (⟨s_0,s_1,s_2,s_3,s_4,s_5,s_6,s_7,s_8,s_9,s_10,s_11,s_12,s_13,s_14,s_15,s_16,s_17,s_18⟩:Stp) W
  unfold cs1 at hv
  rw [hv]
  exact doneTHolds E P te tc (⟨r_0,r_1,r_2,r_3,r_4⟩:Sub) dn (⟨s_0,s_1,s_2,s_3,s_4,s_5,s_6,s_7,s_8,s_9,s_10,s_11,s_12,s_13,s_14,s_15,s_16,s_17,s_18⟩:Stp) W
 ·exact h.elim)
noncomputable def tab25:Tab T O:=(60,waitsTCon)::(59,weightTCon)::(61,doneTCon)::tab24
theorem tabOk25:TabOk R Tryz.prog tab25:=TabOk.cons R waitsTOk<|TabOk.cons R weightTOk<|TabOk.cons R doneTOk<|tabOk24
noncomputable def X25:Ctx T O:= { X0 with con:=conOf tab25 }
theorem X25Ok:TabOk R X25.P tab25:=tabOk25
end Go.Proofs.YtlfjbnflfdnoaaaGreat
namespace Go.Proofs.YtlfjbnflfdnoaaaGreat
open Go.Sx Go.Proofs Classical
noncomputable def headCE0 (W:List Sub):Eff T O:=⟨some (.tup [.agg [.raw (.int .i64 ((headT W).Index)), .raw (.int .i64 ((headT W).Release)), .raw (.int .i64 ((headT W).Deadline)), .raw (.int .i64 ((headT W).Bit)), .raw (.int .i64 ((headT W).Group))], .raw (.bool (someT W))]),[(2,some (.que 2 W 39))]⟩
def headCText (E P:Int) (te tc:Bool) (r:Sub) (dn:Int) (s:Stp) (W:List Sub):Prop:=let q0:=(((E=E)/\ ((P=P)/\ ((te=te)/\ ((tc=tc)/\ (True/\ (True/\ ((r.Index=r.Index)/\ ((r.Release=r.Release)/\ ((r.Deadline=r.Deadline)/\ ((r.Bit=r.Bit)/\ ((r.Group=r.Group)/\ ((dn=dn)/\ True))))))))))))/\ (((s.E=s.E)/\ ((s.P=s.P)/\ ((s.off=s.off)/\ ((s.idx=s.idx)/\ ((s.whole=s.whole)/\ ((s.rest=s.rest)/\ ((s.ew=s.ew)/\ ((s.el=s.el)/\ ((s.eo=s.eo)/\ ((s.long=s.long)/\ ((s.part=s.part)/\ ((s.gw=s.gw)/\ ((s.gl=s.gl)/\ ((s.go=s.go)/\ ((s.sub.Index=s.sub.Index)/\ ((s.sub.Release=s.sub.Release)/\ ((s.sub.Deadline=s.sub.Deadline)/\ ((s.sub.Bit=s.sub.Bit)/\ ((s.sub.Group=s.sub.Group)/\ True)))))))))))))))))))/\ ((W=W)/\ True)));let q1:=(at' subE.zero W (0:Int));(match ((↑W.length:Int)==(0:Int)) with|true=>((((((headT W).Index=(0:Int))/\ (((headT W).Release=(0:Int))/\ (((headT W).Deadline=(0:Int))/\ (((headT W).Bit=(0:Int))/\ (((headT W).Group=(0:Int))/\ True)))))/\ ((someT W=false)/\ True))/\ True)/\ q0)|false=>(match (inb (0:Int) W.length) with|true=>(match (inb (0:Int) W.length) with|true=>((((((headT W).Index=q1.Index)/\ (((headT W).Release=q1.Release)/\ (((headT W).Deadline=q1.Deadline)/\ (((headT W).Bit=q1.Bit)/\ (((headT W).Group=q1.Group)/\ True)))))/\ ((someT W=true)/\ True))/\ True)/\ q0)|false=>False)|false=>False))
theorem headCVc (E P:Int) (te tc:Bool) (r:Sub) (dn:Int) (s:Stp) (W:List Sub):fnX X25 (noAnn) Tryz.f97 [.ptr 0 0] (cs1 E P te tc r dn s W) (ends (cs1 E P te tc r dn s W) (headCE0 W))=headCText E P te tc r dn s W:=by kernel_rfl
theorem headCHolds (E P:Int) (te tc:Bool) (r:Sub) (dn:Int) (s:Stp) (W:List Sub):headCText E P te tc r dn s W:=by
 unfold headCText
 conv=>zeta
 cases W with
 |nil=>
  rw [show (((([]:List Sub).length:Nat):Int)==0)=true from rfl]
  repeat' first|trivial|rfl|apply And.intro
 |cons a W=>
  have e1:((((a::W).length:Nat):Int)==0)=false:=by rw [beq_eq_false_iff_ne,List.length_cons];omega
  have e2:inb 0 (a::W).length=true:=inb_iff.2 ⟨by omega,by rw [List.length_cons];omega⟩
  unfold someT
  rw [e1,e2]
  repeat' first|trivial|rfl|apply And.intro
set_option maxHeartbeats 4000000 in
noncomputable def headCCon:Con T O:=fun args cs=>match args,cs with
 |[.ptr 0 0],[.cells [.raw (.int .i64 _), .raw (.int .i64 _), .raw (.bool _), .raw (.bool _), .ptr 1 0, .own 2, .raw (.int .i64 _), .raw (.int .i64 _), .raw (.int .i64 _), .raw (.int .i64 _), .raw (.int .i64 _), .raw (.int .i64 _)] 179, .cells [.raw (.int .i64 _), .raw (.int .i64 _), .raw (.int .i64 _), .raw (.int .i64 _), .raw (.int .i64 _), .raw (.int .i64 _), .raw (.int .i64 _), .raw (.int .i64 _), .raw (.int .i64 _), .raw (.int .i64 _), .raw (.int .i64 _), .raw (.int .i64 _), .raw (.int .i64 _), .raw (.int .i64 _), .raw (.int .i64 _), .raw (.int .i64 _), .raw (.int .i64 _), .raw (.int .i64 _), .raw (.int .i64 _)] 226, .que 2 W 39]=> .ret (headCE0 W)
 |_,_=> .fail
theorem headCOk:ConOk R Tryz.prog 97 headCCon:=con_of_fn R (X25) (good (X25) rfl (TabOk.con R X25Ok)) mixed Tryz.call97 Tryz.func97 headCCon (by
 intro args cs K h
 unfold headCCon at h
 split at h
 ·rename_i E P te tc r_0 r_1 r_2 r_3 r_4 dn s_0 s_1 s_2 s_3 s_4 s_5 s_6 s_7 s_8 s_9 s_10 s_11 s_12 s_13 s_14 s_15 s_16 s_17 s_18 W
  refine ⟨noAnn,_,fun v S hv=>⟨_,h,hv⟩, ?_⟩
  have hv:=headCVc E P te tc (⟨r_0,r_1,r_2,r_3,r_4⟩:Sub) dn (⟨s_0,s_1,s_2,s_3,s_4,s_5,s_6,s_7,s_8,s_9,s_10,s_11,s_12,s_13,s_14,s_15,s_16,s_17,s_18⟩:Stp) W
  unfold cs1 at hv
  rw [hv]
  exact headCHolds E P te tc (⟨r_0,r_1,r_2,r_3,r_4⟩:Sub) dn (⟨s_0,s_1,s_2,s_3,s_4,s_5,s_6,s_7,s_8,s_9,s_10,s_11,s_12,s_13,s_14,s_15,s_16,s_17,s_18⟩:Stp) W
 ·exact h.elim)
noncomputable def tab26:Tab T O:=(97,headCCon)::tab25
theorem tabOk26:TabOk R Tryz.prog tab26:=TabOk.cons R headCOk<|tabOk25
noncomputable def X26:Ctx T O:= { X0 with con:=conOf tab26 }
theorem X26Ok:TabOk R X26.P tab26:=tabOk26
end Go.Proofs.YtlfjbnflfdnoaaaGreat
namespace Go.Proofs.YtlfjbnflfdnoaaaGreat
open Go.Sx Go.Proofs Classical
def whenT (te:Bool) (W:List Sub):Int:=bif !(someT W)||te then 0 else (headT W).Release
def whenCText (E P:Int) (te tc:Bool) (r:Sub) (dn:Int) (s:Stp) (W:List Sub):Prop:=let q0:=(((E=E)/\ ((P=P)/\ ((te=te)/\ ((tc=tc)/\ (True/\ (True/\ ((r.Index=r.Index)/\ ((r.Release=r.Release)/\ ((r.Deadline=r.Deadline)/\ ((r.Bit=r.Bit)/\ ((r.Group=r.Group)/\ ((dn=dn)/\ True))))))))))))/\ (((s.E=s.E)/\ ((s.P=s.P)/\ ((s.off=s.off)/\ ((s.idx=s.idx)/\ ((s.whole=s.whole)/\ ((s.rest=s.rest)/\ ((s.ew=s.ew)/\ ((s.el=s.el)/\ ((s.eo=s.eo)/\ ((s.long=s.long)/\ ((s.part=s.part)/\ ((s.gw=s.gw)/\ ((s.gl=s.gl)/\ ((s.go=s.go)/\ ((s.sub.Index=s.sub.Index)/\ ((s.sub.Release=s.sub.Release)/\ ((s.sub.Deadline=s.sub.Deadline)/\ ((s.sub.Bit=s.sub.Bit)/\ ((s.sub.Group=s.sub.Group)/\ True)))))))))))))))))))/\ ((W=W)/\ True)));let q1:=((((whenT te W=(0:Int))/\ ((someT W=someT W)/\ True))/\ True)/\ q0);(match (!someT W) with|true=>q1|false=>(match (te) with|true=>q1|false=>((((whenT te W=(headT W).Release)/\ ((someT W=true)/\ True))/\ True)/\ q0)))
theorem whenCVc (E P:Int) (te tc:Bool) (r:Sub) (dn:Int) (s:Stp) (W:List Sub):fnX X26 (noAnn) Tryz.f96 [.ptr 0 0] (cs1 E P te tc r dn s W) (ends (cs1 E P te tc r dn s W) ⟨some (.tup [.raw (.int .i64 ((whenT te W))), .raw (.bool (someT W))]),[(2,some (.que 2 W 39))]⟩)=whenCText E P te tc r dn s W:=by kernel_rfl
theorem whenCHolds (E P:Int) (te tc:Bool) (r:Sub) (dn:Int) (s:Stp) (W:List Sub):whenCText E P te tc r dn s W:=by
 unfold whenCText
 conv=>zeta
 unfold whenT
 cases someT W
 ·repeat' first|trivial|rfl|apply And.intro
 ·cases te<;>(repeat' first|trivial|rfl|apply And.intro)
set_option maxHeartbeats 4000000 in
noncomputable def whenCCon:Con T O:=fun args cs=>match args,cs with
 |[.ptr 0 0],[.cells [.raw (.int .i64 _), .raw (.int .i64 _), .raw (.bool te), .raw (.bool _), .ptr 1 0, .own 2, .raw (.int .i64 _), .raw (.int .i64 _), .raw (.int .i64 _), .raw (.int .i64 _), .raw (.int .i64 _), .raw (.int .i64 _)] 179, .cells [.raw (.int .i64 _), .raw (.int .i64 _), .raw (.int .i64 _), .raw (.int .i64 _), .raw (.int .i64 _), .raw (.int .i64 _), .raw (.int .i64 _), .raw (.int .i64 _), .raw (.int .i64 _), .raw (.int .i64 _), .raw (.int .i64 _), .raw (.int .i64 _), .raw (.int .i64 _), .raw (.int .i64 _), .raw (.int .i64 _), .raw (.int .i64 _), .raw (.int .i64 _), .raw (.int .i64 _), .raw (.int .i64 _)] 226, .que 2 W 39]=> .ret ⟨some (.tup [.raw (.int .i64 ((whenT te W))), .raw (.bool (someT W))]),[(2,some (.que 2 W 39))]⟩
 |_,_=> .fail
theorem whenCOk:ConOk R Tryz.prog 96 whenCCon:=con_of_fn R (X26) (good (X26) rfl (TabOk.con R X26Ok)) mixed Tryz.call96 Tryz.func96 whenCCon (by
 intro args cs K h
 unfold whenCCon at h
 split at h
 ·rename_i E P te tc r_0 r_1 r_2 r_3 r_4 dn s_0 s_1 s_2 s_3 s_4 s_5 s_6 s_7 s_8 s_9 s_10 s_11 s_12 s_13 s_14 s_15 s_16 s_17 s_18 W
  refine ⟨noAnn,_,fun v S hv=>⟨_,h,hv⟩, ?_⟩
  have hv:=whenCVc E P te tc (⟨r_0,r_1,r_2,r_3,r_4⟩:Sub) dn (⟨s_0,s_1,s_2,s_3,s_4,s_5,s_6,s_7,s_8,s_9,s_10,s_11,s_12,s_13,s_14,s_15,s_16,s_17,s_18⟩:Stp) W
  unfold cs1 at hv
  rw [hv]
  exact whenCHolds E P te tc (⟨r_0,r_1,r_2,r_3,r_4⟩:Sub) dn (⟨s_0,s_1,s_2,s_3,s_4,s_5,s_6,s_7,s_8,s_9,s_10,s_11,s_12,s_13,s_14,s_15,s_16,s_17,s_18⟩:Stp) W
 ·exact h.elim)
noncomputable def tab27:Tab T O:=(96,whenCCon)::tab26
theorem tabOk27:TabOk R Tryz.prog tab27:=TabOk.cons R whenCOk<|tabOk26
noncomputable def X27:Ctx T O:= { X0 with con:=conOf tab27 }
theorem X27Ok:TabOk R X27.P tab27:=tabOk27
end Go.Proofs.YtlfjbnflfdnoaaaGreat
namespace Go.Proofs.YtlfjbnflfdnoaaaGreat
open Go.Sx Go.Proofs Classical
def lastT (W:List Sub) (r:Sub) (dn:Int):Sub:=bif decide ((W.length:Int)>0) then at' subZ W ((W.length:Int)-1) else bif decide (dn>0) then r else subZ
theorem slOk_tail {n:Nat} (h:1<=n):slOk (some 1) (some (n:Int)) (some (n:Int)) (n:Int)=true:=by
 unfold slOk
 rw [Bool.and_eq_true,Bool.and_eq_true,Bool.and_eq_true]
 exact ⟨⟨⟨decide_eq_true (show (0:Int)<=1 by omega),decide_eq_true (show (1:Int)<=n by omega)⟩,decide_eq_true (Int.le_refl (n:Int))⟩,by simp [optB]⟩
theorem slOk_head {k n:Nat} (h:k<=n):slOk none (some (k:Int)) (some (k:Int)) (n:Int)=true:=by
 unfold slOk
 rw [Bool.and_eq_true,Bool.and_eq_true,Bool.and_eq_true]
 exact ⟨⟨⟨decide_eq_true (show (0:Int)<=0 by omega),decide_eq_true (show (0:Int)<=k by omega)⟩,decide_eq_true (show (k:Int)<=n by omega)⟩,by simp [optB]⟩
def someL (W:List Sub) (dn:Int):Bool:=decide ((W.length:Int)>0)||decide (dn>0)
def cutN (at':Int):List Sub->Nat
 |[]=>0
 |a::l=>bif decide (a.Release>at') then 0 else cutN at' l+1
theorem cutN_le (t:Int): ∀l:List Sub,cutN t l<=l.length
 |[]=>Nat.le_refl _
 |a::l=>by
  have:=cutN_le t l
  simp only [cutN,List.length_cons]
  cases decide (a.Release>t)<;>simp<;>omega
noncomputable def lastCE0 (r:Sub) (dn:Int) (W:List Sub):Eff T O:=⟨some (.tup [.agg [.raw (.int .i64 ((lastT W r dn).Index)), .raw (.int .i64 ((lastT W r dn).Release)), .raw (.int .i64 ((lastT W r dn).Deadline)), .raw (.int .i64 ((lastT W r dn).Bit)), .raw (.int .i64 ((lastT W r dn).Group))], .raw (.bool (someL W dn))]),[(2,some (.que 2 W 39))]⟩
def lastCText (E P:Int) (te tc:Bool) (r:Sub) (dn:Int) (s:Stp) (W:List Sub):Prop:=let q0:=(((E=E)/\ ((P=P)/\ ((te=te)/\ ((tc=tc)/\ (True/\ (True/\ ((r.Index=r.Index)/\ ((r.Release=r.Release)/\ ((r.Deadline=r.Deadline)/\ ((r.Bit=r.Bit)/\ ((r.Group=r.Group)/\ ((dn=dn)/\ True))))))))))))/\ (((s.E=s.E)/\ ((s.P=s.P)/\ ((s.off=s.off)/\ ((s.idx=s.idx)/\ ((s.whole=s.whole)/\ ((s.rest=s.rest)/\ ((s.ew=s.ew)/\ ((s.el=s.el)/\ ((s.eo=s.eo)/\ ((s.long=s.long)/\ ((s.part=s.part)/\ ((s.gw=s.gw)/\ ((s.gl=s.gl)/\ ((s.go=s.go)/\ ((s.sub.Index=s.sub.Index)/\ ((s.sub.Release=s.sub.Release)/\ ((s.sub.Deadline=s.sub.Deadline)/\ ((s.sub.Bit=s.sub.Bit)/\ ((s.sub.Group=s.sub.Group)/\ True)))))))))))))))))))/\ ((W=W)/\ True)));let q1:=(IntKind.i64.wrap ((↑W.length:Int)-(1:Int)));(match (decide ((↑W.length:Int)>(0:Int))) with|true=>(match (inb q1 W.length) with|true=>(match (inb q1 W.length) with|true=>((((((lastT W r dn).Index=(at' subE.zero W q1).Index)/\ (((lastT W r dn).Release=(at' subE.zero W q1).Release)/\ (((lastT W r dn).Deadline=(at' subE.zero W q1).Deadline)/\ (((lastT W r dn).Bit=(at' subE.zero W q1).Bit)/\ (((lastT W r dn).Group=(at' subE.zero W q1).Group)/\ True)))))/\ ((someL W dn=true)/\ True))/\ True)/\ q0)|false=>False)|false=>False)|false=>(match (decide (dn>(0:Int))) with|true=>((((((lastT W r dn).Index=r.Index)/\ (((lastT W r dn).Release=r.Release)/\ (((lastT W r dn).Deadline=r.Deadline)/\ (((lastT W r dn).Bit=r.Bit)/\ (((lastT W r dn).Group=r.Group)/\ True)))))/\ ((someL W dn=true)/\ True))/\ True)/\ q0)|false=>((((((lastT W r dn).Index=(0:Int))/\ (((lastT W r dn).Release=(0:Int))/\ (((lastT W r dn).Deadline=(0:Int))/\ (((lastT W r dn).Bit=(0:Int))/\ (((lastT W r dn).Group=(0:Int))/\ True)))))/\ ((someL W dn=false)/\ True))/\ True)/\ q0)))
theorem lastCVc (E P:Int) (te tc:Bool) (r:Sub) (dn:Int) (s:Stp) (W:List Sub):fnX X27 (noAnn) Tryz.f115 [.ptr 0 0] (cs1 E P te tc r dn s W) (ends (cs1 E P te tc r dn s W) (lastCE0 r dn W))=lastCText E P te tc r dn s W:=by kernel_rfl
theorem lastCHolds (E P:Int) (te tc:Bool) (r:Sub) (dn:Int) (s:Stp) (W:List Sub) (hp:W.length<=1000):lastCText E P te tc r dn s W:=by
 unfold lastCText
 conv=>zeta
 unfold lastT someL
 by_cases h:(W.length:Int)>0
 ·rw [decide_eq_true h,wrap_id (by omega) (by omega),show inb ((W.length:Int)-1) W.length=true from inb_iff.2 ⟨by omega,by omega⟩]
  repeat' first|trivial|rfl|apply And.intro
 ·rw [decide_eq_false h]
  cases decide (dn>0)<;>(repeat' first|trivial|rfl|apply And.intro)
set_option maxHeartbeats 4000000 in
noncomputable def lastCCon:Con T O:=fun args cs=>match args,cs with
 |[.ptr 0 0],[.cells [.raw (.int .i64 _), .raw (.int .i64 _), .raw (.bool _), .raw (.bool _), .ptr 1 0, .own 2, .raw (.int .i64 r_0), .raw (.int .i64 r_1), .raw (.int .i64 r_2), .raw (.int .i64 r_3), .raw (.int .i64 r_4), .raw (.int .i64 dn)] 179, .cells [.raw (.int .i64 _), .raw (.int .i64 _), .raw (.int .i64 _), .raw (.int .i64 _), .raw (.int .i64 _), .raw (.int .i64 _), .raw (.int .i64 _), .raw (.int .i64 _), .raw (.int .i64 _), .raw (.int .i64 _), .raw (.int .i64 _), .raw (.int .i64 _), .raw (.int .i64 _), .raw (.int .i64 _), .raw (.int .i64 _), .raw (.int .i64 _), .raw (.int .i64 _), .raw (.int .i64 _), .raw (.int .i64 _)] 226, .que 2 W 39]=>chk (decide (W.length<=1000)) (.ret (lastCE0 (⟨r_0,r_1,r_2,r_3,r_4⟩:Sub) dn W))
 |_,_=> .fail
theorem lastCOk:ConOk R Tryz.prog 115 lastCCon:=con_of_fn R (X27) (good (X27) rfl (TabOk.con R X27Ok)) mixed Tryz.call115 Tryz.func115 lastCCon (by
 intro args cs K h
 unfold lastCCon at h
 split at h
 ·rename_i E P te tc r_0 r_1 r_2 r_3 r_4 dn s_0 s_1 s_2 s_3 s_4 s_5 s_6 s_7 s_8 s_9 s_10 s_11 s_12 s_13 s_14 s_15 s_16 s_17 s_18 W
  rw [Tree.holds_chk] at h
  obtain ⟨hp,h⟩:=h
  refine ⟨noAnn,_,fun v S hv=>⟨_,h,hv⟩, ?_⟩
  have hv:=lastCVc E P te tc (⟨r_0,r_1,r_2,r_3,r_4⟩:Sub) dn (⟨s_0,s_1,s_2,s_3,s_4,s_5,s_6,s_7,s_8,s_9,s_10,s_11,s_12,s_13,s_14,s_15,s_16,s_17,s_18⟩:Stp) W
  unfold cs1 at hv
  rw [hv]
  exact lastCHolds E P te tc (⟨r_0,r_1,r_2,r_3,r_4⟩:Sub) dn (⟨s_0,s_1,s_2,s_3,s_4,s_5,s_6,s_7,s_8,s_9,s_10,s_11,s_12,s_13,s_14,s_15,s_16,s_17,s_18⟩:Stp) W (of_decide_eq_true hp)
 ·exact h.elim)
noncomputable def runCE0 (E:Int) (P:Int) (te:Bool) (tc:Bool) (dn:Int) (W:List Sub):Eff T O:=⟨some (.tup [.agg [.raw (.int .i64 ((headT W).Index)), .raw (.int .i64 ((headT W).Release)), .raw (.int .i64 ((headT W).Deadline)), .raw (.int .i64 ((headT W).Bit)), .raw (.int .i64 ((headT W).Group))], .raw (.bool true)]),[(0,some (.cells [.raw (.int .i64 E), .raw (.int .i64 P), .raw (.bool te), .raw (.bool tc), .ptr 1 0, .own 3, .raw (.int .i64 ((headT W).Index)), .raw (.int .i64 ((headT W).Release)), .raw (.int .i64 ((headT W).Deadline)), .raw (.int .i64 ((headT W).Bit)), .raw (.int .i64 ((headT W).Group)), .raw (.int .i64 (IntKind.i64.wrap (dn+1)))] 179)),(2,none),(3,some (.que 2 (W.drop 1) 39))]⟩
noncomputable def runCE1 (W:List Sub):Eff T O:=⟨some (.tup [.agg [.raw (.int .i64 0), .raw (.int .i64 0), .raw (.int .i64 0), .raw (.int .i64 0), .raw (.int .i64 0)], .raw (.bool false)]),[(2,some (.que 2 W 39))]⟩
def runCText (E P:Int) (te tc:Bool) (r:Sub) (dn:Int) (s:Stp) (W:List Sub):Prop:=let q0:=((s.E=s.E)/\ ((s.P=s.P)/\ ((s.off=s.off)/\ ((s.idx=s.idx)/\ ((s.whole=s.whole)/\ ((s.rest=s.rest)/\ ((s.ew=s.ew)/\ ((s.el=s.el)/\ ((s.eo=s.eo)/\ ((s.long=s.long)/\ ((s.part=s.part)/\ ((s.gw=s.gw)/\ ((s.gl=s.gl)/\ ((s.go=s.go)/\ ((s.sub.Index=s.sub.Index)/\ ((s.sub.Release=s.sub.Release)/\ ((s.sub.Deadline=s.sub.Deadline)/\ ((s.sub.Bit=s.sub.Bit)/\ ((s.sub.Group=s.sub.Group)/\ True)))))))))))))))))));let q1:=((0:Int)=(0:Int));(match (!someT W) with|true=>(match (someT W) with|true=>((((((headT W).Index=(0:Int))/\ (((headT W).Release=(0:Int))/\ (((headT W).Deadline=(0:Int))/\ (((headT W).Bit=(0:Int))/\ (((headT W).Group=(0:Int))/\ True)))))/\ ((true=false)/\ True))/\ True)/\ (((E=E)/\ ((P=P)/\ ((te=te)/\ ((tc=tc)/\ (True/\ (True/\ (((headT W).Index=r.Index)/\ (((headT W).Release=r.Release)/\ (((headT W).Deadline=r.Deadline)/\ (((headT W).Bit=r.Bit)/\ (((headT W).Group=r.Group)/\ ((IntKind.i64.wrap (dn+(1:Int))=dn)/\ True))))))))))))/\ (q0/\ ((List.drop (1:Nat) W=W)/\ True))))|false=>((((q1/\ (q1/\ (q1/\ (q1/\ (q1/\ True)))))/\ ((false=false)/\ True))/\ True)/\ (((E=E)/\ ((P=P)/\ ((te=te)/\ ((tc=tc)/\ (True/\ (True/\ ((r.Index=r.Index)/\ ((r.Release=r.Release)/\ ((r.Deadline=r.Deadline)/\ ((r.Bit=r.Bit)/\ ((r.Group=r.Group)/\ ((dn=dn)/\ True))))))))))))/\ (q0/\ ((W=W)/\ True)))))|false=>(match (slOk (some (1:Int)) (some (↑W.length:Int)) (some (↑W.length:Int)) (↑W.length:Int)) with|true=>(match (someT W) with|true=>((((((headT W).Index=(headT W).Index)/\ (((headT W).Release=(headT W).Release)/\ (((headT W).Deadline=(headT W).Deadline)/\ (((headT W).Bit=(headT W).Bit)/\ (((headT W).Group=(headT W).Group)/\ True)))))/\ ((true=true)/\ True))/\ True)/\ (((E=E)/\ ((P=P)/\ ((te=te)/\ ((tc=tc)/\ (True/\ (True/\ (((headT W).Index=(headT W).Index)/\ (((headT W).Release=(headT W).Release)/\ (((headT W).Deadline=(headT W).Deadline)/\ (((headT W).Bit=(headT W).Bit)/\ (((headT W).Group=(headT W).Group)/\ ((IntKind.i64.wrap (dn+(1:Int))=IntKind.i64.wrap (dn+(1:Int)))/\ True))))))))))))/\ (q0/\ ((List.drop (1:Nat) W=cutL (some (1:Int)) (some (↑W.length:Int)) W)/\ True))))|false=>((((((0:Int)=(headT W).Index)/\ (((0:Int)=(headT W).Release)/\ (((0:Int)=(headT W).Deadline)/\ (((0:Int)=(headT W).Bit)/\ (((0:Int)=(headT W).Group)/\ True)))))/\ ((false=true)/\ True))/\ True)/\ (((E=E)/\ ((P=P)/\ ((te=te)/\ ((tc=tc)/\ (True/\ (False/\ ((r.Index=(headT W).Index)/\ ((r.Release=(headT W).Release)/\ ((r.Deadline=(headT W).Deadline)/\ ((r.Bit=(headT W).Bit)/\ ((r.Group=(headT W).Group)/\ ((dn=IntKind.i64.wrap (dn+(1:Int)))/\ True))))))))))))/\ (q0/\ (False/\ True)))))|false=>False))
theorem runCVc (E P:Int) (te tc:Bool) (r:Sub) (dn:Int) (s:Stp) (W:List Sub):fnX X27 (noAnn) Tryz.f93 [.ptr 0 0] (cs1 E P te tc r dn s W) (endsIf (someT W) (cs1 E P te tc r dn s W) (runCE0 E P te tc dn W) (runCE1 W))=runCText E P te tc r dn s W:=by kernel_rfl
theorem runCHolds (E P:Int) (te tc:Bool) (r:Sub) (dn:Int) (s:Stp) (W:List Sub) (hp:W.length<=1000):runCText E P te tc r dn s W:=by
 unfold runCText
 conv=>zeta
 cases h:someT W
 ·repeat' first|trivial|rfl|apply And.intro
 ·have hl:0<W.length:=by
   unfold someT at h
   simp only [Bool.not_eq_true',beq_eq_false_iff_ne,ne_eq] at h
   omega
  rw [show slOk (some 1) (some (W.length:Int)) (some (W.length:Int)) (W.length:Int)=true from slOk_tail (by omega)]
  rw [show cutL (some 1) (some (W.length:Int)) W=W.drop 1 by simp [cutL,optB]]
  repeat' first|trivial|rfl|apply And.intro
set_option maxHeartbeats 4000000 in
noncomputable def runCCon:Con T O:=fun args cs=>match args,cs with
 |[.ptr 0 0],[.cells [.raw (.int .i64 E), .raw (.int .i64 P), .raw (.bool te), .raw (.bool tc), .ptr 1 0, .own 2, .raw (.int .i64 _), .raw (.int .i64 _), .raw (.int .i64 _), .raw (.int .i64 _), .raw (.int .i64 _), .raw (.int .i64 dn)] 179, .cells [.raw (.int .i64 _), .raw (.int .i64 _), .raw (.int .i64 _), .raw (.int .i64 _), .raw (.int .i64 _), .raw (.int .i64 _), .raw (.int .i64 _), .raw (.int .i64 _), .raw (.int .i64 _), .raw (.int .i64 _), .raw (.int .i64 _), .raw (.int .i64 _), .raw (.int .i64 _), .raw (.int .i64 _), .raw (.int .i64 _), .raw (.int .i64 _), .raw (.int .i64 _), .raw (.int .i64 _), .raw (.int .i64 _)] 226, .que 2 W 39]=>chk (decide (W.length<=1000)) (.ite (someT W) (.ret (runCE0 E P te tc dn W)) (.ret (runCE1 W)))
 |_,_=> .fail
theorem runCOk:ConOk R Tryz.prog 93 runCCon:=con_of_fn R (X27) (good (X27) rfl (TabOk.con R X27Ok)) mixed Tryz.call93 Tryz.func93 runCCon (by
 intro args cs K h
 unfold runCCon at h
 split at h
 ·rename_i E P te tc r_0 r_1 r_2 r_3 r_4 dn s_0 s_1 s_2 s_3 s_4 s_5 s_6 s_7 s_8 s_9 s_10 s_11 s_12 s_13 s_14 s_15 s_16 s_17 s_18 W
  rw [Tree.holds_chk] at h
  obtain ⟨hp,h⟩:=h
  refine ⟨noAnn,_,fun v S hv=>holds_if h v S hv, ?_⟩
  have hv:=runCVc E P te tc (⟨r_0,r_1,r_2,r_3,r_4⟩:Sub) dn (⟨s_0,s_1,s_2,s_3,s_4,s_5,s_6,s_7,s_8,s_9,s_10,s_11,s_12,s_13,s_14,s_15,s_16,s_17,s_18⟩:Stp) W
  unfold cs1 at hv
  rw [hv]
  exact runCHolds E P te tc (⟨r_0,r_1,r_2,r_3,r_4⟩:Sub) dn (⟨s_0,s_1,s_2,s_3,s_4,s_5,s_6,s_7,s_8,s_9,s_10,s_11,s_12,s_13,s_14,s_15,s_16,s_17,s_18⟩:Stp) W (of_decide_eq_true hp)
 ·exact h.elim)
noncomputable def tab28:Tab T O:=(115,lastCCon)::(93,runCCon)::tab27
theorem tabOk28:TabOk R Tryz.prog tab28:=TabOk.cons R lastCOk<|TabOk.cons R runCOk<|tabOk27
noncomputable def X28:Ctx T O:= { X0 with con:=conOf tab28 }
theorem X28Ok:TabOk R X28.P tab28:=tabOk28
end Go.Proofs.YtlfjbnflfdnoaaaGreat
namespace Go.Proofs.YtlfjbnflfdnoaaaGreat
open Go.Sx Go.Proofs Classical
def lateT (at1:Int) (s:Stp):Int:=if (0:Int)>IntKind.i64.wrap (at1-(peekS s).Release) then 0 else IntKind.i64.wrap (at1-(peekS s).Release)
def arr1 (at1:Int) (s:Stp):Stp:=shiftS s (lateT at1 s)
def arrS (at1:Int):Nat->Stp->Stp
 |0,s=>s
 |n+1,s=>nextS (arr1 at1 (arrS at1 n s))
def arrL (at1:Int):Nat->Stp->List Sub
 |0,_=>[]
 |n+1,s=>arrL at1 n s++[peekS (arr1 at1 (arrS at1 n s))]
def arrE (at1 n:Int) (tc:Bool) (W:List Sub):Int:=bif (!(taskSlot at1))||decide (n<1)||decide (n>64) then 1 else bif tc then 13 else bif decide ((W.length:Int)+n>64) then 15 else 0
noncomputable def cutCA (W:List Sub) (at1:Int):Ann T O:=oneLoop 5 { σ:=Nat,st:=fun S x=>(S.keep [0,1]).int 5 x,inv:=fun _ x=>x<=W.length/\ cutN at1 W=x+cutN at1 (W.drop x),m:=fun x=>W.length-x }
noncomputable def cutCE0 (E:Int) (P:Int) (te:Bool) (r:Sub) (dn:Int) (W:List Sub) (at1:Int):Eff T O:=⟨some (.raw (.int .i64 (((W.length:Int)-(cutN at1 W:Int))))),[(0,some (.cells [.raw (.int .i64 E), .raw (.int .i64 P), .raw (.bool te), .raw (.bool true), .ptr 1 0, .own 3, .raw (.int .i64 r.Index), .raw (.int .i64 r.Release), .raw (.int .i64 r.Deadline), .raw (.int .i64 r.Bit), .raw (.int .i64 r.Group), .raw (.int .i64 dn)] 179)),(2,none),(3,some (.que 2 (W.take (cutN at1 W)) 39))]⟩
def cutCText (E P:Int) (te tc:Bool) (r:Sub) (dn:Int) (s:Stp) (W:List Sub) (at1:Int):Prop:=let q0:=((s.E=s.E)/\ ((s.P=s.P)/\ ((s.off=s.off)/\ ((s.idx=s.idx)/\ ((s.whole=s.whole)/\ ((s.rest=s.rest)/\ ((s.ew=s.ew)/\ ((s.el=s.el)/\ ((s.eo=s.eo)/\ ((s.long=s.long)/\ ((s.part=s.part)/\ ((s.gw=s.gw)/\ ((s.gl=s.gl)/\ ((s.go=s.go)/\ ((s.sub.Index=s.sub.Index)/\ ((s.sub.Release=s.sub.Release)/\ ((s.sub.Deadline=s.sub.Deadline)/\ ((s.sub.Bit=s.sub.Bit)/\ ((s.sub.Group=s.sub.Group)/\ True)))))))))))))))))));let q1:=((E=E)/\ ((P=P)/\ ((te=te)/\ ((true=true)/\ (True/\ (True/\ ((r.Index=r.Index)/\ ((r.Release=r.Release)/\ ((r.Deadline=r.Deadline)/\ ((r.Bit=r.Bit)/\ ((r.Group=r.Group)/\ ((dn=dn)/\ True))))))))))));((∃x:Nat,let q3:=((x<=W.length)/\ (cutN at1 W=x+cutN at1 (List.drop x W)));(q3/\ ((True/\ ((at1=at1)/\ (((↑x:Int)=(0:Int))/\ True)))/\ (q1/\ (q0/\ ((W=W)/\ True))))))/\ (∀x:Nat,let q2:=(match (slOk none (some (↑x:Int)) (some (↑x:Int)) (↑W.length:Int)) with|true=>((((↑W.length:Int)-(↑(cutN at1 W):Int)=IntKind.i64.wrap ((↑W.length:Int)-(↑x:Int)))/\ True)/\ (q1/\ (q0/\ ((List.take (cutN at1 W) W=cutL none (some (↑x:Int)) W)/\ True))))|false=>False);let q3:=((x<=W.length)/\ (cutN at1 W=x+cutN at1 (List.drop x W)));(q3->(match (decide ((↑x:Int)<(↑W.length:Int))) with|true=>(match (inb (↑x:Int) W.length) with|true=>(match (inb (↑x:Int) W.length) with|true=>(match (decide ((at' subE.zero W (↑x:Int)).Release>at1)) with|true=>q2|false=>(∃x':Nat,(((x'<=W.length)/\ (cutN at1 W=x'+cutN at1 (List.drop x' W)))/\ ((W.length-x'<W.length-x)/\ ((True/\ ((at1=at1)/\ (((↑x':Int)=IntKind.i64.wrap ((↑x:Int)+(1:Int)))/\ True)))/\ (q1/\ (q0/\ ((W=W)/\ True))))))))|false=>False)|false=>False)|false=>q2))))
theorem cutCVc (E P:Int) (te tc:Bool) (r:Sub) (dn:Int) (s:Stp) (W:List Sub) (at1:Int):fnX X28 ((cutCA W at1)) Tryz.f114 [.ptr 0 0, .raw (.int .i64 at1)] (cs1 E P te tc r dn s W) (ends (cs1 E P te tc r dn s W) (cutCE0 E P te r dn W at1))=cutCText E P te tc r dn s W at1:=by kernel_rfl
theorem cutCHolds (E P:Int) (te tc:Bool) (r:Sub) (dn:Int) (s:Stp) (W:List Sub) (at1:Int) (hp:W.length<=1000):cutCText E P te tc r dn s W at1:=by
 unfold cutCText
 conv=>zeta
 have hle:=cutN_le at1 W
 refine ⟨⟨0,⟨Nat.zero_le _,by simp⟩,by repeat' first|trivial|rfl|apply And.intro⟩, ?_⟩
 rintro x ⟨hx,hs⟩
 by_cases h:x<W.length
 ·rw [dec_lt h,inb_nat h,at_nat h]
  rw [drop_at h] at hs
  simp only [cutN] at hs
  by_cases q:W[x].Release>at1
  ·rw [decide_eq_true q] at hs ⊢
   have hs:cutN at1 W=x:=by simpa using hs
   rw [slOk_head (by omega),hs,wrap_id (by omega) (by omega),show List.take x W=cutL none (some (x:Int)) W by simp [cutL,optB]]
   repeat' first|trivial|rfl|apply And.intro
  ·rw [decide_eq_false q] at hs ⊢
   have hs:cutN at1 W=x+1+cutN at1 (List.drop (x+1) W):=by simp only [cond_false] at hs;omega
   exact ⟨x+1,⟨by omega,hs⟩,by omega,by
    have hw:=wrap_succ (x:=x) (n:=W.length) h (by omega)
    repeat' first|exact hw.symm|trivial|rfl|apply And.intro⟩
 ·rw [dec_ge (by omega),slOk_head (by omega)]
  have e:x=W.length:=by omega
  subst e
  have hs:cutN at1 W=W.length:=by
   rw [List.drop_length] at hs
   simpa [cutN] using hs
  rw [hs,wrap_id (by omega) (by omega),show List.take W.length W=cutL none (some (W.length:Int)) W by simp [cutL,optB]]
  repeat' first|trivial|rfl|apply And.intro
set_option maxHeartbeats 4000000 in
noncomputable def cutCCon:Con T O:=fun args cs=>match args,cs with
 |[.ptr 0 0, .raw (.int .i64 at1)],[.cells [.raw (.int .i64 E), .raw (.int .i64 P), .raw (.bool te), .raw (.bool _), .ptr 1 0, .own 2, .raw (.int .i64 r_0), .raw (.int .i64 r_1), .raw (.int .i64 r_2), .raw (.int .i64 r_3), .raw (.int .i64 r_4), .raw (.int .i64 dn)] 179, .cells [.raw (.int .i64 _), .raw (.int .i64 _), .raw (.int .i64 _), .raw (.int .i64 _), .raw (.int .i64 _), .raw (.int .i64 _), .raw (.int .i64 _), .raw (.int .i64 _), .raw (.int .i64 _), .raw (.int .i64 _), .raw (.int .i64 _), .raw (.int .i64 _), .raw (.int .i64 _), .raw (.int .i64 _), .raw (.int .i64 _), .raw (.int .i64 _), .raw (.int .i64 _), .raw (.int .i64 _), .raw (.int .i64 _)] 226, .que 2 W 39]=>chk (decide (W.length<=1000)) (.ret (cutCE0 E P te (⟨r_0,r_1,r_2,r_3,r_4⟩:Sub) dn W at1))
 |_,_=> .fail
theorem cutCOk:ConOk R Tryz.prog 114 cutCCon:=con_of_fn R (X28) (good (X28) rfl (TabOk.con R X28Ok)) mixed Tryz.call114 Tryz.func114 cutCCon (by
 intro args cs K h
 unfold cutCCon at h
 split at h
 ·rename_i at1 E P te tc r_0 r_1 r_2 r_3 r_4 dn s_0 s_1 s_2 s_3 s_4 s_5 s_6 s_7 s_8 s_9 s_10 s_11 s_12 s_13 s_14 s_15 s_16 s_17 s_18 W
  rw [Tree.holds_chk] at h
  obtain ⟨hp,h⟩:=h
  refine ⟨(cutCA W at1),_,fun v S hv=>⟨_,h,hv⟩, ?_⟩
  have hv:=cutCVc E P te tc (⟨r_0,r_1,r_2,r_3,r_4⟩:Sub) dn (⟨s_0,s_1,s_2,s_3,s_4,s_5,s_6,s_7,s_8,s_9,s_10,s_11,s_12,s_13,s_14,s_15,s_16,s_17,s_18⟩:Stp) W at1
  unfold cs1 at hv
  rw [hv]
  exact cutCHolds E P te tc (⟨r_0,r_1,r_2,r_3,r_4⟩:Sub) dn (⟨s_0,s_1,s_2,s_3,s_4,s_5,s_6,s_7,s_8,s_9,s_10,s_11,s_12,s_13,s_14,s_15,s_16,s_17,s_18⟩:Stp) W at1 (of_decide_eq_true hp)
 ·exact h.elim)
noncomputable def cs2 (at1:Int) (E:Int) (P:Int) (te:Bool) (tc:Bool) (r:Sub) (dn:Int) (s:Stp) (W:List Sub):List (Chunk T O):=[.cells [.raw (.int .i64 at1)] 2, .cells [.ptr 2 0] 109, .cells [.raw (.int .i64 E), .raw (.int .i64 P), .raw (.bool te), .raw (.bool tc), .ptr 3 0, .own 4, .raw (.int .i64 r.Index), .raw (.int .i64 r.Release), .raw (.int .i64 r.Deadline), .raw (.int .i64 r.Bit), .raw (.int .i64 r.Group), .raw (.int .i64 dn)] 179, .cells [.raw (.int .i64 s.E), .raw (.int .i64 s.P), .raw (.int .i64 s.off), .raw (.int .i64 s.idx), .raw (.int .i64 s.whole), .raw (.int .i64 s.rest), .raw (.int .i64 s.ew), .raw (.int .i64 s.el), .raw (.int .i64 s.eo), .raw (.int .i64 s.long), .raw (.int .i64 s.part), .raw (.int .i64 s.gw), .raw (.int .i64 s.gl), .raw (.int .i64 s.go), .raw (.int .i64 s.sub.Index), .raw (.int .i64 s.sub.Release), .raw (.int .i64 s.sub.Deadline), .raw (.int .i64 s.sub.Bit), .raw (.int .i64 s.sub.Group)] 226, .que 2 W 39]
def lateCText (at1:Int) (E P:Int) (te tc:Bool) (r:Sub) (dn:Int) (s:Stp) (W:List Sub):Prop:=(((lateT at1 s=if (0:Int)>IntKind.i64.wrap (at1-(peekS s).Release) then (0:Int) else IntKind.i64.wrap (at1-(peekS s).Release))/\ True)/\ (((at1=at1)/\ True)/\ ((True/\ True)/\ (((E=E)/\ ((P=P)/\ ((te=te)/\ ((tc=tc)/\ (True/\ (True/\ ((r.Index=r.Index)/\ ((r.Release=r.Release)/\ ((r.Deadline=r.Deadline)/\ ((r.Bit=r.Bit)/\ ((r.Group=r.Group)/\ ((dn=dn)/\ True))))))))))))/\ (((s.E=s.E)/\ ((s.P=s.P)/\ ((s.off=s.off)/\ ((s.idx=s.idx)/\ ((s.whole=s.whole)/\ ((s.rest=s.rest)/\ ((s.ew=s.ew)/\ ((s.el=s.el)/\ ((s.eo=s.eo)/\ ((s.long=s.long)/\ ((s.part=s.part)/\ ((s.gw=s.gw)/\ ((s.gl=s.gl)/\ ((s.go=s.go)/\ ((s.sub.Index=s.sub.Index)/\ ((s.sub.Release=s.sub.Release)/\ ((s.sub.Deadline=s.sub.Deadline)/\ ((s.sub.Bit=s.sub.Bit)/\ ((s.sub.Group=s.sub.Group)/\ True)))))))))))))))))))/\ ((W=W)/\ True))))))
theorem lateCVc (at1:Int) (E P:Int) (te tc:Bool) (r:Sub) (dn:Int) (s:Stp) (W:List Sub):fnX X28 (noAnn) Tryz.f108 [.ptr 0 0, .ptr 1 0] (cs2 at1 E P te tc r dn s W) (ends (cs2 at1 E P te tc r dn s W) ⟨some (.raw (.int .i64 ((lateT at1 s)))),[(4,some (.que 2 W 39))]⟩)=lateCText at1 E P te tc r dn s W:=by kernel_rfl
theorem lateCHolds (at1:Int) (E P:Int) (te tc:Bool) (r:Sub) (dn:Int) (s:Stp) (W:List Sub):lateCText at1 E P te tc r dn s W:=by
 unfold lateCText
 repeat' first|trivial|rfl|apply And.intro
set_option maxHeartbeats 4000000 in
noncomputable def lateCCon:Con T O:=fun args cs=>match args,cs with
 |[.ptr 0 0, .ptr 1 0],[.cells [.raw (.int .i64 at1)] 2, .cells [.ptr 2 0] 109, .cells [.raw (.int .i64 _), .raw (.int .i64 _), .raw (.bool _), .raw (.bool _), .ptr 3 0, .own 4, .raw (.int .i64 _), .raw (.int .i64 _), .raw (.int .i64 _), .raw (.int .i64 _), .raw (.int .i64 _), .raw (.int .i64 _)] 179, .cells [.raw (.int .i64 s_0), .raw (.int .i64 s_1), .raw (.int .i64 s_2), .raw (.int .i64 s_3), .raw (.int .i64 s_4), .raw (.int .i64 s_5), .raw (.int .i64 s_6), .raw (.int .i64 s_7), .raw (.int .i64 s_8), .raw (.int .i64 s_9), .raw (.int .i64 s_10), .raw (.int .i64 s_11), .raw (.int .i64 s_12), .raw (.int .i64 s_13), .raw (.int .i64 s_14), .raw (.int .i64 s_15), .raw (.int .i64 s_16), .raw (.int .i64 s_17), .raw (.int .i64 s_18)] 226, .que 2 W 39]=> .ret ⟨some (.raw (.int .i64 ((lateT at1 (⟨s_0,s_1,s_2,s_3,s_4,s_5,s_6,s_7,s_8,s_9,s_10,s_11,s_12,s_13,s_14,s_15,s_16,s_17,s_18⟩:Stp))))),[(4,some (.que 2 W 39))]⟩
 |_,_=> .fail
theorem lateCOk:ConOk R Tryz.prog 108 lateCCon:=con_of_fn R (X28) (good (X28) rfl (TabOk.con R X28Ok)) mixed Tryz.call108 Tryz.func108 lateCCon (by
 intro args cs K h
 unfold lateCCon at h
 split at h
 ·rename_i at1 E P te tc r_0 r_1 r_2 r_3 r_4 dn s_0 s_1 s_2 s_3 s_4 s_5 s_6 s_7 s_8 s_9 s_10 s_11 s_12 s_13 s_14 s_15 s_16 s_17 s_18 W
  refine ⟨noAnn,_,fun v S hv=>⟨_,h,hv⟩, ?_⟩
  have hv:=lateCVc at1 E P te tc (⟨r_0,r_1,r_2,r_3,r_4⟩:Sub) dn (⟨s_0,s_1,s_2,s_3,s_4,s_5,s_6,s_7,s_8,s_9,s_10,s_11,s_12,s_13,s_14,s_15,s_16,s_17,s_18⟩:Stp) W
  unfold cs2 at hv
  rw [hv]
  exact lateCHolds at1 E P te tc (⟨r_0,r_1,r_2,r_3,r_4⟩:Sub) dn (⟨s_0,s_1,s_2,s_3,s_4,s_5,s_6,s_7,s_8,s_9,s_10,s_11,s_12,s_13,s_14,s_15,s_16,s_17,s_18⟩:Stp) W
 ·exact h.elim)
noncomputable def tab29:Tab T O:=(114,cutCCon)::(108,lateCCon)::tab28
theorem tabOk29:TabOk R Tryz.prog tab29:=TabOk.cons R cutCOk<|TabOk.cons R lateCOk<|tabOk28
noncomputable def X29:Ctx T O:= { X0 with con:=conOf tab29 }
theorem X29Ok:TabOk R X29.P tab29:=tabOk29
end Go.Proofs.YtlfjbnflfdnoaaaGreat
namespace Go.Proofs.YtlfjbnflfdnoaaaGreat
open Go.Sx Go.Proofs Classical
theorem arrL_len (at1:Int) (s:Stp): ∀x:Nat,(arrL at1 x s).length=x
 |0=>rfl
 |x+1=>by simp only [arrL,List.length_append,arrL_len at1 s x,List.length_singleton]
noncomputable def arrCA (E:Int) (P:Int) (te:Bool) (tc:Bool) (r:Sub) (dn:Int) (s:Stp) (W:List Sub) (at1:Int) (n:Int):Ann T O:=oneLoop 9 { σ:=Nat,st:=fun S x=>(((((S.keep [3,4,7,39]).int 40 x).drop 2).chunk 0 (.cells [.raw (.int .i64 E), .raw (.int .i64 P), .raw (.bool te), .raw (.bool tc), .ptr 1 0, .own S.next, .raw (.int .i64 r.Index), .raw (.int .i64 r.Release), .raw (.int .i64 r.Deadline), .raw (.int .i64 r.Bit), .raw (.int .i64 r.Group), .raw (.int .i64 dn)] 179)).chunk 1 (.cells [.raw (.int .i64 ((arrS at1 x s).E)), .raw (.int .i64 ((arrS at1 x s).P)), .raw (.int .i64 ((arrS at1 x s).off)), .raw (.int .i64 ((arrS at1 x s).idx)), .raw (.int .i64 ((arrS at1 x s).whole)), .raw (.int .i64 ((arrS at1 x s).rest)), .raw (.int .i64 ((arrS at1 x s).ew)), .raw (.int .i64 ((arrS at1 x s).el)), .raw (.int .i64 ((arrS at1 x s).eo)), .raw (.int .i64 ((arrS at1 x s).long)), .raw (.int .i64 ((arrS at1 x s).part)), .raw (.int .i64 ((arrS at1 x s).gw)), .raw (.int .i64 ((arrS at1 x s).gl)), .raw (.int .i64 ((arrS at1 x s).go)), .raw (.int .i64 ((arrS at1 x s).sub.Index)), .raw (.int .i64 ((arrS at1 x s).sub.Release)), .raw (.int .i64 ((arrS at1 x s).sub.Deadline)), .raw (.int .i64 ((arrS at1 x s).sub.Bit)), .raw (.int .i64 ((arrS at1 x s).sub.Group))] 226)).add (.que 2 (W++arrL at1 x s) 39),inv:=fun _ x=>x<=n.toNat,m:=fun x=>n.toNat-x }
noncomputable def arrCE0 (E:Int) (P:Int) (te:Bool) (tc:Bool) (r:Sub) (dn:Int) (s:Stp) (W:List Sub) (at1:Int) (n:Int):Eff T O:=⟨some (.raw (.int .i64 0)),[(0,some (.cells [.raw (.int .i64 E), .raw (.int .i64 P), .raw (.bool te), .raw (.bool tc), .ptr 1 0, .own 3, .raw (.int .i64 r.Index), .raw (.int .i64 r.Release), .raw (.int .i64 r.Deadline), .raw (.int .i64 r.Bit), .raw (.int .i64 r.Group), .raw (.int .i64 dn)] 179)),(1,some (.cells [.raw (.int .i64 ((arrS at1 n.toNat s).E)), .raw (.int .i64 ((arrS at1 n.toNat s).P)), .raw (.int .i64 ((arrS at1 n.toNat s).off)), .raw (.int .i64 ((arrS at1 n.toNat s).idx)), .raw (.int .i64 ((arrS at1 n.toNat s).whole)), .raw (.int .i64 ((arrS at1 n.toNat s).rest)), .raw (.int .i64 ((arrS at1 n.toNat s).ew)), .raw (.int .i64 ((arrS at1 n.toNat s).el)), .raw (.int .i64 ((arrS at1 n.toNat s).eo)), .raw (.int .i64 ((arrS at1 n.toNat s).long)), .raw (.int .i64 ((arrS at1 n.toNat s).part)), .raw (.int .i64 ((arrS at1 n.toNat s).gw)), .raw (.int .i64 ((arrS at1 n.toNat s).gl)), .raw (.int .i64 ((arrS at1 n.toNat s).go)), .raw (.int .i64 ((arrS at1 n.toNat s).sub.Index)), .raw (.int .i64 ((arrS at1 n.toNat s).sub.Release)), .raw (.int .i64 ((arrS at1 n.toNat s).sub.Deadline)), .raw (.int .i64 ((arrS at1 n.toNat s).sub.Bit)), .raw (.int .i64 ((arrS at1 n.toNat s).sub.Group))] 226)),(2,none),(3,some (.que 2 (W++arrL at1 n.toNat s) 39))]⟩
def arrCText (E P:Int) (te tc:Bool) (r:Sub) (dn:Int) (s:Stp) (W:List Sub) (at1 n:Int):Prop:=let q5:=((r.Index=r.Index)/\ ((r.Release=r.Release)/\ ((r.Deadline=r.Deadline)/\ ((r.Bit=r.Bit)/\ ((r.Group=r.Group)/\ ((dn=dn)/\ True))))));let q3:=((E=E)/\ ((P=P)/\ ((te=te)/\ ((tc=tc)/\ (True/\ (True/\ q5))))));let q0:=(q3/\ ((((arrS at1 n.toNat s).E=s.E)/\ (((arrS at1 n.toNat s).P=s.P)/\ (((arrS at1 n.toNat s).off=s.off)/\ (((arrS at1 n.toNat s).idx=s.idx)/\ (((arrS at1 n.toNat s).whole=s.whole)/\ (((arrS at1 n.toNat s).rest=s.rest)/\ (((arrS at1 n.toNat s).ew=s.ew)/\ (((arrS at1 n.toNat s).el=s.el)/\ (((arrS at1 n.toNat s).eo=s.eo)/\ (((arrS at1 n.toNat s).long=s.long)/\ (((arrS at1 n.toNat s).part=s.part)/\ (((arrS at1 n.toNat s).gw=s.gw)/\ (((arrS at1 n.toNat s).gl=s.gl)/\ (((arrS at1 n.toNat s).go=s.go)/\ (((arrS at1 n.toNat s).sub.Index=s.sub.Index)/\ (((arrS at1 n.toNat s).sub.Release=s.sub.Release)/\ (((arrS at1 n.toNat s).sub.Deadline=s.sub.Deadline)/\ (((arrS at1 n.toNat s).sub.Bit=s.sub.Bit)/\ (((arrS at1 n.toNat s).sub.Group=s.sub.Group)/\ True)))))))))))))))))))/\ ((W++arrL at1 n.toNat s=W)/\ True)));let q1:=(q3/\ (((s.E=s.E)/\ ((s.P=s.P)/\ ((s.off=s.off)/\ ((s.idx=s.idx)/\ ((s.whole=s.whole)/\ ((s.rest=s.rest)/\ ((s.ew=s.ew)/\ ((s.el=s.el)/\ ((s.eo=s.eo)/\ ((s.long=s.long)/\ ((s.part=s.part)/\ ((s.gw=s.gw)/\ ((s.gl=s.gl)/\ ((s.go=s.go)/\ ((s.sub.Index=s.sub.Index)/\ ((s.sub.Release=s.sub.Release)/\ ((s.sub.Deadline=s.sub.Deadline)/\ ((s.sub.Bit=s.sub.Bit)/\ ((s.sub.Group=s.sub.Group)/\ True)))))))))))))))))))/\ ((W=W)/\ True)));let q7:=(arrE at1 n tc W==(0:Int));let q4:=(match q7 with|true=>((((0:Int)=(1:Int))/\ True)/\ q0)|false=>(((arrE at1 n tc W=(1:Int))/\ True)/\ q1));(match (!taskSlot at1) with|true=>q4|false=>(match (decide (n<(1:Int))) with|true=>q4|false=>(match (decide (n>(64:Int))) with|true=>q4|false=>(match (tc) with|true=>(match q7 with|true=>((((0:Int)=(13:Int))/\ True)/\ q0)|false=>(((arrE at1 n tc W=(13:Int))/\ True)/\ q1))|false=>(match (decide (IntKind.i64.wrap ((↑W.length:Int)+n)>(64:Int))) with|true=>(match q7 with|true=>((((0:Int)=(15:Int))/\ True)/\ q0)|false=>(((arrE at1 n tc W=(15:Int))/\ True)/\ q1))|false=>((∃x:Nat,((x.le n.toNat)/\ ((True/\ (True/\ ((True/\ (True/\ True))/\ ((n=n)/\ (((↑x:Int)=(0:Int))/\ True)))))/\ (q3/\ ((((arrS at1 x s).E=s.E)/\ (((arrS at1 x s).P=s.P)/\ (((arrS at1 x s).off=s.off)/\ (((arrS at1 x s).idx=s.idx)/\ (((arrS at1 x s).whole=s.whole)/\ (((arrS at1 x s).rest=s.rest)/\ (((arrS at1 x s).ew=s.ew)/\ (((arrS at1 x s).el=s.el)/\ (((arrS at1 x s).eo=s.eo)/\ (((arrS at1 x s).long=s.long)/\ (((arrS at1 x s).part=s.part)/\ (((arrS at1 x s).gw=s.gw)/\ (((arrS at1 x s).gl=s.gl)/\ (((arrS at1 x s).go=s.go)/\ (((arrS at1 x s).sub.Index=s.sub.Index)/\ (((arrS at1 x s).sub.Release=s.sub.Release)/\ (((arrS at1 x s).sub.Deadline=s.sub.Deadline)/\ (((arrS at1 x s).sub.Bit=s.sub.Bit)/\ (((arrS at1 x s).sub.Group=s.sub.Group)/\ True)))))))))))))))))))/\ ((True/\ True)/\ (((at1=at1)/\ True)/\ ((W++arrL at1 x s=W)/\ True))))))))/\ (∀x:Nat,let q6:=(shiftS (arrS at1 x s) (lateT at1 (arrS at1 x s)));let q2:=(nextS q6);((x.le n.toNat)->(match (decide ((↑x:Int)<n)) with|true=>(match (decide (AdvP q6)) with|true=>(match (roomy ((W++arrL at1 x s).length+(1:Nat)) (nat_lit 40)) with|true=>(∃x':Nat,((x'.le n.toNat)/\ ((n.toNat-x'<n.toNat-x)/\ ((True/\ (True/\ ((True/\ (True/\ True))/\ ((n=n)/\ (((↑x':Int)=IntKind.i64.wrap ((↑x:Int)+(1:Int)))/\ True)))))/\ (q3/\ ((((arrS at1 x' s).E=q2.E)/\ (((arrS at1 x' s).P=q2.P)/\ (((arrS at1 x' s).off=q2.off)/\ (((arrS at1 x' s).idx=q2.idx)/\ (((arrS at1 x' s).whole=q2.whole)/\ (((arrS at1 x' s).rest=q2.rest)/\ (((arrS at1 x' s).ew=q2.ew)/\ (((arrS at1 x' s).el=q2.el)/\ (((arrS at1 x' s).eo=q2.eo)/\ (((arrS at1 x' s).long=q2.long)/\ (((arrS at1 x' s).part=q2.part)/\ (((arrS at1 x' s).gw=q2.gw)/\ (((arrS at1 x' s).gl=q2.gl)/\ (((arrS at1 x' s).go=q2.go)/\ (((arrS at1 x' s).sub.Index=q2.sub.Index)/\ (((arrS at1 x' s).sub.Release=q2.sub.Release)/\ (((arrS at1 x' s).sub.Deadline=q2.sub.Deadline)/\ (((arrS at1 x' s).sub.Bit=q2.sub.Bit)/\ (((arrS at1 x' s).sub.Group=q2.sub.Group)/\ True)))))))))))))))))))/\ ((True/\ True)/\ (((at1=at1)/\ True)/\ ((W++arrL at1 x' s=W++arrL at1 x s++[peekS q6])/\ True)))))))))|false=>False)|false=>False)|false=>(match q7 with|true=>((((0:Int)=(0:Int))/\ True)/\ (q3/\ ((((arrS at1 n.toNat s).E=(arrS at1 x s).E)/\ (((arrS at1 n.toNat s).P=(arrS at1 x s).P)/\ (((arrS at1 n.toNat s).off=(arrS at1 x s).off)/\ (((arrS at1 n.toNat s).idx=(arrS at1 x s).idx)/\ (((arrS at1 n.toNat s).whole=(arrS at1 x s).whole)/\ (((arrS at1 n.toNat s).rest=(arrS at1 x s).rest)/\ (((arrS at1 n.toNat s).ew=(arrS at1 x s).ew)/\ (((arrS at1 n.toNat s).el=(arrS at1 x s).el)/\ (((arrS at1 n.toNat s).eo=(arrS at1 x s).eo)/\ (((arrS at1 n.toNat s).long=(arrS at1 x s).long)/\ (((arrS at1 n.toNat s).part=(arrS at1 x s).part)/\ (((arrS at1 n.toNat s).gw=(arrS at1 x s).gw)/\ (((arrS at1 n.toNat s).gl=(arrS at1 x s).gl)/\ (((arrS at1 n.toNat s).go=(arrS at1 x s).go)/\ (((arrS at1 n.toNat s).sub.Index=(arrS at1 x s).sub.Index)/\ (((arrS at1 n.toNat s).sub.Release=(arrS at1 x s).sub.Release)/\ (((arrS at1 n.toNat s).sub.Deadline=(arrS at1 x s).sub.Deadline)/\ (((arrS at1 n.toNat s).sub.Bit=(arrS at1 x s).sub.Bit)/\ (((arrS at1 n.toNat s).sub.Group=(arrS at1 x s).sub.Group)/\ True)))))))))))))))))))/\ ((W++arrL at1 n.toNat s=W++arrL at1 x s)/\ True))))|false=>(((arrE at1 n tc W=(0:Int))/\ True)/\ (((E=E)/\ ((P=P)/\ ((te=te)/\ ((tc=tc)/\ (True/\ (False/\ q5))))))/\ (((s.E=(arrS at1 x s).E)/\ ((s.P=(arrS at1 x s).P)/\ ((s.off=(arrS at1 x s).off)/\ ((s.idx=(arrS at1 x s).idx)/\ ((s.whole=(arrS at1 x s).whole)/\ ((s.rest=(arrS at1 x s).rest)/\ ((s.ew=(arrS at1 x s).ew)/\ ((s.el=(arrS at1 x s).el)/\ ((s.eo=(arrS at1 x s).eo)/\ ((s.long=(arrS at1 x s).long)/\ ((s.part=(arrS at1 x s).part)/\ ((s.gw=(arrS at1 x s).gw)/\ ((s.gl=(arrS at1 x s).gl)/\ ((s.go=(arrS at1 x s).go)/\ ((s.sub.Index=(arrS at1 x s).sub.Index)/\ ((s.sub.Release=(arrS at1 x s).sub.Release)/\ ((s.sub.Deadline=(arrS at1 x s).sub.Deadline)/\ ((s.sub.Bit=(arrS at1 x s).sub.Bit)/\ ((s.sub.Group=(arrS at1 x s).sub.Group)/\ True)))))))))))))))))))/\ (False/\ True))))))))))))))
theorem arrCVc (E P:Int) (te tc:Bool) (r:Sub) (dn:Int) (s:Stp) (W:List Sub) (at1 n:Int):fnX X29 ((arrCA E P te tc r dn s W at1 n)) Tryz.f71 [.ptr 0 0, .raw (.int .i64 at1), .raw (.int .i64 n)] (cs1 E P te tc r dn s W) (endsIf (arrE at1 n tc W==0) (cs1 E P te tc r dn s W) (arrCE0 E P te tc r dn s W at1 n) ⟨some (.raw (.int .i64 ((arrE at1 n tc W)))),[(2,some (.que 2 W 39))]⟩)=arrCText E P te tc r dn s W at1 n:=by kernel_rfl
theorem arrCHolds (E P:Int) (te tc:Bool) (r:Sub) (dn:Int) (s:Stp) (W:List Sub) (at1 n:Int) (hp:W.length<=64/\ (arrE at1 n tc W=0-> ∀k:Nat,k<n.toNat->AdvP (arr1 at1 (arrS at1 k s)))):arrCText E P te tc r dn s W at1 n:=by
 unfold arrCText
 conv=>zeta
 obtain ⟨hl,hA⟩:=hp
 have beq: ∀k:Int,k≠0->(k==0)=false:=fun k hk=>beq_eq_false_iff_ne.2 hk
 cases h1:taskSlot at1
 ·have hE:arrE at1 n tc W=1:=by unfold arrE;rw [h1];rfl
  rw [hE,beq 1 (by decide)]
  repeat' first|trivial|rfl|apply And.intro
 by_cases h2:n<1
 ·have hE:arrE at1 n tc W=1:=by unfold arrE;rw [h1,decide_eq_true h2];rfl
  rw [hE,beq 1 (by decide),decide_eq_true h2]
  repeat' first|trivial|rfl|apply And.intro
 by_cases h3:n>64
 ·have hE:arrE at1 n tc W=1:=by unfold arrE;rw [h1,decide_eq_false h2,decide_eq_true h3];rfl
  rw [hE,beq 1 (by decide),decide_eq_false h2,decide_eq_true h3]
  repeat' first|trivial|rfl|apply And.intro
 cases h4:tc
 ·by_cases h5:(W.length:Int)+n>64
  ·have hE:arrE at1 n false W=15:=by unfold arrE;rw [h1,decide_eq_false h2,decide_eq_false h3,decide_eq_true h5];rfl
   rw [hE,beq 15 (by decide),decide_eq_false h2,decide_eq_false h3,wrap_id (by omega) (by omega),decide_eq_true h5]
   repeat' first|trivial|rfl|apply And.intro
  ·have hE:arrE at1 n false W=0:=by unfold arrE;rw [h1,decide_eq_false h2,decide_eq_false h3,decide_eq_false h5];rfl
   rw [h4] at hA
   have hA:=hA hE
   rw [hE,show ((0:Int)==0)=true from rfl,decide_eq_false h2,decide_eq_false h3,wrap_id (n:=(W.length:Int)+n) (by omega) (by omega),decide_eq_false h5]
   refine ⟨⟨0,Nat.zero_le _,by
    have e:W++arrL at1 0 s=W:=List.append_nil W
    repeat' first|exact e|trivial|rfl|apply And.intro⟩, ?_⟩
   intro x hx
   have hx:x<=n.toNat:=hx
   by_cases h6:(x:Int)<n
   ·rw [decide_eq_true h6,show decide (AdvP (shiftS (arrS at1 x s) (lateT at1 (arrS at1 x s))))=true from decide_eq_true (hA x (by omega))]
    have hlen:=arrL_len at1 s x
    have hro:roomy ((W++arrL at1 x s).length+1) 40=true:=by
     unfold roomy
     rw [List.length_append,hlen]
     simp
     omega
    rw [hro]
    refine ⟨x+1,by show x+1<=_;omega,by omega, ?_⟩
    rw [wrap_id (n:=(x:Int)+1) (by omega) (by omega)]
    have e:W++arrL at1 (x+1) s=W++arrL at1 x s++[peekS (shiftS (arrS at1 x s) (lateT at1 (arrS at1 x s)))]:=by
     simp only [arrL,List.append_assoc];rfl
    repeat' first|exact e|trivial|rfl|apply And.intro
   ·rw [decide_eq_false h6]
    have e:x=n.toNat:=by omega
    subst e
    repeat' first|trivial|rfl|apply And.intro
 ·have hE:arrE at1 n true W=13:=by unfold arrE;rw [h1,decide_eq_false h2,decide_eq_false h3];rfl
  rw [hE,beq 13 (by decide),decide_eq_false h2,decide_eq_false h3]
  repeat' first|trivial|rfl|apply And.intro
set_option maxHeartbeats 4000000 in
noncomputable def arrCCon:Con T O:=fun args cs=>match args,cs with
 |[.ptr 0 0, .raw (.int .i64 at1), .raw (.int .i64 n)],[.cells [.raw (.int .i64 E), .raw (.int .i64 P), .raw (.bool te), .raw (.bool tc), .ptr 1 0, .own 2, .raw (.int .i64 r_0), .raw (.int .i64 r_1), .raw (.int .i64 r_2), .raw (.int .i64 r_3), .raw (.int .i64 r_4), .raw (.int .i64 dn)] 179, .cells [.raw (.int .i64 s_0), .raw (.int .i64 s_1), .raw (.int .i64 s_2), .raw (.int .i64 s_3), .raw (.int .i64 s_4), .raw (.int .i64 s_5), .raw (.int .i64 s_6), .raw (.int .i64 s_7), .raw (.int .i64 s_8), .raw (.int .i64 s_9), .raw (.int .i64 s_10), .raw (.int .i64 s_11), .raw (.int .i64 s_12), .raw (.int .i64 s_13), .raw (.int .i64 s_14), .raw (.int .i64 s_15), .raw (.int .i64 s_16), .raw (.int .i64 s_17), .raw (.int .i64 s_18)] 226, .que 2 W 39]=>chk (decide (W.length<=64/\ (arrE at1 n tc W=0-> ∀k:Nat,k<n.toNat->AdvP (arr1 at1 (arrS at1 k (⟨s_0,s_1,s_2,s_3,s_4,s_5,s_6,s_7,s_8,s_9,s_10,s_11,s_12,s_13,s_14,s_15,s_16,s_17,s_18⟩:Stp)))))) (.ite (arrE at1 n tc W==0) (.ret (arrCE0 E P te tc (⟨r_0,r_1,r_2,r_3,r_4⟩:Sub) dn (⟨s_0,s_1,s_2,s_3,s_4,s_5,s_6,s_7,s_8,s_9,s_10,s_11,s_12,s_13,s_14,s_15,s_16,s_17,s_18⟩:Stp) W at1 n)) (.ret ⟨some (.raw (.int .i64 ((arrE at1 n tc W)))),[(2,some (.que 2 W 39))]⟩))
 |_,_=> .fail
theorem arrCOk:ConOk R Tryz.prog 71 arrCCon:=con_of_fn R (X29) (good (X29) rfl (TabOk.con R X29Ok)) mixed Tryz.call71 Tryz.func71 arrCCon (by
 intro args cs K h
 unfold arrCCon at h
 split at h
 ·rename_i at1 n E P te tc r_0 r_1 r_2 r_3 r_4 dn s_0 s_1 s_2 s_3 s_4 s_5 s_6 s_7 s_8 s_9 s_10 s_11 s_12 s_13 s_14 s_15 s_16 s_17 s_18 W
  rw [Tree.holds_chk] at h
  obtain ⟨hp,h⟩:=h
  refine ⟨(arrCA E P te tc (⟨r_0,r_1,r_2,r_3,r_4⟩:Sub) dn (⟨s_0,s_1,s_2,s_3,s_4,s_5,s_6,s_7,s_8,s_9,s_10,s_11,s_12,s_13,s_14,s_15,s_16,s_17,s_18⟩:Stp) W at1 n),_,fun v S hv=>holds_if h v S hv, ?_⟩
  have hv:=arrCVc E P te tc (⟨r_0,r_1,r_2,r_3,r_4⟩:Sub) dn (⟨s_0,s_1,s_2,s_3,s_4,s_5,s_6,s_7,s_8,s_9,s_10,s_11,s_12,s_13,s_14,s_15,s_16,s_17,s_18⟩:Stp) W at1 n
  unfold cs1 at hv
  rw [hv]
  exact arrCHolds E P te tc (⟨r_0,r_1,r_2,r_3,r_4⟩:Sub) dn (⟨s_0,s_1,s_2,s_3,s_4,s_5,s_6,s_7,s_8,s_9,s_10,s_11,s_12,s_13,s_14,s_15,s_16,s_17,s_18⟩:Stp) W at1 n (of_decide_eq_true hp)
 ·exact h.elim)
noncomputable def newTE0 (E:Int) (P:Int) (at1:Int) (te:Bool):Eff T O:=⟨some (.ptr 0 0),[(0,some (.cells [.raw (.int .i64 E), .raw (.int .i64 P), .raw (.bool te), .raw (.bool false), .ptr 1 0, .own 2, .raw (.int .i64 subZ.Index), .raw (.int .i64 subZ.Release), .raw (.int .i64 subZ.Deadline), .raw (.int .i64 subZ.Bit), .raw (.int .i64 subZ.Group), .raw (.int .i64 0)] 179)),(1,some (.cells [.raw (.int .i64 ((advN (st0 E P at1)).E)), .raw (.int .i64 ((advN (st0 E P at1)).P)), .raw (.int .i64 ((advN (st0 E P at1)).off)), .raw (.int .i64 ((advN (st0 E P at1)).idx)), .raw (.int .i64 ((advN (st0 E P at1)).whole)), .raw (.int .i64 ((advN (st0 E P at1)).rest)), .raw (.int .i64 ((advN (st0 E P at1)).ew)), .raw (.int .i64 ((advN (st0 E P at1)).el)), .raw (.int .i64 ((advN (st0 E P at1)).eo)), .raw (.int .i64 ((advN (st0 E P at1)).long)), .raw (.int .i64 ((advN (st0 E P at1)).part)), .raw (.int .i64 ((advN (st0 E P at1)).gw)), .raw (.int .i64 ((advN (st0 E P at1)).gl)), .raw (.int .i64 ((advN (st0 E P at1)).go)), .raw (.int .i64 ((advN (st0 E P at1)).sub.Index)), .raw (.int .i64 ((advN (st0 E P at1)).sub.Release)), .raw (.int .i64 ((advN (st0 E P at1)).sub.Deadline)), .raw (.int .i64 ((advN (st0 E P at1)).sub.Bit)), .raw (.int .i64 ((advN (st0 E P at1)).sub.Group))] 226)),(2,some (.que 2 noSubs 39))]⟩
def newTText (E P at1:Int) (te:Bool):Prop:=(match (!windowCheck E P) with|true=>False|false=>(match (!taskSlot at1) with|true=>False|false=>(match (decide (windowCheck E P=true/\ (0:Int)<=at1/\ at1<=(2305843009213693952:Int))) with|true=>((True/\ True)/\ (((E=E)/\ ((P=P)/\ ((te=te)/\ ((false=false)/\ (True/\ (True/\ ((subZ.Index=(0:Int))/\ ((subZ.Release=(0:Int))/\ ((subZ.Deadline=(0:Int))/\ ((subZ.Bit=(0:Int))/\ ((subZ.Group=(0:Int))/\ (((0:Int)=(0:Int))/\ True))))))))))))/\ ((((advN (st0 E P at1)).E=(advN (st0 E P at1)).E)/\ (((advN (st0 E P at1)).P=(advN (st0 E P at1)).P)/\ (((advN (st0 E P at1)).off=(advN (st0 E P at1)).off)/\ (((advN (st0 E P at1)).idx=(advN (st0 E P at1)).idx)/\ (((advN (st0 E P at1)).whole=(advN (st0 E P at1)).whole)/\ (((advN (st0 E P at1)).rest=(advN (st0 E P at1)).rest)/\ (((advN (st0 E P at1)).ew=(advN (st0 E P at1)).ew)/\ (((advN (st0 E P at1)).el=(advN (st0 E P at1)).el)/\ (((advN (st0 E P at1)).eo=(advN (st0 E P at1)).eo)/\ (((advN (st0 E P at1)).long=(advN (st0 E P at1)).long)/\ (((advN (st0 E P at1)).part=(advN (st0 E P at1)).part)/\ (((advN (st0 E P at1)).gw=(advN (st0 E P at1)).gw)/\ (((advN (st0 E P at1)).gl=(advN (st0 E P at1)).gl)/\ (((advN (st0 E P at1)).go=(advN (st0 E P at1)).go)/\ (((advN (st0 E P at1)).sub.Index=(advN (st0 E P at1)).sub.Index)/\ (((advN (st0 E P at1)).sub.Release=(advN (st0 E P at1)).sub.Release)/\ (((advN (st0 E P at1)).sub.Deadline=(advN (st0 E P at1)).sub.Deadline)/\ (((advN (st0 E P at1)).sub.Bit=(advN (st0 E P at1)).sub.Bit)/\ (((advN (st0 E P at1)).sub.Group=(advN (st0 E P at1)).sub.Group)/\ True)))))))))))))))))))/\ ((noSubs=[])/\ True))))|false=>False)))
theorem newTVc (E P at1:Int) (te:Bool):fnX X29 (noAnn) Tryz.f68 [.agg [.raw (.int .i64 E), .raw (.int .i64 P)], .raw (.int .i64 at1), .raw (.bool te)] [] (ends [] (newTE0 E P at1 te))=newTText E P at1 te:=by kernel_rfl
theorem newTHolds (E P at1:Int) (te:Bool) (hp:windowCheck E P=true/\ 0<=at1/\ at1<=1099511627776):newTText E P at1 te:=by
 unfold newTText
 obtain ⟨hc,h1,h2⟩:=hp
 have hs:taskSlot at1=true:=by
  unfold taskSlot
  rw [decide_eq_true (show at1>=0 by omega)]
  exact decide_eq_true h2
 rw [hs,show decide (windowCheck E P=true/\ 0<=at1/\ at1<=2305843009213693952)=true from decide_eq_true ⟨hc,h1,by omega⟩,hc]
 repeat' first|trivial|rfl|apply And.intro
set_option maxHeartbeats 4000000 in
noncomputable def newTCon:Con T O:=fun args cs=>match args,cs with
 |[.agg [.raw (.int .i64 E), .raw (.int .i64 P)], .raw (.int .i64 at1), .raw (.bool te)],[]=>chk (decide (windowCheck E P=true/\ 0<=at1/\ at1<=1099511627776)) (.ret (newTE0 E P at1 te))
 |_,_=> .fail
theorem newTOk:ConOk R Tryz.prog 68 newTCon:=con_of_fn R (X29) (good (X29) rfl (TabOk.con R X29Ok)) mixed Tryz.call68 Tryz.func68 newTCon (by
 intro args cs K h
 unfold newTCon at h
 split at h
 ·rename_i E P at1 te
  rw [Tree.holds_chk] at h
  obtain ⟨hp,h⟩:=h
  refine ⟨noAnn,_,fun v S hv=>⟨_,h,hv⟩, ?_⟩
  rw [newTVc E P at1 te]
  exact newTHolds E P at1 te (of_decide_eq_true hp)
 ·exact h.elim)
noncomputable def tab30:Tab T O:=(71,arrCCon)::(68,newTCon)::tab29
theorem tabOk30:TabOk R Tryz.prog tab30:=TabOk.cons R arrCOk<|TabOk.cons R newTOk<|tabOk29
noncomputable def X30:Ctx T O:= { X0 with con:=conOf tab30 }
theorem X30Ok:TabOk R X30.P tab30:=tabOk30
end Go.Proofs.YtlfjbnflfdnoaaaGreat
namespace Go.Proofs.YtlfjbnflfdnoaaaGreat
open Go.Sx Go.Proofs Classical
def Wt (e p:Int):Prop:=1<=e/\ e<=p/\ p<=1048576
def Num (i:Int):Prop:=1<=i/\ i<=1099511627776
theorem check_of {e p:Int} (h:Wt e p):ref04Check e p=true:=by
 obtain ⟨h1,h2,h3⟩:=h
 unfold ref04Check
 rw [decide_eq_true h1,decide_eq_true h2]
 exact decide_eq_true h3
theorem wcheck_of {e p:Int} (h:Wt e p):windowCheck e p=true:=by
 obtain ⟨h1,h2,h3⟩:=h
 unfold windowCheck
 rw [decide_eq_true h1,decide_eq_true h2]
 exact decide_eq_true h3
theorem number_of {e p i:Int} (h:Wt e p) (hi:Num i):ref04Number e p i=true:=by
 unfold ref04Number
 rw [check_of h,decide_eq_true hi.1]
 exact decide_eq_true hi.2
theorem heavy_of {e p:Int} (h:Wt e p):ref04Heavy e p=decide (p<=2*e):=by
 obtain ⟨h1,h2,h3⟩:=id h
 unfold ref04Heavy
 rw [check_of h,wrap_id (by omega) (by omega)]
theorem up_pre_of {a b:Int} (hb:1<=b):ref04UpPre a b=true:=by
 unfold ref04UpPre
 have:(b !=0)=true:=by simp;omega
 rw [this]
 cases (decide (IntKind.i64.wrap (IntKind.i64.wrap (a.tdiv b)*b)<a))<;>rfl
theorem up_of {a b:Int} (ha:0<=a) (ha':a<=4611686018427387904) (hb:1<=b) (hb':b<=4611686018427387904):b*ref04Up a b<a+b/\ a<=b*ref04Up a b:=by
 have hn:(b !=0)=true:=by simp;omega
 obtain ⟨h1,h2⟩:=div_spec a (b:=b) (by omega)
 have hq0:0<=a/b:=Int.ediv_nonneg ha (by omega)
 have hq1:a/b<=a:=Int.ediv_le_self b ha
 unfold ref04Up
 rw [hn,tdiv_pos ha,wrap_id (n:=a/b) (by omega) (by omega),Int.mul_comm (a/b) b,wrap_id (n:=b*(a/b)) (by omega) (by omega)]
 simp only
 by_cases hlt:b*(a/b)<a
 ·rw [decide_eq_true hlt]
  simp only
  rw [wrap_id (by omega) (by omega),Int.mul_add,Int.mul_one]
  omega
 ·rw [decide_eq_false hlt]
  simp only
  omega
section
variable {e p i:Int} (h:Wt e p) (hi:Num i)
include h hi
theorem ip_bound:p<=i*p/\ i*p<=1152921504606846976/\ 0<=(i-1)*p/\ (i-1)*p=i*p-p:=by
 obtain ⟨h1,h2,h3⟩:=h
 obtain ⟨h4,h5⟩:=hi
 have a:=mul_le (a:=i) (b:=p) (A:=1099511627776) (B:=1048576) (by omega) (by omega) h5 h3
 have b:=Int.mul_nonneg (a:=i-1) (b:=p) (by omega) (by omega)
 have c:(i-1)*p=i*p-p:=by rw [Int.sub_mul,Int.one_mul]
 omega
theorem release_pre_of:ref04ReleasePre e p i=true:=by
 unfold ref04ReleasePre
 have:(e !=0)=true:=by have:=h.1;simp;omega
 rw [number_of h hi,this];rfl
theorem release_of:e*ref04Release e p i<=i*p-p/\ i*p-p<e*ref04Release e p i+e:=by
 obtain ⟨a,b,c,d⟩:=ip_bound h hi
 obtain ⟨h1,h2,h3⟩:=id h
 obtain ⟨h4,h5⟩:=id hi
 have:(e !=0)=true:=by simp;omega
 unfold ref04Release
 rw [number_of h hi,this,wrap_id (n:=i-1) (by omega) (by omega),wrap_id (n:=(i-1)*p) (by omega) (by omega),tdiv_pos c]
 obtain ⟨q1,q2⟩:=div_spec ((i-1)*p) (b:=e) (by omega)
 have q3:0<=(i-1)*p/e:=Int.ediv_nonneg c (by omega)
 have q4:(i-1)*p/e<=(i-1)*p:=Int.ediv_le_self e c
 simp only [Bool.not_true]
 rw [wrap_id (by omega) (by omega)]
 omega
theorem release_bound:0<=ref04Release e p i/\ ref04Release e p i<=1152921504606846976:=by
 obtain ⟨a,b,c,d⟩:=ip_bound h hi
 obtain ⟨h1,h2,h3⟩:=id h
 obtain ⟨q1,q2⟩:=release_of h hi
 constructor
 ·refine Int.not_lt.1 fun hn=> ?_
  have:=Int.mul_le_mul_of_nonneg_left (show ref04Release e p i<= -1 by omega) (show 0<=e by omega)
  omega
 ·refine Int.not_lt.1 fun hn=> ?_
  have:=Int.mul_le_mul (show 1<=e by omega) (Int.le_refl (ref04Release e p i)) (by omega) (by omega)
  omega
theorem deadline_pre_of:ref04DeadlinePre e p i=true:=by
 unfold ref04DeadlinePre
 rw [number_of h hi,up_pre_of h.1];rfl
theorem deadline_of:e*ref04Deadline e p i<i*p+e/\ i*p<=e*ref04Deadline e p i:=by
 obtain ⟨a,b,c,d⟩:=ip_bound h hi
 obtain ⟨h1,h2,h3⟩:=id h
 unfold ref04Deadline
 rw [number_of h hi,up_pre_of h.1,wrap_id (by omega) (by omega)]
 simp only [Bool.not_true]
 exact up_of (by omega) (by omega) h1 (by omega)
theorem deadline_bound:1<=ref04Deadline e p i/\ ref04Deadline e p i<=1152921504607895552:=by
 obtain ⟨a,b,c,d⟩:=ip_bound h hi
 obtain ⟨h1,h2,h3⟩:=id h
 obtain ⟨q1,q2⟩:=deadline_of h hi
 constructor
 ·refine Int.not_lt.1 fun hn=> ?_
  have:=Int.mul_le_mul_of_nonneg_left (show ref04Deadline e p i<=0 by omega) (show 0<=e by omega)
  omega
 ·refine Int.not_lt.1 fun hn=> ?_
  have:=Int.mul_le_mul (show 1<=e by omega) (Int.le_refl (ref04Deadline e p i)) (by omega) (by omega)
  omega
theorem bit_pre_of:ref04BitPre e p i=true:=by
 unfold ref04BitPre
 have:(e !=0)=true:=by have:=h.1;simp;omega
 rw [number_of h hi,this]
 cases ((IntKind.i64.wrap (i*p)).tmod e==0)<;>rfl
theorem bit_of:(ref04Bit e p i=0/\ i*p=e*ref04Deadline e p i) \/(ref04Bit e p i=1/\ i*p<e*ref04Deadline e p i/\ 2<=e):=by
 obtain ⟨a,b,c,d⟩:=ip_bound h hi
 obtain ⟨h1,h2,h3⟩:=id h
 obtain ⟨q1,q2⟩:=deadline_of h hi
 have:(e !=0)=true:=by simp;omega
 unfold ref04Bit
 rw [number_of h hi,this,wrap_id (by omega) (by omega),tmod_pos (by omega)]
 simp only [Bool.not_true]
 have m1:=Int.emod_nonneg (i*p) (b:=e) (by omega)
 have m2:=Int.emod_lt_of_pos (i*p) (b:=e) (by omega)
 have m3:=Int.mul_ediv_add_emod (i*p) e
 by_cases hz:i*p%e=0
 ·rw [hz]
  refine .inl ⟨rfl, ?_⟩
  --e*q=i*p<=e*D<e*q+e
  have hD:ref04Deadline e p i=i*p/e:=by
   refine Int.le_antisymm (Int.not_lt.1 fun hn=> ?_) (Int.not_lt.1 fun hn=> ?_)
   ·have:=Int.mul_le_mul_of_nonneg_left (show i*p/e+1<=ref04Deadline e p i by omega) (show 0<=e by omega)
    rw [Int.mul_add,Int.mul_one] at this
    omega
   ·have:=Int.mul_le_mul_of_nonneg_left (show ref04Deadline e p i+1<=i*p/e by omega) (show 0<=e by omega)
    rw [Int.mul_add,Int.mul_one] at this
    omega
  rw [hD];omega
 ·have hb:(i*p%e==0)=false:=by simpa using hz
  rw [hb]
  refine .inr ⟨rfl, ?_, ?_⟩
  ·refine Int.not_le.1 fun hn=> ?_
   have he:i*p=e*ref04Deadline e p i:=by omega
   rw [he] at hz
   exact hz (Int.mul_emod_right e _)
  ·omega
end
theorem number_elim {e p i:Int} (h:ref04Number e p i=true):Wt e p/\ Num i:=by
 unfold ref04Number ref04Check at h
 by_cases h1:e>=1
 ·by_cases h2:e<=p
  ·rw [decide_eq_true h1,decide_eq_true h2] at h
   simp only at h
   by_cases h3:p<=1048576
   ·rw [decide_eq_true h3] at h
    simp only at h
    by_cases h4:i>=1
    ·rw [decide_eq_true h4] at h
     simp only at h
     exact ⟨⟨h1,h2,h3⟩,h4,of_decide_eq_true h⟩
    ·rw [decide_eq_false h4] at h;cases h
   ·rw [decide_eq_false h3] at h;cases h
  ·rw [decide_eq_true h1,decide_eq_false h2] at h;cases h
 ·rw [decide_eq_false h1] at h;cases h
def gstar (e p d:Int):Int:=((d-1)*(p-e))/p+1
section
variable {e p i:Int} (h:Wt e p) (hi:Num i) (hv:p<=2*e)
include h hi hv
theorem heavy_deadline:ref04Deadline e p i<=2199023255553:=by
 obtain ⟨h1,h2,h3⟩:=id h
 obtain ⟨h4,h5⟩:=id hi
 obtain ⟨q1,q2⟩:=deadline_of h hi
 refine Int.not_lt.1 fun hn=> ?_
 have m1:=Int.mul_le_mul_of_nonneg_left (show 2*i+1<=ref04Deadline e p i by omega) (show 0<=e by omega)
 have m2:=Int.mul_le_mul_of_nonneg_left hv (show 0<=i by omega)
 grind
variable (hne:e<p)
include hne
theorem gstar_of {d:Int} (hd:ref04Deadline e p i=d):
  1<=gstar e p d/\ p*(gstar e p d-1)<=(d-1)*(p-e)/\ (d-1)*(p-e)<p*gstar e p d/\ p*gstar e p d<=3458764513820540928/\ (d-1)*(p-e)<=2305843009213693952/\ 0<=(d-1)*(p-e):=by
 obtain ⟨h1,h2,h3⟩:=id h
 have hd1:=(deadline_bound h hi).1
 have hd2:=heavy_deadline h hi hv
 rw [hd] at hd1 hd2
 obtain ⟨m1,m2⟩:=mul_le (a:=d-1) (b:=p-e) (A:=2199023255552) (B:=1048576) (by omega) (by omega) (by omega) (by omega)
 obtain ⟨q1,q2⟩:=div_spec ((d-1)*(p-e)) (b:=p) (by omega)
 have q3:0<=(d-1)*(p-e)/p:=Int.ediv_nonneg m1 (by omega)
 have e1:p*gstar e p d=p*((d-1)*(p-e)/p)+p:=by unfold gstar;rw [Int.mul_add,Int.mul_one]
 have e2:p*(gstar e p d-1)=p*((d-1)*(p-e)/p):=by unfold gstar;congr 1;omega
 refine ⟨by unfold gstar;omega,by omega,by omega,by omega,by omega,m1⟩
theorem gend_of {d G:Int} (hd:ref04Deadline e p i=d) (hG:ref04Up (gstar e p d*p) (p-e)=G):
  d<=G/\ G<=ref04Release e p i+p:=by
 obtain ⟨h1,h2,h3⟩:=id h
 obtain ⟨g1,g2,g3,g4,g5,g6⟩:=gstar_of h hi hv hne hd
 obtain ⟨u1,u2⟩:=up_of (a:=gstar e p d*p) (b:=p-e) (Int.mul_nonneg (by omega) (by omega)) (by rw [Int.mul_comm];omega) (by omega) (by omega)
 obtain ⟨q1,q2⟩:=deadline_of h hi
 obtain ⟨r1,r2⟩:=release_of h hi
 rw [hd] at q1 q2
 rw [hG] at u1 u2
 refine ⟨Int.not_lt.1 fun hn=> ?_, ?_⟩
 ·have m1:=Int.mul_le_mul_of_nonneg_left (show G<=d-1 by omega) (show 0<=p-e by omega)
  grind
 ·generalize hk:p-e=k at*
  generalize hg:gstar e p d=g at*
  have a1:e*(g-1)<i*k:=by
   refine Int.not_le.1 fun hn=> ?_
   have m1:=Int.mul_le_mul_of_nonneg_left hn (show 0<=p by omega)
   have m2:=Int.mul_le_mul_of_nonneg_left g2 (show 0<=e by omega)
   have m3:=Int.mul_le_mul_of_nonneg_left (show e*d<=i*p+e-1 by omega) (show 0<=k by omega)
   grind
  refine Int.not_lt.1 fun hn=> ?_
  have m1:=Int.mul_le_mul_of_nonneg_left (show k*G<=g*p+k-1 by omega) (show 0<=e by omega)
  have m2:=Int.mul_le_mul_of_nonneg_left (show e*g<=i*k+e-1 by grind) (show 0<=p by omega)
  have m3:=Int.mul_le_mul_of_nonneg_left (show i*p-p-e+1<=e*ref04Release e p i by omega) (show 0<=k by omega)
  have m4:=Int.mul_le_mul_of_nonneg_left (show ref04Release e p i+p+1<=G by omega) (show 0<=e*k from Int.mul_nonneg (by omega) (by omega))
  have m5:=Int.mul_nonneg (show 0<=e-1 by omega) (show 0<=k-1 by omega)
  have m6:=Int.mul_nonneg m5 (show 0<=p-1 by omega)
  grind
theorem gstart_of {d:Int} (hd:ref04Deadline e p i=d):
  0<=d/p*(p-e)/\ d/p*(p-e)<=gstar e p d/\ d/p*(p-e)<=2305843009213693952:=by
 obtain ⟨h1,h2,h3⟩:=id h
 have hd1:=(deadline_bound h hi).1
 have hd2:=heavy_deadline h hi hv
 rw [hd] at hd1 hd2
 obtain ⟨g1,g2,g3,g4,g5,g6⟩:=gstar_of h hi hv hne hd
 obtain ⟨q1,q2⟩:=div_spec d (b:=p) (by omega)
 have q3:0<=d/p:=Int.ediv_nonneg (by omega) (by omega)
 have q4:d/p<=d:=Int.ediv_le_self p (by omega)
 obtain ⟨m1,m2⟩:=mul_le (a:=d/p) (b:=p-e) (A:=2199023255552) (B:=1048576) (by omega) (by omega) (by
  have:d/p<=2199023255552:=by
   refine Int.not_lt.1 fun hn=> ?_
   have:=Int.mul_le_mul_of_nonneg_right (show 2<=p by omega) (show 0<=d/p by omega)
   omega
  exact this) (by omega)
 refine ⟨m1,Int.not_lt.1 fun hn=> ?_,by omega⟩
 have m3:=Int.mul_le_mul_of_nonneg_left (show gstar e p d+1<=d/p*(p-e) by omega) (show 0<=p by omega)
 have m4:=Int.mul_le_mul_of_nonneg_right q1 (show 0<=p-e by omega)
 grind
theorem gstep_of {x:Int} (hx0:0<=x) (hx:x<=gstar e p (ref04Deadline e p i)):0<=x*p/\ x*p<=3458764513820540928∧
  (ref04Up (x*p) (p-e)<ref04Deadline e p i->x<gstar e p (ref04Deadline e p i))/\ (¬ref04Up (x*p) (p-e)<ref04Deadline e p i->x=gstar e p (ref04Deadline e p i)):=by
 obtain ⟨h1,h2,h3⟩:=id h
 obtain ⟨g1,g2,g3,g4,g5,g6⟩:=gstar_of h hi hv hne rfl
 generalize hg:gstar e p (ref04Deadline e p i)=g at*
 generalize hdd:ref04Deadline e p i=d at*
 have b0:0<=x*p:=Int.mul_nonneg hx0 (by omega)
 have b1:x*p<=p*g:=by rw [Int.mul_comm p g];exact Int.mul_le_mul_of_nonneg_right hx (by omega)
 obtain ⟨u1,u2⟩:=up_of (a:=x*p) (b:=p-e) b0 (by omega) (by omega) (by omega)
 refine ⟨b0,by omega,fun hlt=> ?_,fun hge=> ?_⟩
 ·refine Int.not_le.1 fun hn=> ?_
  have m1:=Int.mul_le_mul_of_nonneg_left (show ref04Up (x*p) (p-e)<=d-1 by omega) (show 0<=p-e by omega)
  have:x=g:=by omega
  subst this
  grind
 ·refine Int.le_antisymm hx (Int.not_lt.1 fun hn=> ?_)
  have m1:=Int.mul_le_mul_of_nonneg_left (show d<=ref04Up (x*p) (p-e) by omega) (show 0<=p-e by omega)
  have m2:=Int.mul_le_mul_of_nonneg_left (show x<=g-1 by omega) (show 0<=p by omega)
  grind
end
def ref04Group (e p i:Int):Int:=
 if ref04Number e p i=true/\ ref04Heavy e p=true then (if e=p then ref04Deadline e p i else ref04Up (gstar e p (ref04Deadline e p i)*p) (p-e)) else 0
noncomputable def ref04GroupA (e:Int) (p:Int) (i:Int):Ann T O:=oneLoop 10 { σ:=Int,st:=fun S x=>(S.keep [1,2,7,8]).int 9 x,inv:=fun _ x=>0<=x/\ x<=gstar e p (ref04Deadline e p i),m:=fun x=>(gstar e p (ref04Deadline e p i)-x).toNat }
def ref04GroupText (e p i:Int):Prop:=let q1:=(IntKind.i64.wrap (p-e));(match (!ref04Number e p i) with|true=>(((ref04Group e p i=(0:Int))/\ True)/\ True)|false=>(match (!ref04Heavy e p) with|true=>(((ref04Group e p i=(0:Int))/\ True)/\ True)|false=>(match (ref04DeadlinePre e p i) with|true=>(match (e==p) with|true=>(((ref04Group e p i=ref04Deadline e p i)/\ True)/\ True)|false=>(match (p !=(0:Int)) with|true=>((∃x:Int,((((0:Int)<=x)/\ (x<=gstar e p (ref04Deadline e p i)))/\ (((i=i)/\ (True/\ ((ref04Deadline e p i=ref04Deadline e p i)/\ ((IntKind.i64.wrap (p-e)=IntKind.i64.wrap (p-e))/\ ((x=IntKind.i64.wrap (IntKind.i64.wrap ((ref04Deadline e p i).tdiv p)*IntKind.i64.wrap (p-e)))/\ True)))))/\ (((e=e)/\ ((p=p)/\ True))/\ True))))/\ (∀x:Int,let q0:=(IntKind.i64.wrap (x*p));((((0:Int)<=x)/\ (x<=gstar e p (ref04Deadline e p i)))->(match (ref04UpPre q0 q1) with|true=>(match (decide (ref04Up q0 q1<ref04Deadline e p i)) with|true=>(∃x':Int,((((0:Int)<=x')/\ (x'<=gstar e p (ref04Deadline e p i)))/\ (((gstar e p (ref04Deadline e p i)-x').toNat<(gstar e p (ref04Deadline e p i)-x).toNat)/\ (((i=i)/\ (True/\ ((ref04Deadline e p i=ref04Deadline e p i)/\ ((IntKind.i64.wrap (p-e)=IntKind.i64.wrap (p-e))/\ ((x'=IntKind.i64.wrap (x+(1:Int)))/\ True)))))/\ (((e=e)/\ ((p=p)/\ True))/\ True)))))|false=>(match (ref04UpPre q0 q1) with|true=>(((ref04Group e p i=ref04Up q0 q1)/\ True)/\ True)|false=>False))|false=>False))))|false=>False))|false=>False)))
theorem ref04GroupVc (e p i:Int):fnX X30 ((ref04GroupA e p i)) Tryz.f154 [.agg [.raw (.int .i64 e), .raw (.int .i64 p)], .raw (.int .i64 i)] [] (ends [] ⟨some (.raw (.int .i64 (ref04Group e p i))),[]⟩)=ref04GroupText e p i:=by kernel_rfl
theorem ref04GroupHolds (e p i:Int):ref04GroupText e p i:=by
 unfold ref04GroupText
 conv=>zeta
 unfold ref04Group
 cases hnum:ref04Number e p i
 ·exact ⟨⟨rfl,trivial⟩,trivial⟩
 obtain ⟨h,hi⟩:=number_elim hnum
 obtain ⟨h1,h2,h3⟩:=id h
 simp only [Bool.not_true]
 cases hhv:ref04Heavy e p
 ·exact ⟨⟨rfl,trivial⟩,trivial⟩
 have hv:p<=2*e:=by rw [heavy_of h] at hhv;exact of_decide_eq_true hhv
 simp only [Bool.not_true,deadline_pre_of h hi]
 by_cases hep:e=p
 ·have:(e==p)=true:=by simpa using hep
  rw [this]
  simp [hep]
 have hne:e<p:=by omega
 have hb:(e==p)=false:=by simpa using hep
 have hp0:(p !=0)=true:=by simp;omega
 rw [hb,hp0]
 obtain ⟨d1,d2⟩:=deadline_bound h hi
 obtain ⟨s1,s2,s3⟩:=gstart_of h hi hv hne rfl
 have hdp:ref04Deadline e p i/p<=ref04Deadline e p i:=Int.ediv_le_self p (by omega)
 have hdp0:0<=ref04Deadline e p i/p:=Int.ediv_nonneg (by omega) (by omega)
 have hk:IntKind.i64.wrap (p-e)=p-e:=wrap_id (by omega) (by omega)
 simp only [hk,tdiv_pos (show 0<=ref04Deadline e p i by omega)]
 rw [wrap_id (n:=ref04Deadline e p i/p) (by omega) (by omega),wrap_id (n:=ref04Deadline e p i/p*(p-e)) (by omega) (by omega)]
 refine ⟨⟨ref04Deadline e p i/p*(p-e),⟨s1,s2⟩,by simp⟩, ?_⟩
 rintro x ⟨x0,x1⟩
 obtain ⟨b0,b1,b2,b3⟩:=gstep_of h hi hv hne x0 x1
 obtain ⟨g1,g2,g3,g4,g5,g6⟩:=gstar_of h hi hv hne rfl
 rw [wrap_id (n:=x*p) (by omega) (by omega),up_pre_of (by omega)]
 by_cases hlt:ref04Up (x*p) (p-e)<ref04Deadline e p i
 ·rw [decide_eq_true hlt]
  have hx:=b2 hlt
  have hgm:gstar e p (ref04Deadline e p i)<=p*gstar e p (ref04Deadline e p i):=by
   have:=Int.mul_le_mul_of_nonneg_right (show 1<=p by omega) (show 0<=gstar e p (ref04Deadline e p i) by omega)
   omega
  refine ⟨x+1,⟨by omega,by omega⟩,by omega, ?_⟩
  rw [wrap_id (n:=x+1) (by omega) (by omega)]
  simp
 ·rw [decide_eq_false hlt]
  have hx:=b3 hlt
  simp [hx,hep]
noncomputable def ref04GroupCon:Con T O:=fun args cs=>match args,cs with
 |[.agg [.raw (.int .i64 e), .raw (.int .i64 p)], .raw (.int .i64 i)],[]=> .ret ⟨some (.raw (.int .i64 (ref04Group e p i))),[]⟩
 |_,_=> .fail
theorem ref04GroupOk:ConOk R Tryz.prog 154 ref04GroupCon:=con_of_fn R (X30) (good (X30) rfl (TabOk.con R X30Ok)) mixed Tryz.call154 Tryz.func154 ref04GroupCon (by
 intro args cs K h
 unfold ref04GroupCon at h
 split at h
 ·rename_i e p i
  refine ⟨(ref04GroupA e p i),_,fun v S hv=>⟨_,h,hv⟩, ?_⟩
  rw [ref04GroupVc e p i]
  exact ref04GroupHolds e p i
 ·exact h.elim)
def ruleOfText (e p:Int):Prop:=(match (windowHeavy e p) with|true=>(match (windowHeavy e p) with|true=>((True/\ True)/\ True)|false=>((False/\ True)/\ True))|false=>(match (windowHeavy e p) with|true=>((False/\ True)/\ True)|false=>((True/\ True)/\ True)))
theorem ruleOfVc (e p:Int):fnX X30 (noAnn) Tryz.f188 [.agg [.raw (.int .i64 e), .raw (.int .i64 p)]] [] (endsIf (windowHeavy e p) [] ⟨some (.iface 255 (.agg [])),[]⟩ ⟨some (.iface 256 (.agg [])),[]⟩)=ruleOfText e p:=by kernel_rfl
theorem ruleOfHolds (e p:Int):ruleOfText e p:=by
 unfold ruleOfText
 cases windowHeavy e p<;>(repeat' first|trivial|rfl|apply And.intro)
noncomputable def ruleOfCon:Con T O:=fun args cs=>match args,cs with
 |[.agg [.raw (.int .i64 e), .raw (.int .i64 p)]],[]=> .ite (windowHeavy e p) (.ret ⟨some (.iface 255 (.agg [])),[]⟩) (.ret ⟨some (.iface 256 (.agg [])),[]⟩)
 |_,_=> .fail
theorem ruleOfOk:ConOk R Tryz.prog 188 ruleOfCon:=con_of_fn R (X30) (good (X30) rfl (TabOk.con R X30Ok)) mixed Tryz.call188 Tryz.func188 ruleOfCon (by
 intro args cs K h
 unfold ruleOfCon at h
 split at h
 ·rename_i e p
  refine ⟨noAnn,_,fun v S hv=>holds_if h v S hv, ?_⟩
  rw [ruleOfVc e p]
  exact ruleOfHolds e p
 ·exact h.elim)
noncomputable def tab31:Tab T O:=(154,ref04GroupCon)::(188,ruleOfCon)::tab30
theorem tabOk31:TabOk R Tryz.prog tab31:=TabOk.cons R ref04GroupOk<|TabOk.cons R ruleOfOk<|tabOk30
noncomputable def X31:Ctx T O:= { X0 with con:=conOf tab31 }
theorem X31Ok:TabOk R X31.P tab31:=tabOk31
end Go.Proofs.YtlfjbnflfdnoaaaGreat
namespace Go.Proofs.YtlfjbnflfdnoaaaGreat
open Go.Sx Go.Proofs Classical
def ref04OfC0 (a0E:Int) (a0P:Int) (a1:Int) (a2:Int):Int:=(match (!ref04Number a0E a0P a1) with|true=>((0:Int))|false=>(match (decide (a2<(0:Int))) with|true=>((0:Int))|false=>(match (decide (a2>(4611686018427387904:Int))) with|true=>((0:Int))|false=>(match (ref04DeadlinePre a0E a0P a1) with|true=>(match (decide (ref04Deadline a0E a0P a1>IntKind.i64.wrap ((4611686018427387904:Int)-a2))) with|true=>((0:Int))|false=>(match (decide (ref04Group a0E a0P a1>IntKind.i64.wrap ((4611686018427387904:Int)-a2))) with|true=>((0:Int))|false=>(match (ref04ReleasePre a0E a0P a1) with|true=>(match (ref04BitPre a0E a0P a1) with|true=>(match (decide (ref04Group a0E a0P a1>(0:Int))) with|true=>(a1)|false=>(a1))|false=>0)|false=>0)))|false=>0))))
def ref04OfC1 (a0E:Int) (a0P:Int) (a1:Int) (a2:Int):Int:=(match (!ref04Number a0E a0P a1) with|true=>((0:Int))|false=>(match (decide (a2<(0:Int))) with|true=>((0:Int))|false=>(match (decide (a2>(4611686018427387904:Int))) with|true=>((0:Int))|false=>(match (ref04DeadlinePre a0E a0P a1) with|true=>(match (decide (ref04Deadline a0E a0P a1>IntKind.i64.wrap ((4611686018427387904:Int)-a2))) with|true=>((0:Int))|false=>(match (decide (ref04Group a0E a0P a1>IntKind.i64.wrap ((4611686018427387904:Int)-a2))) with|true=>((0:Int))|false=>(match (ref04ReleasePre a0E a0P a1) with|true=>(match (ref04BitPre a0E a0P a1) with|true=>(match (decide (ref04Group a0E a0P a1>(0:Int))) with|true=>(IntKind.i64.wrap (ref04Release a0E a0P a1+a2))|false=>(IntKind.i64.wrap (ref04Release a0E a0P a1+a2)))|false=>0)|false=>0)))|false=>0))))
def ref04OfC2 (a0E:Int) (a0P:Int) (a1:Int) (a2:Int):Int:=(match (!ref04Number a0E a0P a1) with|true=>((0:Int))|false=>(match (decide (a2<(0:Int))) with|true=>((0:Int))|false=>(match (decide (a2>(4611686018427387904:Int))) with|true=>((0:Int))|false=>(match (ref04DeadlinePre a0E a0P a1) with|true=>(match (decide (ref04Deadline a0E a0P a1>IntKind.i64.wrap ((4611686018427387904:Int)-a2))) with|true=>((0:Int))|false=>(match (decide (ref04Group a0E a0P a1>IntKind.i64.wrap ((4611686018427387904:Int)-a2))) with|true=>((0:Int))|false=>(match (ref04ReleasePre a0E a0P a1) with|true=>(match (ref04BitPre a0E a0P a1) with|true=>(match (decide (ref04Group a0E a0P a1>(0:Int))) with|true=>(IntKind.i64.wrap (ref04Deadline a0E a0P a1+a2))|false=>(IntKind.i64.wrap (ref04Deadline a0E a0P a1+a2)))|false=>0)|false=>0)))|false=>0))))
def ref04OfC3 (a0E:Int) (a0P:Int) (a1:Int) (a2:Int):Int:=(match (!ref04Number a0E a0P a1) with|true=>((0:Int))|false=>(match (decide (a2<(0:Int))) with|true=>((0:Int))|false=>(match (decide (a2>(4611686018427387904:Int))) with|true=>((0:Int))|false=>(match (ref04DeadlinePre a0E a0P a1) with|true=>(match (decide (ref04Deadline a0E a0P a1>IntKind.i64.wrap ((4611686018427387904:Int)-a2))) with|true=>((0:Int))|false=>(match (decide (ref04Group a0E a0P a1>IntKind.i64.wrap ((4611686018427387904:Int)-a2))) with|true=>((0:Int))|false=>(match (ref04ReleasePre a0E a0P a1) with|true=>(match (ref04BitPre a0E a0P a1) with|true=>(match (decide (ref04Group a0E a0P a1>(0:Int))) with|true=>(ref04Bit a0E a0P a1)|false=>(ref04Bit a0E a0P a1))|false=>0)|false=>0)))|false=>0))))
def ref04OfC4 (a0E:Int) (a0P:Int) (a1:Int) (a2:Int):Int:=(match (!ref04Number a0E a0P a1) with|true=>((0:Int))|false=>(match (decide (a2<(0:Int))) with|true=>((0:Int))|false=>(match (decide (a2>(4611686018427387904:Int))) with|true=>((0:Int))|false=>(match (ref04DeadlinePre a0E a0P a1) with|true=>(match (decide (ref04Deadline a0E a0P a1>IntKind.i64.wrap ((4611686018427387904:Int)-a2))) with|true=>((0:Int))|false=>(match (decide (ref04Group a0E a0P a1>IntKind.i64.wrap ((4611686018427387904:Int)-a2))) with|true=>((0:Int))|false=>(match (ref04ReleasePre a0E a0P a1) with|true=>(match (ref04BitPre a0E a0P a1) with|true=>(match (decide (ref04Group a0E a0P a1>(0:Int))) with|true=>(IntKind.i64.wrap (ref04Group a0E a0P a1+a2))|false=>((0:Int)))|false=>0)|false=>0)))|false=>0))))
def ref04OfC5 (a0E:Int) (a0P:Int) (a1:Int) (a2:Int):Int:=(match (!ref04Number a0E a0P a1) with|true=>((1:Int))|false=>(match (decide (a2<(0:Int))) with|true=>((1:Int))|false=>(match (decide (a2>(4611686018427387904:Int))) with|true=>((16:Int))|false=>(match (ref04DeadlinePre a0E a0P a1) with|true=>(match (decide (ref04Deadline a0E a0P a1>IntKind.i64.wrap ((4611686018427387904:Int)-a2))) with|true=>((16:Int))|false=>(match (decide (ref04Group a0E a0P a1>IntKind.i64.wrap ((4611686018427387904:Int)-a2))) with|true=>((16:Int))|false=>(match (ref04ReleasePre a0E a0P a1) with|true=>(match (ref04BitPre a0E a0P a1) with|true=>(match (decide (ref04Group a0E a0P a1>(0:Int))) with|true=>((0:Int))|false=>((0:Int)))|false=>0)|false=>0)))|false=>0))))
def ref04OfPre (a0E:Int) (a0P:Int) (a1:Int) (a2:Int):Bool:=(match (!ref04Number a0E a0P a1) with|true=>true|false=>(match (decide (a2<(0:Int))) with|true=>true|false=>(match (decide (a2>(4611686018427387904:Int))) with|true=>true|false=>(match (ref04DeadlinePre a0E a0P a1) with|true=>(match (decide (ref04Deadline a0E a0P a1>IntKind.i64.wrap ((4611686018427387904:Int)-a2))) with|true=>true|false=>(match (decide (ref04Group a0E a0P a1>IntKind.i64.wrap ((4611686018427387904:Int)-a2))) with|true=>true|false=>(match (ref04ReleasePre a0E a0P a1) with|true=>(match (ref04BitPre a0E a0P a1) with|true=>(match (decide (ref04Group a0E a0P a1>(0:Int))) with|true=>true|false=>true)|false=>false)|false=>false)))|false=>false))))
noncomputable def ref04OfCon:Con T O:=fun args cs=>match args,cs with
 |[.agg [.raw (.int .i64 a0E), .raw (.int .i64 a0P)], .raw (.int .i64 a1), .raw (.int .i64 a2)],[]=>chk (ref04OfPre a0E a0P a1 a2) (retv (.tup [.agg [.raw (.int .i64 (ref04OfC0 a0E a0P a1 a2)), .raw (.int .i64 (ref04OfC1 a0E a0P a1 a2)), .raw (.int .i64 (ref04OfC2 a0E a0P a1 a2)), .raw (.int .i64 (ref04OfC3 a0E a0P a1 a2)), .raw (.int .i64 (ref04OfC4 a0E a0P a1 a2))], .raw (.int .i64 (ref04OfC5 a0E a0P a1 a2))]))
 |_,_=> .fail
theorem ref04OfVc (a0E:Int) (a0P:Int) (a1:Int) (a2:Int):fnX X31 noAnn Tryz.f112 [.agg [.raw (.int .i64 a0E), .raw (.int .i64 a0P)], .raw (.int .i64 a1), .raw (.int .i64 a2)] [] (ends [] ⟨some (.tup [.agg [.raw (.int .i64 (ref04OfC0 a0E a0P a1 a2)), .raw (.int .i64 (ref04OfC1 a0E a0P a1 a2)), .raw (.int .i64 (ref04OfC2 a0E a0P a1 a2)), .raw (.int .i64 (ref04OfC3 a0E a0P a1 a2)), .raw (.int .i64 (ref04OfC4 a0E a0P a1 a2))], .raw (.int .i64 (ref04OfC5 a0E a0P a1 a2))]),[]⟩)=((match (!ref04Number a0E a0P a1) with|true=>((((((ref04OfC0 a0E a0P a1 a2=((0:Int)))/\ ((ref04OfC1 a0E a0P a1 a2=((0:Int)))/\ ((ref04OfC2 a0E a0P a1 a2=((0:Int)))/\ ((ref04OfC3 a0E a0P a1 a2=((0:Int)))/\ ((ref04OfC4 a0E a0P a1 a2=((0:Int)))/\ True))))))/\ ((ref04OfC5 a0E a0P a1 a2=((1:Int)))/\ True)))/\ True)/\ True|false=>(match (decide (a2<(0:Int))) with|true=>((((((ref04OfC0 a0E a0P a1 a2=((0:Int)))/\ ((ref04OfC1 a0E a0P a1 a2=((0:Int)))/\ ((ref04OfC2 a0E a0P a1 a2=((0:Int)))/\ ((ref04OfC3 a0E a0P a1 a2=((0:Int)))/\ ((ref04OfC4 a0E a0P a1 a2=((0:Int)))/\ True))))))/\ ((ref04OfC5 a0E a0P a1 a2=((1:Int)))/\ True)))/\ True)/\ True|false=>(match (decide (a2>(4611686018427387904:Int))) with|true=>((((((ref04OfC0 a0E a0P a1 a2=((0:Int)))/\ ((ref04OfC1 a0E a0P a1 a2=((0:Int)))/\ ((ref04OfC2 a0E a0P a1 a2=((0:Int)))/\ ((ref04OfC3 a0E a0P a1 a2=((0:Int)))/\ ((ref04OfC4 a0E a0P a1 a2=((0:Int)))/\ True))))))/\ ((ref04OfC5 a0E a0P a1 a2=((16:Int)))/\ True)))/\ True)/\ True|false=>(match (ref04DeadlinePre a0E a0P a1) with|true=>(match (decide (ref04Deadline a0E a0P a1>IntKind.i64.wrap ((4611686018427387904:Int)-a2))) with|true=>((((((ref04OfC0 a0E a0P a1 a2=((0:Int)))/\ ((ref04OfC1 a0E a0P a1 a2=((0:Int)))/\ ((ref04OfC2 a0E a0P a1 a2=((0:Int)))/\ ((ref04OfC3 a0E a0P a1 a2=((0:Int)))/\ ((ref04OfC4 a0E a0P a1 a2=((0:Int)))/\ True))))))/\ ((ref04OfC5 a0E a0P a1 a2=((16:Int)))/\ True)))/\ True)/\ True|false=>(match (decide (ref04Group a0E a0P a1>IntKind.i64.wrap ((4611686018427387904:Int)-a2))) with|true=>((((((ref04OfC0 a0E a0P a1 a2=((0:Int)))/\ ((ref04OfC1 a0E a0P a1 a2=((0:Int)))/\ ((ref04OfC2 a0E a0P a1 a2=((0:Int)))/\ ((ref04OfC3 a0E a0P a1 a2=((0:Int)))/\ ((ref04OfC4 a0E a0P a1 a2=((0:Int)))/\ True))))))/\ ((ref04OfC5 a0E a0P a1 a2=((16:Int)))/\ True)))/\ True)/\ True|false=>(match (ref04ReleasePre a0E a0P a1) with|true=>(match (ref04DeadlinePre a0E a0P a1) with|true=>(match (ref04BitPre a0E a0P a1) with|true=>(match (decide (ref04Group a0E a0P a1>(0:Int))) with|true=>((((((ref04OfC0 a0E a0P a1 a2=(a1))/\ ((ref04OfC1 a0E a0P a1 a2=(IntKind.i64.wrap (ref04Release a0E a0P a1+a2)))/\ ((ref04OfC2 a0E a0P a1 a2=(IntKind.i64.wrap (ref04Deadline a0E a0P a1+a2)))/\ ((ref04OfC3 a0E a0P a1 a2=(ref04Bit a0E a0P a1))/\ ((ref04OfC4 a0E a0P a1 a2=(IntKind.i64.wrap (ref04Group a0E a0P a1+a2)))/\ True))))))/\ ((ref04OfC5 a0E a0P a1 a2=((0:Int)))/\ True)))/\ True)/\ True|false=>((((((ref04OfC0 a0E a0P a1 a2=(a1))/\ ((ref04OfC1 a0E a0P a1 a2=(IntKind.i64.wrap (ref04Release a0E a0P a1+a2)))/\ ((ref04OfC2 a0E a0P a1 a2=(IntKind.i64.wrap (ref04Deadline a0E a0P a1+a2)))/\ ((ref04OfC3 a0E a0P a1 a2=(ref04Bit a0E a0P a1))/\ ((ref04OfC4 a0E a0P a1 a2=((0:Int)))/\ True))))))/\ ((ref04OfC5 a0E a0P a1 a2=((0:Int)))/\ True)))/\ True)/\ True)|false=>False)|false=>False)|false=>False)))|false=>False))))):=by kernel_rfl
theorem ref04OfOk:ConOk R Tryz.prog 112 ref04OfCon:=con_of_fn R X31 (good (X31) rfl (TabOk.con R X31Ok)) mixed Tryz.call112 Tryz.func112 ref04OfCon (by
 intro args cs K h
 unfold ref04OfCon at h
 split at h
 ·rename_i a0E a0P a1 a2
  rw [Tree.holds_chk] at h
  obtain ⟨hp,h⟩:=h
  refine ⟨noAnn,_,fun v S hv=>⟨_,h,hv⟩, ?_⟩
  rw [ref04OfVc a0E a0P a1 a2]
  revert hp
  unfold ref04OfC0 ref04OfC1 ref04OfC2 ref04OfC3 ref04OfC4 ref04OfC5 ref04OfPre
  cases (!ref04Number a0E a0P a1)
  ·
   cases (decide (a2<(0:Int)))
   ·
    cases (decide (a2>(4611686018427387904:Int)))
    ·
     cases (ref04DeadlinePre a0E a0P a1)
     ·
      intro hp;cases hp
     ·
      cases (decide (ref04Deadline a0E a0P a1>IntKind.i64.wrap ((4611686018427387904:Int)-a2)))
      ·
       cases (decide (ref04Group a0E a0P a1>IntKind.i64.wrap ((4611686018427387904:Int)-a2)))
       ·
        cases (ref04ReleasePre a0E a0P a1)
        ·
         intro hp;cases hp
        ·
         cases (ref04BitPre a0E a0P a1)
         ·
          intro hp;cases hp
         ·
          cases (decide (ref04Group a0E a0P a1>(0:Int)))
          ·
           intro _;exact ⟨⟨⟨⟨rfl,⟨rfl,⟨rfl,⟨rfl,⟨rfl,trivial⟩⟩⟩⟩⟩,⟨rfl,trivial⟩⟩,trivial⟩,trivial⟩
          ·
           intro _;exact ⟨⟨⟨⟨rfl,⟨rfl,⟨rfl,⟨rfl,⟨rfl,trivial⟩⟩⟩⟩⟩,⟨rfl,trivial⟩⟩,trivial⟩,trivial⟩
       ·
        intro _;exact ⟨⟨⟨⟨rfl,⟨rfl,⟨rfl,⟨rfl,⟨rfl,trivial⟩⟩⟩⟩⟩,⟨rfl,trivial⟩⟩,trivial⟩,trivial⟩
      ·
       intro _;exact ⟨⟨⟨⟨rfl,⟨rfl,⟨rfl,⟨rfl,⟨rfl,trivial⟩⟩⟩⟩⟩,⟨rfl,trivial⟩⟩,trivial⟩,trivial⟩
    ·
     intro _;exact ⟨⟨⟨⟨rfl,⟨rfl,⟨rfl,⟨rfl,⟨rfl,trivial⟩⟩⟩⟩⟩,⟨rfl,trivial⟩⟩,trivial⟩,trivial⟩
   ·
    intro _;exact ⟨⟨⟨⟨rfl,⟨rfl,⟨rfl,⟨rfl,⟨rfl,trivial⟩⟩⟩⟩⟩,⟨rfl,trivial⟩⟩,trivial⟩,trivial⟩
  ·
   intro _;exact ⟨⟨⟨⟨rfl,⟨rfl,⟨rfl,⟨rfl,⟨rfl,trivial⟩⟩⟩⟩⟩,⟨rfl,trivial⟩⟩,trivial⟩,trivial⟩
 ·exact h.elim)
def ref09LagC0 (a0E:Int) (a0P:Int) (a1:Int) (a2:Int):Int:=(match (!ref09Right a0E a0P a1 a2) with|true=>((0:Int))|false=>(IntKind.i64.wrap (IntKind.i64.wrap (a0E*a1)-IntKind.i64.wrap (a0P*a2))))
def ref09LagC1 (a0E:Int) (a0P:Int) (a1:Int) (a2:Int):Int:=(match (!ref09Right a0E a0P a1 a2) with|true=>((1:Int))|false=>((0:Int)))
noncomputable def ref09LagCon:Con T O:=fun args cs=>match args,cs with
 |[.agg [.raw (.int .i64 a0E), .raw (.int .i64 a0P)], .raw (.int .i64 a1), .raw (.int .i64 a2)],[]=>retv (.tup [.raw (.int .i64 (ref09LagC0 a0E a0P a1 a2)), .raw (.int .i64 (ref09LagC1 a0E a0P a1 a2))])
 |_,_=> .fail
theorem ref09LagVc (a0E:Int) (a0P:Int) (a1:Int) (a2:Int):fnX X31 noAnn Tryz.f73 [.agg [.raw (.int .i64 a0E), .raw (.int .i64 a0P)], .raw (.int .i64 a1), .raw (.int .i64 a2)] [] (ends [] ⟨some (.tup [.raw (.int .i64 (ref09LagC0 a0E a0P a1 a2)), .raw (.int .i64 (ref09LagC1 a0E a0P a1 a2))]),[]⟩)=((match (!ref09Right a0E a0P a1 a2) with|true=>((((ref09LagC0 a0E a0P a1 a2=((0:Int)))/\ ((ref09LagC1 a0E a0P a1 a2=((1:Int)))/\ True)))/\ True)/\ True|false=>((((ref09LagC0 a0E a0P a1 a2=(IntKind.i64.wrap (IntKind.i64.wrap (a0E*a1)-IntKind.i64.wrap (a0P*a2))))/\ ((ref09LagC1 a0E a0P a1 a2=((0:Int)))/\ True)))/\ True)/\ True)):=by kernel_rfl
theorem ref09LagOk:ConOk R Tryz.prog 73 ref09LagCon:=con_of_fn R X31 (good (X31) rfl (TabOk.con R X31Ok)) mixed Tryz.call73 Tryz.func73 ref09LagCon (by
 intro args cs K h
 unfold ref09LagCon at h
 split at h
 ·rename_i a0E a0P a1 a2
  refine ⟨noAnn,_,fun v S hv=>⟨_,h,hv⟩, ?_⟩
  rw [ref09LagVc a0E a0P a1 a2]
  unfold ref09LagC0 ref09LagC1
  cases (!ref09Right a0E a0P a1 a2)
  ·
   exact ⟨⟨⟨rfl,⟨rfl,trivial⟩⟩,trivial⟩,trivial⟩
  ·
   exact ⟨⟨⟨rfl,⟨rfl,trivial⟩⟩,trivial⟩,trivial⟩
 ·exact h.elim)
def ruleEnds (a0E:Int) (a0P:Int) (_a1Index:Int) (_a1Release:Int) (a1Deadline:Int) (a1Bit:Int) (a1Group:Int):Int:=(match (windowHeavy a0E a0P) with|true=>(if a1Deadline>a1Group then a1Deadline else a1Group)|false=>(match (a1Bit==(1:Int)) with|true=>(IntKind.i64.wrap (a1Deadline+(1:Int)))|false=>(a1Deadline)))
noncomputable def ruleEndsCon:Con T O:=fun args cs=>match args,cs with
 |[.agg [.raw (.int .i64 a0E), .raw (.int .i64 a0P)], .agg [.raw (.int .i64 a1Index), .raw (.int .i64 a1Release), .raw (.int .i64 a1Deadline), .raw (.int .i64 a1Bit), .raw (.int .i64 a1Group)]],[]=>retv (.raw (.int .i64 (ruleEnds a0E a0P a1Index a1Release a1Deadline a1Bit a1Group)))
 |_,_=> .fail
theorem ruleEndsVc (a0E:Int) (a0P:Int) (a1Index:Int) (a1Release:Int) (a1Deadline:Int) (a1Bit:Int) (a1Group:Int):fnX X31 noAnn Tryz.f158 [.agg [.raw (.int .i64 a0E), .raw (.int .i64 a0P)], .agg [.raw (.int .i64 a1Index), .raw (.int .i64 a1Release), .raw (.int .i64 a1Deadline), .raw (.int .i64 a1Bit), .raw (.int .i64 a1Group)]] [] (ends [] ⟨some (.raw (.int .i64 (ruleEnds a0E a0P a1Index a1Release a1Deadline a1Bit a1Group))),[]⟩)=((match (windowHeavy a0E a0P) with|true=>((ruleEnds a0E a0P a1Index a1Release a1Deadline a1Bit a1Group=(if a1Deadline>a1Group then a1Deadline else a1Group))/\ True)/\ True|false=>(match (a1Bit==(1:Int)) with|true=>((ruleEnds a0E a0P a1Index a1Release a1Deadline a1Bit a1Group=(IntKind.i64.wrap (a1Deadline+(1:Int))))/\ True)/\ True|false=>((ruleEnds a0E a0P a1Index a1Release a1Deadline a1Bit a1Group=(a1Deadline))/\ True)/\ True))):=by kernel_rfl
theorem ruleEndsOk:ConOk R Tryz.prog 158 ruleEndsCon:=con_of_fn R X31 (good (X31) rfl (TabOk.con R X31Ok)) mixed Tryz.call158 Tryz.func158 ruleEndsCon (by
 intro args cs K h
 unfold ruleEndsCon at h
 split at h
 ·rename_i a0E a0P a1Index a1Release a1Deadline a1Bit a1Group
  refine ⟨noAnn,_,fun v S hv=>⟨_,h,hv⟩, ?_⟩
  rw [ruleEndsVc a0E a0P a1Index a1Release a1Deadline a1Bit a1Group]
  unfold ruleEnds
  cases (windowHeavy a0E a0P)
  ·
   cases (a1Bit==(1:Int))
   ·
    exact ⟨⟨rfl,trivial⟩,trivial⟩
   ·
    exact ⟨⟨rfl,trivial⟩,trivial⟩
  ·
   exact ⟨⟨rfl,trivial⟩,trivial⟩
 ·exact h.elim)
noncomputable def tab32:Tab T O:=(112,ref04OfCon)::(73,ref09LagCon)::(158,ruleEndsCon)::tab31
theorem tabOk32:TabOk R Tryz.prog tab32:=TabOk.cons R ref04OfOk<|TabOk.cons R ref09LagOk<|TabOk.cons R ruleEndsOk<|tabOk31
noncomputable def X32:Ctx T O:= { X0 with con:=conOf tab32 }
theorem X32Ok:TabOk R X32.P tab32:=tabOk32
end Go.Proofs.YtlfjbnflfdnoaaaGreat
namespace Go.Proofs.YtlfjbnflfdnoaaaGreat
open Go.Sx Go.Proofs Classical
def ruleTime (a0E:Int) (a0P:Int) (a1Index:Int) (a1Release:Int) (a1Deadline:Int) (a1Bit:Int) (a1Group:Int) (a2:Bool) (a3:Int):Int:=(match (!a2) with|true=>(a3)|false=>(if ruleEnds a0E a0P a1Index a1Release a1Deadline a1Bit a1Group>a3 then ruleEnds a0E a0P a1Index a1Release a1Deadline a1Bit a1Group else a3))
noncomputable def ruleTimeCon:Con T O:=fun args cs=>match args,cs with
 |[.agg [.raw (.int .i64 a0E), .raw (.int .i64 a0P)], .agg [.raw (.int .i64 a1Index), .raw (.int .i64 a1Release), .raw (.int .i64 a1Deadline), .raw (.int .i64 a1Bit), .raw (.int .i64 a1Group)], .raw (.bool a2), .raw (.int .i64 a3)],[]=>retv (.raw (.int .i64 (ruleTime a0E a0P a1Index a1Release a1Deadline a1Bit a1Group a2 a3)))
 |_,_=> .fail
theorem ruleTimeVc (a0E:Int) (a0P:Int) (a1Index:Int) (a1Release:Int) (a1Deadline:Int) (a1Bit:Int) (a1Group:Int) (a2:Bool) (a3:Int):fnX X32 noAnn Tryz.f116 [.agg [.raw (.int .i64 a0E), .raw (.int .i64 a0P)], .agg [.raw (.int .i64 a1Index), .raw (.int .i64 a1Release), .raw (.int .i64 a1Deadline), .raw (.int .i64 a1Bit), .raw (.int .i64 a1Group)], .raw (.bool a2), .raw (.int .i64 a3)] [] (ends [] ⟨some (.raw (.int .i64 (ruleTime a0E a0P a1Index a1Release a1Deadline a1Bit a1Group a2 a3))),[]⟩)=((match (!a2) with|true=>((ruleTime a0E a0P a1Index a1Release a1Deadline a1Bit a1Group a2 a3=(a3))/\ True)/\ True|false=>((ruleTime a0E a0P a1Index a1Release a1Deadline a1Bit a1Group a2 a3=(if ruleEnds a0E a0P a1Index a1Release a1Deadline a1Bit a1Group>a3 then ruleEnds a0E a0P a1Index a1Release a1Deadline a1Bit a1Group else a3))/\ True)/\ True)):=by kernel_rfl
theorem ruleTimeOk:ConOk R Tryz.prog 116 ruleTimeCon:=con_of_fn R X32 (good (X32) rfl (TabOk.con R X32Ok)) mixed Tryz.call116 Tryz.func116 ruleTimeCon (by
 intro args cs K h
 unfold ruleTimeCon at h
 split at h
 ·rename_i a0E a0P a1Index a1Release a1Deadline a1Bit a1Group a2 a3
  refine ⟨noAnn,_,fun v S hv=>⟨_,h,hv⟩, ?_⟩
  rw [ruleTimeVc a0E a0P a1Index a1Release a1Deadline a1Bit a1Group a2 a3]
  unfold ruleTime
  cases (!a2)
  ·
   exact ⟨⟨rfl,trivial⟩,trivial⟩
  ·
   exact ⟨⟨rfl,trivial⟩,trivial⟩
 ·exact h.elim)
def ref09Fair (a0E:Int) (a0P:Int) (a1:Int) (a2:Int):Bool:=(match (ref09LagC1 a0E a0P a1 a2==(0:Int)) with|true=>(match (decide (ref09LagC0 a0E a0P a1 a2>IntKind.i64.wrap ((0:Int)-a0P))) with|true=>(decide (ref09LagC0 a0E a0P a1 a2<a0P))|false=>(false))|false=>(false))
noncomputable def ref09FairCon:Con T O:=fun args cs=>match args,cs with
 |[.agg [.raw (.int .i64 a0E), .raw (.int .i64 a0P)], .raw (.int .i64 a1), .raw (.int .i64 a2)],[]=>retv (.raw (.bool (ref09Fair a0E a0P a1 a2)))
 |_,_=> .fail
theorem ref09FairVc (a0E:Int) (a0P:Int) (a1:Int) (a2:Int):fnX X32 noAnn Tryz.f27 [.agg [.raw (.int .i64 a0E), .raw (.int .i64 a0P)], .raw (.int .i64 a1), .raw (.int .i64 a2)] [] (ends [] ⟨some (.raw (.bool (ref09Fair a0E a0P a1 a2))),[]⟩)=((match (ref09LagC1 a0E a0P a1 a2==(0:Int)) with|true=>(match (decide (ref09LagC0 a0E a0P a1 a2>IntKind.i64.wrap ((0:Int)-a0P))) with|true=>((ref09Fair a0E a0P a1 a2=(decide (ref09LagC0 a0E a0P a1 a2<a0P)))/\ True)/\ True|false=>((ref09Fair a0E a0P a1 a2=(false))/\ True)/\ True)|false=>((ref09Fair a0E a0P a1 a2=(false))/\ True)/\ True)):=by kernel_rfl
theorem ref09FairOk:ConOk R Tryz.prog 27 ref09FairCon:=con_of_fn R X32 (good (X32) rfl (TabOk.con R X32Ok)) mixed Tryz.call27 Tryz.func27 ref09FairCon (by
 intro args cs K h
 unfold ref09FairCon at h
 split at h
 ·rename_i a0E a0P a1 a2
  refine ⟨noAnn,_,fun v S hv=>⟨_,h,hv⟩, ?_⟩
  rw [ref09FairVc a0E a0P a1 a2]
  unfold ref09Fair
  cases (ref09LagC1 a0E a0P a1 a2==(0:Int))
  ·
   exact ⟨⟨rfl,trivial⟩,trivial⟩
  ·
   cases (decide (ref09LagC0 a0E a0P a1 a2>IntKind.i64.wrap ((0:Int)-a0P)))
   ·
    exact ⟨⟨rfl,trivial⟩,trivial⟩
   ·
    exact ⟨⟨rfl,trivial⟩,trivial⟩
 ·exact h.elim)
noncomputable def tab33:Tab T O:=(116,ruleTimeCon)::(27,ref09FairCon)::tab32
theorem tabOk33:TabOk R Tryz.prog tab33:=TabOk.cons R ruleTimeOk<|TabOk.cons R ref09FairOk<|tabOk32
end Go.Proofs.YtlfjbnflfdnoaaaGreat
namespace Go.Proofs.YtlfjbnflfdnoaaaGreat
open Go.Sx Go.Proofs Classical
def ofS (E P i off:Int):Sub:=⟨ref04OfC0 E P i off,ref04OfC1 E P i off,ref04OfC2 E P i off,ref04OfC3 E P i off,ref04OfC4 E P i off⟩
def raOff (at1 E P:Int) (q:Int×Int):Int:=bif decide ((ofS E P (IntKind.i64.wrap (q.2+1)) q.1).Release<at1) then IntKind.i64.wrap (IntKind.i64.wrap (q.1+at1)-(ofS E P (IntKind.i64.wrap (q.2+1)) q.1).Release) else q.1
def raS (at1 E P:Int):Nat->Int×Int->Int×Int
 |0,q=>q
 |n+1,q=>(raOff at1 E P (raS at1 E P n q),IntKind.i64.wrap ((raS at1 E P n q).2+1))
def raX (at1 E P:Int) (q:Int×Int):Sub:=ofS E P (IntKind.i64.wrap (q.2+1)) (raOff at1 E P q)
def raL (at1 E P:Int):Nat->Int×Int->List Sub
 |0,_=>[]
 |n+1,q=>raL at1 E P n q++[raX at1 E P (raS at1 E P n q)]
theorem raL_len (at1 E P:Int) (q:Int×Int): ∀x:Nat,(raL at1 E P x q).length=x
 |0=>rfl
 |x+1=>by simp only [raL,List.length_append,raL_len at1 E P q x,List.length_singleton]
def raE (at1 n:Int) (tc:Bool) (W:List Sub):Int:=bif decide (at1<0)||decide (at1>1099511627776)||decide (n<1)||decide (n>64) then 1 else bif tc then 13 else bif decide ((W.length:Int)+n>64) then 15 else 0
def raP (at1 E P:Int) (q:Int×Int):Prop:=ref04OfPre E P (IntKind.i64.wrap (q.2+1)) q.1=true/\ ref04OfPre E P (IntKind.i64.wrap (q.2+1)) (raOff at1 E P q)=true
def rdyR (te:Bool) (at1:Int) (W:List Sub):Bool:=someT W&&(te|| !decide ((headT W).Release>at1))
noncomputable def tab34:Tab T O:=tab33
theorem tabOk34:TabOk R Tryz.prog tab34:=tabOk33
noncomputable def X34:Ctx T O:= { X0 with con:=conOf tab34 }
theorem X34Ok:TabOk R X34.P tab34:=tabOk34
end Go.Proofs.YtlfjbnflfdnoaaaGreat
namespace Go.Proofs.YtlfjbnflfdnoaaaGreat
open Go.Sx Go.Proofs Classical
def mul64C0 (a0:Int) (a1:Int):Int:=(IntKind.u64.wrap (IntKind.u64.wrap (IntKind.u64.wrap (a0.fdiv ((2:Int)^min (Int.toNat (32:Int)) IntKind.u64.bits)*a1.fdiv ((2:Int)^min (Int.toNat (32:Int)) IntKind.u64.bits))+(IntKind.u64.wrap (IntKind.u64.wrap (a0.fdiv ((2:Int)^min (Int.toNat (32:Int)) IntKind.u64.bits)*bits BinOp.and IntKind.u64 a1 (4294967295:Int))+(IntKind.u64.wrap (bits BinOp.and IntKind.u64 a0 (4294967295:Int)*bits BinOp.and IntKind.u64 a1 (4294967295:Int))).fdiv ((2:Int)^min (Int.toNat (32:Int)) IntKind.u64.bits))).fdiv ((2:Int)^min (Int.toNat (32:Int)) IntKind.u64.bits))+(IntKind.u64.wrap (bits BinOp.and IntKind.u64 (IntKind.u64.wrap (IntKind.u64.wrap (a0.fdiv ((2:Int)^min (Int.toNat (32:Int)) IntKind.u64.bits)*bits BinOp.and IntKind.u64 a1 (4294967295:Int))+(IntKind.u64.wrap (bits BinOp.and IntKind.u64 a0 (4294967295:Int)*bits BinOp.and IntKind.u64 a1 (4294967295:Int))).fdiv ((2:Int)^min (Int.toNat (32:Int)) IntKind.u64.bits))) (4294967295:Int)+IntKind.u64.wrap (bits BinOp.and IntKind.u64 a0 (4294967295:Int)*a1.fdiv ((2:Int)^min (Int.toNat (32:Int)) IntKind.u64.bits)))).fdiv ((2:Int)^min (Int.toNat (32:Int)) IntKind.u64.bits)))
def mul64C1 (a0:Int) (a1:Int):Int:=(IntKind.u64.wrap (a0*a1))
noncomputable def mul64Con:Con T O:=fun args cs=>match args,cs with
 |[.raw (.int .u64 a0), .raw (.int .u64 a1)],[]=>retv (.tup [.raw (.int .u64 (mul64C0 a0 a1)), .raw (.int .u64 (mul64C1 a0 a1))])
 |_,_=> .fail
theorem mul64Vc (a0:Int) (a1:Int):fnX X34 noAnn Tryz.f164 [.raw (.int .u64 a0), .raw (.int .u64 a1)] [] (ends [] ⟨some (.tup [.raw (.int .u64 (mul64C0 a0 a1)), .raw (.int .u64 (mul64C1 a0 a1))]),[]⟩)=(((((mul64C0 a0 a1=(IntKind.u64.wrap (IntKind.u64.wrap (IntKind.u64.wrap (a0.fdiv ((2:Int)^min (Int.toNat (32:Int)) IntKind.u64.bits)*a1.fdiv ((2:Int)^min (Int.toNat (32:Int)) IntKind.u64.bits))+(IntKind.u64.wrap (IntKind.u64.wrap (a0.fdiv ((2:Int)^min (Int.toNat (32:Int)) IntKind.u64.bits)*bits BinOp.and IntKind.u64 a1 (4294967295:Int))+(IntKind.u64.wrap (bits BinOp.and IntKind.u64 a0 (4294967295:Int)*bits BinOp.and IntKind.u64 a1 (4294967295:Int))).fdiv ((2:Int)^min (Int.toNat (32:Int)) IntKind.u64.bits))).fdiv ((2:Int)^min (Int.toNat (32:Int)) IntKind.u64.bits))+(IntKind.u64.wrap (bits BinOp.and IntKind.u64 (IntKind.u64.wrap (IntKind.u64.wrap (a0.fdiv ((2:Int)^min (Int.toNat (32:Int)) IntKind.u64.bits)*bits BinOp.and IntKind.u64 a1 (4294967295:Int))+(IntKind.u64.wrap (bits BinOp.and IntKind.u64 a0 (4294967295:Int)*bits BinOp.and IntKind.u64 a1 (4294967295:Int))).fdiv ((2:Int)^min (Int.toNat (32:Int)) IntKind.u64.bits))) (4294967295:Int)+IntKind.u64.wrap (bits BinOp.and IntKind.u64 a0 (4294967295:Int)*a1.fdiv ((2:Int)^min (Int.toNat (32:Int)) IntKind.u64.bits)))).fdiv ((2:Int)^min (Int.toNat (32:Int)) IntKind.u64.bits))))/\ ((mul64C1 a0 a1=(IntKind.u64.wrap (a0*a1)))/\ True)))/\ True)/\ True):=by kernel_rfl
theorem mul64Ok:ConOk R Tryz.prog 164 mul64Con:=con_of_fn R X34 (good (X34) rfl (TabOk.con R X34Ok)) mixed Tryz.call164 Tryz.func164 mul64Con (by
 intro args cs K h
 unfold mul64Con at h
 split at h
 ·rename_i a0 a1
  refine ⟨noAnn,_,fun v S hv=>⟨_,h,hv⟩, ?_⟩
  rw [mul64Vc a0 a1]
  unfold mul64C0 mul64C1
  exact ⟨⟨⟨rfl,⟨rfl,trivial⟩⟩,trivial⟩,trivial⟩
 ·exact h.elim)
noncomputable def tab35:Tab T O:=(164,mul64Con)::tab34
theorem tabOk35:TabOk R Tryz.prog tab35:=TabOk.cons R mul64Ok<|tabOk34
noncomputable def X35:Ctx T O:= { X0 with con:=conOf tab35 }
theorem X35Ok:TabOk R X35.P tab35:=tabOk35
end Go.Proofs.YtlfjbnflfdnoaaaGreat
namespace Go.Proofs.YtlfjbnflfdnoaaaGreat
open Go.Sx Go.Proofs Classical
def bmulC0 (a0:Int) (a1:Int):Int:=(mul64C0 a0 a1)
def bmulC1 (a0:Int) (a1:Int):Int:=(mul64C1 a0 a1)
noncomputable def bmulCon:Con T O:=fun args cs=>match args,cs with
 |[.raw (.int .u64 a0), .raw (.int .u64 a1)],[]=>retv (.tup [.raw (.int .u64 (bmulC0 a0 a1)), .raw (.int .u64 (bmulC1 a0 a1))])
 |_,_=> .fail
theorem bmulVc (a0:Int) (a1:Int):fnX X35 noAnn Tryz.f129 [.raw (.int .u64 a0), .raw (.int .u64 a1)] [] (ends [] ⟨some (.tup [.raw (.int .u64 (bmulC0 a0 a1)), .raw (.int .u64 (bmulC1 a0 a1))]),[]⟩)=(((((bmulC0 a0 a1=(mul64C0 a0 a1))/\ ((bmulC1 a0 a1=(mul64C1 a0 a1))/\ True)))/\ True)/\ True):=by kernel_rfl
theorem bmulOk:ConOk R Tryz.prog 129 bmulCon:=con_of_fn R X35 (good (X35) rfl (TabOk.con R X35Ok)) mixed Tryz.call129 Tryz.func129 bmulCon (by
 intro args cs K h
 unfold bmulCon at h
 split at h
 ·rename_i a0 a1
  refine ⟨noAnn,_,fun v S hv=>⟨_,h,hv⟩, ?_⟩
  rw [bmulVc a0 a1]
  unfold bmulC0 bmulC1
  exact ⟨⟨⟨rfl,⟨rfl,trivial⟩⟩,trivial⟩,trivial⟩
 ·exact h.elim)
noncomputable def tab36:Tab T O:=(129,bmulCon)::tab35
theorem tabOk36:TabOk R Tryz.prog tab36:=TabOk.cons R bmulOk<|tabOk35
noncomputable def X36:Ctx T O:= { X0 with con:=conOf tab36 }
theorem X36Ok:TabOk R X36.P tab36:=tabOk36
end Go.Proofs.YtlfjbnflfdnoaaaGreat