/-
  Part of a proof over the seat YtlfjbnflfdnoaaaGreat: printed by a small program or typed by hand.
-/
import Derived.Test.YtlfjbnflfdnoaaaGreatJEngS50
import Derived.KernelRfl
namespace Go.Proofs.YtlfjbnflfdnoaaaGreat
open Go.Sx Go.Proofs Classical
def rewE (g:EG) (id E P:Int):Int:=bif windowCheck E P then goesE g id else 1
def rewG (g:EG) (id E P:Int):EG:=bif windowCheck E P then goesG g id 3 E P else g
def noTs:List (Option Rnr):=List.replicate 64 none
def noEv:List Ev:=[]
def noNt:List Note:=[]
def noET:List EThing:=[]
def noVT:List VThing:=[]
def noM:List (Int×Int):=[]
def nowCK0Text:Prop:=((((0:Int)=(0:Int))/\ True)/\ True)
theorem nowCK0Vc:fnX X50 (noAnn) Tryz.f28 [.raw (.pointer none)] [] (ends [] ⟨some (.raw (.int .i64 0)),[]⟩)=nowCK0Text:=by kernel_rfl
theorem nowCK0Holds:nowCK0Text:=by
 unfold nowCK0Text
 repeat' first|trivial|rfl|apply And.intro
noncomputable def nowCK1E0 (m:Int) (now:Int) (ts:List (Option Rnr)) (RL:List EThing) (RM:List (Int×Int)) (DL:List VThing) (DM:List (Int×Int)) (ev:List Ev) (nt:List Note):Eff T O:=⟨some (.raw (.int .i64 now)),[(0,some (.tab [.raw (.int .i64 m), .raw (.int .i64 now)] 0 64 (ts) none [.ptr 1 0, .ptr 2 0, .own 3, .own 4] 105)),(3,some (.vec 4 ev 151)),(4,some (.que 7 nt 84)),(5,some (.vec 5 RL 200)),(6,some (.map 0 RM)),(8,some (.vec 6 DL 242)),(9,some (.map 0 DM))]⟩
def nowCK1Text (m now:Int) (ts:List (Option Rnr)) (RL:List EThing) (RM:List (Int×Int)) (DL:List VThing) (DM:List (Int×Int)) (ev:List Ev) (nt:List Note):Prop:=let q0:=(True/\ (True/\ (True/\ True)));(((now=now)/\ True)/\ ((((m=m)/\ ((now=now)/\ True))/\ ((ts=ts)/\ ((True/\ q0)/\ True)))/\ (q0/\ ((True/\ True)/\ ((ev=ev)/\ ((nt=nt)/\ ((RL=RL)/\ ((RM=RM)/\ (q0/\ ((DL=DL)/\ ((DM=DM)/\ True)))))))))))
theorem nowCK1Vc (m now:Int) (ts:List (Option Rnr)) (RL:List EThing) (RM:List (Int×Int)) (DL:List VThing) (DM:List (Int×Int)) (ev:List Ev) (nt:List Note):fnX X50 (noAnn) Tryz.f28 [.ptr 0 0] (cs3 m now ts RL RM DL DM ev nt) (ends (cs3 m now ts RL RM DL DM ev nt) (nowCK1E0 m now ts RL RM DL DM ev nt))=nowCK1Text m now ts RL RM DL DM ev nt:=by kernel_rfl
theorem nowCK1Holds (m now:Int) (ts:List (Option Rnr)) (RL:List EThing) (RM:List (Int×Int)) (DL:List VThing) (DM:List (Int×Int)) (ev:List Ev) (nt:List Note):nowCK1Text m now ts RL RM DL DM ev nt:=by
 unfold nowCK1Text
 conv=>zeta
 repeat' first|trivial|rfl|apply And.intro
set_option maxHeartbeats 4000000 in
noncomputable def nowCCon:Con T O:=fun args cs=>match args,cs with
 |[.raw (.pointer none)],[]=> .ret ⟨some (.raw (.int .i64 0)),[]⟩
 |[.ptr 0 0],[.tab [.raw (.int .i64 m), .raw (.int .i64 now)] 0 64 (ts) none [.ptr 1 0, .ptr 2 0, .own 3, .own 4] 105, .cells [.fn 40 [], .own 5, .own 6] 146, .cells [.ptr 7 0] 156, .vec 4 ev 151, .que 7 nt 84, .vec 5 RL 200, .map 0 RM, .cells [.fn 83 [], .own 8, .own 9] 198, .vec 6 DL 242, .map 0 DM]=> .ret (nowCK1E0 m now ts RL RM DL DM ev nt)
 |_,_=> .fail
theorem nowCOk:ConOk R Tryz.prog 28 nowCCon:=con_of_fn R (X50) (good (X50) rfl (TabOk.con R X50Ok)) mixed Tryz.call28 Tryz.func28 nowCCon (by
 intro args cs K h
 unfold nowCCon at h
 split at h
 ·
  refine ⟨noAnn,_,fun v S hv=>⟨_,h,hv⟩, ?_⟩
  rw [nowCK0Vc]
  exact nowCK0Holds
 ·rename_i m now ts ev nt RL RM DL DM
  refine ⟨noAnn,_,fun v S hv=>⟨_,h,hv⟩, ?_⟩
  have hv:=nowCK1Vc m now ts RL RM DL DM ev nt
  unfold cs3 at hv
  rw [hv]
  exact nowCK1Holds m now ts RL RM DL DM ev nt
 ·exact h.elim)
def standCK0Text (id:Int):Prop:=(((((0:Int)=(0:Int))/\ (((0:Int)=(0:Int))/\ (((0:Int)=(0:Int))/\ (((0:Int)=(0:Int))/\ (((0:Int)=(0:Int))/\ (((-1:Int)=(-1:Int))/\ True))))))/\ True)/\ True)
theorem standCK0Vc (id:Int):fnX X50 (noAnn) Tryz.f18 [.raw (.pointer none), .raw (.int .i64 id)] [] (ends [] ⟨some (.agg [.raw (.int .i64 0), .raw (.int .i64 0), .raw (.int .i64 0), .raw (.int .i64 0), .raw (.int .i64 0), .raw (.int .i64 ((-1)))]),[]⟩)=standCK0Text id:=by kernel_rfl
theorem standCK0Holds (id:Int):standCK0Text id:=by
 unfold standCK0Text
 repeat' first|trivial|rfl|apply And.intro
noncomputable def standCK1E0 (m:Int) (now:Int) (ts:List (Option Rnr)) (RL:List EThing) (RM:List (Int×Int)) (DL:List VThing) (DM:List (Int×Int)) (ev:List Ev) (nt:List Note) (id:Int):Eff T O:=⟨some (.agg [.raw (.int .i64 ((rnAt ts id).stage)), .raw (.int .i64 ((rnAt ts id).t.E)), .raw (.int .i64 ((rnAt ts id).t.P)), .raw (.int .i64 (((rnAt ts id).t.waits.length:Int))), .raw (.int .i64 ((rnAt ts id).t.done)), .raw (.int .i64 ((rnAt ts id).last))]),[(0,some (.tab [.raw (.int .i64 m), .raw (.int .i64 now)] 0 64 (ts) none [.ptr 1 0, .ptr 2 0, .own 3, .own 4] 105)),(3,some (.vec 4 ev 151)),(4,some (.que 7 nt 84)),(5,some (.vec 5 RL 200)),(6,some (.map 0 RM)),(8,some (.vec 6 DL 242)),(9,some (.map 0 DM))]⟩
noncomputable def standCK1E1 (m:Int) (now:Int) (ts:List (Option Rnr)) (RL:List EThing) (RM:List (Int×Int)) (DL:List VThing) (DM:List (Int×Int)) (ev:List Ev) (nt:List Note):Eff T O:=⟨some (.agg [.raw (.int .i64 0), .raw (.int .i64 0), .raw (.int .i64 0), .raw (.int .i64 0), .raw (.int .i64 0), .raw (.int .i64 ((-1)))]),[(0,some (.tab [.raw (.int .i64 m), .raw (.int .i64 now)] 0 64 (ts) none [.ptr 1 0, .ptr 2 0, .own 3, .own 4] 105)),(3,some (.vec 4 ev 151)),(4,some (.que 7 nt 84)),(5,some (.vec 5 RL 200)),(6,some (.map 0 RM)),(8,some (.vec 6 DL 242)),(9,some (.map 0 DM))]⟩
def standCK1Text (m now:Int) (ts:List (Option Rnr)) (RL:List EThing) (RM:List (Int×Int)) (DL:List VThing) (DM:List (Int×Int)) (ev:List Ev) (nt:List Note) (id:Int):Prop:=let q1:=(True/\ (True/\ (True/\ True)));let q0:=(q1/\ ((True/\ True)/\ ((ev=ev)/\ ((nt=nt)/\ ((RL=RL)/\ ((RM=RM)/\ (q1/\ ((DL=DL)/\ ((DM=DM)/\ True)))))))));let q2:=((((m=m)/\ ((now=now)/\ True))/\ ((ts=ts.set id.toNat (some (rnAt ts id)))/\ ((True/\ q1)/\ True)))/\ q0);let q3:=((0:Int)=(0:Int));let q4:=((((m=m)/\ ((now=now)/\ True))/\ ((ts=ts)/\ ((True/\ q1)/\ True)))/\ q0);let q5:=(idOk id&&(atO ts id).isSome);(match q5 with|true=>(match q5 with|true=>(((((rnAt ts id).stage=(rnAt ts id).stage)/\ (((rnAt ts id).t.E=(rnAt ts id).t.E)/\ (((rnAt ts id).t.P=(rnAt ts id).t.P)/\ (((↑(rnAt ts id).t.waits.length:Int)=(↑(rnAt ts id).t.waits.length:Int))/\ (((rnAt ts id).t.done=(rnAt ts id).t.done)/\ (((rnAt ts id).last=(rnAt ts id).last)/\ True))))))/\ True)/\ q2)|false=>(((((0:Int)=(rnAt ts id).stage)/\ (((0:Int)=(rnAt ts id).t.E)/\ (((0:Int)=(rnAt ts id).t.P)/\ (((0:Int)=(↑(rnAt ts id).t.waits.length:Int))/\ (((0:Int)=(rnAt ts id).t.done)/\ (((-1:Int)=(rnAt ts id).last)/\ True))))))/\ True)/\ q2))|false=>(match q5 with|true=>(((((rnAt ts id).stage=(0:Int))/\ (((rnAt ts id).t.E=(0:Int))/\ (((rnAt ts id).t.P=(0:Int))/\ (((↑(rnAt ts id).t.waits.length:Int)=(0:Int))/\ (((rnAt ts id).t.done=(0:Int))/\ (((rnAt ts id).last=(-1:Int))/\ True))))))/\ True)/\ q4)|false=>(((q3/\ (q3/\ (q3/\ (q3/\ (q3/\ (((-1:Int)=(-1:Int))/\ True))))))/\ True)/\ q4)))
theorem standCK1Vc (m now:Int) (ts:List (Option Rnr)) (RL:List EThing) (RM:List (Int×Int)) (DL:List VThing) (DM:List (Int×Int)) (ev:List Ev) (nt:List Note) (id:Int):fnX X50 (annOf [] [] [] [4]) Tryz.f18 [.ptr 0 0, .raw (.int .i64 id)] (cs3 m now ts RL RM DL DM ev nt) (endsIf (idOk id&&(atO ts id).isSome) (cs3 m now ts RL RM DL DM ev nt) (standCK1E0 m now ts RL RM DL DM ev nt id) (standCK1E1 m now ts RL RM DL DM ev nt))=standCK1Text m now ts RL RM DL DM ev nt id:=by kernel_rfl
theorem standCK1Holds (m now:Int) (ts:List (Option Rnr)) (RL:List EThing) (RM:List (Int×Int)) (DL:List VThing) (DM:List (Int×Int)) (ev:List Ev) (nt:List Note) (id:Int):standCK1Text m now ts RL RM DL DM ev nt id:=by
 unfold standCK1Text
 conv=>zeta
 cases h:(idOk id&&(atO ts id).isSome)
 ·repeat' first|exact True.intro|with_reducible rfl|apply And.intro|exact rfl
 ·have hset:=set_rnAt (ts:=ts) (id:=id) (by simp only [Bool.and_eq_true] at h;exact h.2)
  repeat' first|exact True.intro|with_reducible rfl|apply And.intro|exact hset.symm|exact rfl
set_option maxHeartbeats 4000000 in
noncomputable def standCCon:Con T O:=fun args cs=>match args,cs with
 |[.raw (.pointer none), .raw (.int .i64 _)],[]=> .ret ⟨some (.agg [.raw (.int .i64 0), .raw (.int .i64 0), .raw (.int .i64 0), .raw (.int .i64 0), .raw (.int .i64 0), .raw (.int .i64 ((-1)))]),[]⟩
 |[.ptr 0 0, .raw (.int .i64 id)],[.tab [.raw (.int .i64 m), .raw (.int .i64 now)] 0 64 (ts) none [.ptr 1 0, .ptr 2 0, .own 3, .own 4] 105, .cells [.fn 40 [], .own 5, .own 6] 146, .cells [.ptr 7 0] 156, .vec 4 ev 151, .que 7 nt 84, .vec 5 RL 200, .map 0 RM, .cells [.fn 83 [], .own 8, .own 9] 198, .vec 6 DL 242, .map 0 DM]=> .ite (idOk id&&(atO ts id).isSome) (.ret (standCK1E0 m now ts RL RM DL DM ev nt id)) (.ret (standCK1E1 m now ts RL RM DL DM ev nt))
 |_,_=> .fail
theorem standCOk:ConOk R Tryz.prog 18 standCCon:=con_of_fn R (X50) (good (X50) rfl (TabOk.con R X50Ok)) mixed Tryz.call18 Tryz.func18 standCCon (by
 intro args cs K h
 unfold standCCon at h
 split at h
 ·rename_i id
  refine ⟨noAnn,_,fun v S hv=>⟨_,h,hv⟩, ?_⟩
  rw [standCK0Vc id]
  exact standCK0Holds id
 ·rename_i id m now ts ev nt RL RM DL DM
  refine ⟨annOf [] [] [] [4],_,fun v S hv=>holds_if h v S hv, ?_⟩
  have hv:=standCK1Vc m now ts RL RM DL DM ev nt id
  unfold cs3 at hv
  rw [hv]
  exact standCK1Holds m now ts RL RM DL DM ev nt id
 ·exact h.elim)
def leaveCK0Text (id:Int):Prop:=((((1:Int)=(1:Int))/\ True)/\ True)
theorem leaveCK0Vc (id:Int):fnX X50 (noAnn) Tryz.f29 [.raw (.pointer none), .raw (.int .i64 id)] [] (ends [] ⟨some (.raw (.int .i64 1)),[]⟩)=leaveCK0Text id:=by kernel_rfl
theorem leaveCK0Holds (id:Int):leaveCK0Text id:=by
 unfold leaveCK0Text
 repeat' first|trivial|rfl|apply And.intro
noncomputable def leaveCK1E0 (m:Int) (now:Int) (ts:List (Option Rnr)) (RL:List EThing) (RM:List (Int×Int)) (DL:List VThing) (DM:List (Int×Int)) (ev:List Ev) (nt:List Note) (id:Int):Eff T O:=⟨some (.raw (.int .i64 ((goesE ⟨m,now,ts,(RL,RM),(DL,DM),ev,nt⟩ id)))),[(0,some (.tab [.raw (.int .i64 ((goesG ⟨m,now,ts,(RL,RM),(DL,DM),ev,nt⟩ id 2 0 0).m)), .raw (.int .i64 ((goesG ⟨m,now,ts,(RL,RM),(DL,DM),ev,nt⟩ id 2 0 0).now))] 0 64 ((goesG ⟨m,now,ts,(RL,RM),(DL,DM),ev,nt⟩ id 2 0 0).ts) none [.ptr 1 0, .ptr 2 0, .own 10, .own 11] 105)),(1,some (.cells [.fn 40 [], .own 12, .own 6] 146)),(3,none),(4,none),(5,none),(6,some (.map 0 (goesG ⟨m,now,ts,(RL,RM),(DL,DM),ev,nt⟩ id 2 0 0).rq.2)),(7,some (.cells [.fn 83 [], .own 13, .own 9] 198)),(8,none),(9,some (.map 0 (goesG ⟨m,now,ts,(RL,RM),(DL,DM),ev,nt⟩ id 2 0 0).dq.2)),(10,some (.vec 4 (goesG ⟨m,now,ts,(RL,RM),(DL,DM),ev,nt⟩ id 2 0 0).ev 151)),(11,some (.que 7 (goesG ⟨m,now,ts,(RL,RM),(DL,DM),ev,nt⟩ id 2 0 0).nt 84)),(12,some (.vec 5 (goesG ⟨m,now,ts,(RL,RM),(DL,DM),ev,nt⟩ id 2 0 0).rq.1 200)),(13,some (.vec 6 (goesG ⟨m,now,ts,(RL,RM),(DL,DM),ev,nt⟩ id 2 0 0).dq.1 242))]⟩
def leaveCK1Text (m now:Int) (ts:List (Option Rnr)) (RL:List EThing) (RM:List (Int×Int)) (DL:List VThing) (DM:List (Int×Int)) (ev:List Ev) (nt:List Note) (id:Int):Prop:=let q1:=(EG.mk m now ts (RL,RM) (DL,DM) ev nt);let q0:=(goesG q1 id (2:Int) (0:Int) (0:Int));let q2:=(True/\ (True/\ (True/\ True)));(match (decide (GoesP q1 id (2:Int) (0:Int) (0:Int))) with|true=>(((goesE q1 id=goesE q1 id)/\ True)/\ ((((q0.m=q0.m)/\ ((q0.now=q0.now)/\ True))/\ ((q0.ts=q0.ts)/\ ((True/\ q2)/\ True)))/\ (q2/\ ((True/\ True)/\ ((q0.rq.snd=q0.rq.snd)/\ (q2/\ ((q0.dq.snd=q0.dq.snd)/\ ((q0.ev=q0.ev)/\ ((q0.nt=q0.nt)/\ ((q0.rq.fst=q0.rq.fst)/\ ((q0.dq.fst=q0.dq.fst)/\ True)))))))))))|false=>False)
theorem leaveCK1Vc (m now:Int) (ts:List (Option Rnr)) (RL:List EThing) (RM:List (Int×Int)) (DL:List VThing) (DM:List (Int×Int)) (ev:List Ev) (nt:List Note) (id:Int):fnX X50 (noAnn) Tryz.f29 [.ptr 0 0, .raw (.int .i64 id)] (cs3 m now ts RL RM DL DM ev nt) (ends (cs3 m now ts RL RM DL DM ev nt) (leaveCK1E0 m now ts RL RM DL DM ev nt id))=leaveCK1Text m now ts RL RM DL DM ev nt id:=by kernel_rfl
theorem leaveCK1Holds (m now:Int) (ts:List (Option Rnr)) (RL:List EThing) (RM:List (Int×Int)) (DL:List VThing) (DM:List (Int×Int)) (ev:List Ev) (nt:List Note) (id:Int) (hp:GoesP ⟨m,now,ts,(RL,RM),(DL,DM),ev,nt⟩ id 2 0 0):leaveCK1Text m now ts RL RM DL DM ev nt id:=by
 unfold leaveCK1Text
 conv=>zeta
 refine mD hp ?_
 repeat' first|exact True.intro|with_reducible rfl|apply And.intro|exact rfl
set_option maxHeartbeats 4000000 in
noncomputable def leaveCCon:Con T O:=fun args cs=>match args,cs with
 |[.raw (.pointer none), .raw (.int .i64 _)],[]=> .ret ⟨some (.raw (.int .i64 1)),[]⟩
 |[.ptr 0 0, .raw (.int .i64 id)],[.tab [.raw (.int .i64 m), .raw (.int .i64 now)] 0 64 (ts) none [.ptr 1 0, .ptr 2 0, .own 3, .own 4] 105, .cells [.fn 40 [], .own 5, .own 6] 146, .cells [.ptr 7 0] 156, .vec 4 ev 151, .que 7 nt 84, .vec 5 RL 200, .map 0 RM, .cells [.fn 83 [], .own 8, .own 9] 198, .vec 6 DL 242, .map 0 DM]=>chk (decide (GoesP ⟨m,now,ts,(RL,RM),(DL,DM),ev,nt⟩ id 2 0 0)) (.ret (leaveCK1E0 m now ts RL RM DL DM ev nt id))
 |_,_=> .fail
theorem leaveCOk:ConOk R Tryz.prog 29 leaveCCon:=con_of_fn R (X50) (good (X50) rfl (TabOk.con R X50Ok)) mixed Tryz.call29 Tryz.func29 leaveCCon (by
 intro args cs K h
 unfold leaveCCon at h
 split at h
 ·rename_i id
  refine ⟨noAnn,_,fun v S hv=>⟨_,h,hv⟩, ?_⟩
  rw [leaveCK0Vc id]
  exact leaveCK0Holds id
 ·rename_i id m now ts ev nt RL RM DL DM
  rw [Tree.holds_chk] at h
  obtain ⟨hp,h⟩:=h
  refine ⟨noAnn,_,fun v S hv=>⟨_,h,hv⟩, ?_⟩
  have hv:=leaveCK1Vc m now ts RL RM DL DM ev nt id
  unfold cs3 at hv
  rw [hv]
  exact leaveCK1Holds m now ts RL RM DL DM ev nt id (of_decide_eq_true hp)
 ·exact h.elim)
def reweightCK0Text (id E P:Int):Prop:=(match (!windowCheck E P) with|true=>((((1:Int)=(1:Int))/\ True)/\ True)|false=>((((1:Int)=(1:Int))/\ True)/\ True))
theorem reweightCK0Vc (id E P:Int):fnX X50 (noAnn) Tryz.f31 [.raw (.pointer none), .raw (.int .i64 id), .agg [.raw (.int .i64 E), .raw (.int .i64 P)]] [] (ends [] ⟨some (.raw (.int .i64 1)),[]⟩)=reweightCK0Text id E P:=by kernel_rfl
theorem reweightCK0Holds (id E P:Int):reweightCK0Text id E P:=by
 unfold reweightCK0Text
 cases windowCheck E P<;>(repeat' first|trivial|rfl|apply And.intro)
noncomputable def reweightCK1E0 (m:Int) (now:Int) (ts:List (Option Rnr)) (RL:List EThing) (RM:List (Int×Int)) (DL:List VThing) (DM:List (Int×Int)) (ev:List Ev) (nt:List Note) (id:Int) (E:Int) (P:Int):Eff T O:=⟨some (.raw (.int .i64 ((rewE ⟨m,now,ts,(RL,RM),(DL,DM),ev,nt⟩ id E P)))),[(0,some (.tab [.raw (.int .i64 ((rewG ⟨m,now,ts,(RL,RM),(DL,DM),ev,nt⟩ id E P).m)), .raw (.int .i64 ((rewG ⟨m,now,ts,(RL,RM),(DL,DM),ev,nt⟩ id E P).now))] 0 64 ((rewG ⟨m,now,ts,(RL,RM),(DL,DM),ev,nt⟩ id E P).ts) none [.ptr 1 0, .ptr 2 0, .own 10, .own 11] 105)),(1,some (.cells [.fn 40 [], .own 12, .own 6] 146)),(3,none),(4,none),(5,none),(6,some (.map 0 (rewG ⟨m,now,ts,(RL,RM),(DL,DM),ev,nt⟩ id E P).rq.2)),(7,some (.cells [.fn 83 [], .own 13, .own 9] 198)),(8,none),(9,some (.map 0 (rewG ⟨m,now,ts,(RL,RM),(DL,DM),ev,nt⟩ id E P).dq.2)),(10,some (.vec 4 (rewG ⟨m,now,ts,(RL,RM),(DL,DM),ev,nt⟩ id E P).ev 151)),(11,some (.que 7 (rewG ⟨m,now,ts,(RL,RM),(DL,DM),ev,nt⟩ id E P).nt 84)),(12,some (.vec 5 (rewG ⟨m,now,ts,(RL,RM),(DL,DM),ev,nt⟩ id E P).rq.1 200)),(13,some (.vec 6 (rewG ⟨m,now,ts,(RL,RM),(DL,DM),ev,nt⟩ id E P).dq.1 242))]⟩
def reweightCK1Text (m now:Int) (ts:List (Option Rnr)) (RL:List EThing) (RM:List (Int×Int)) (DL:List VThing) (DM:List (Int×Int)) (ev:List Ev) (nt:List Note) (id E P:Int):Prop:=let q0:=(EG.mk m now ts (RL,RM) (DL,DM) ev nt);let q1:=(goesG q0 id (3:Int) E P);let q2:=(True/\ (True/\ (True/\ True)));(match (!windowCheck E P) with|true=>(((rewE q0 id E P=(1:Int))/\ True)/\ (((((rewG q0 id E P).m=m)/\ (((rewG q0 id E P).now=now)/\ True))/\ (((rewG q0 id E P).ts=ts)/\ ((True/\ q2)/\ True)))/\ (q2/\ ((True/\ True)/\ (((rewG q0 id E P).rq.snd=RM)/\ (q2/\ (((rewG q0 id E P).dq.snd=DM)/\ (((rewG q0 id E P).ev=ev)/\ (((rewG q0 id E P).nt=nt)/\ (((rewG q0 id E P).rq.fst=RL)/\ (((rewG q0 id E P).dq.fst=DL)/\ True)))))))))))|false=>(match (decide (GoesP q0 id (3:Int) E P)) with|true=>(((rewE q0 id E P=goesE q0 id)/\ True)/\ (((((rewG q0 id E P).m=q1.m)/\ (((rewG q0 id E P).now=q1.now)/\ True))/\ (((rewG q0 id E P).ts=q1.ts)/\ ((True/\ q2)/\ True)))/\ (q2/\ ((True/\ True)/\ (((rewG q0 id E P).rq.snd=q1.rq.snd)/\ (q2/\ (((rewG q0 id E P).dq.snd=q1.dq.snd)/\ (((rewG q0 id E P).ev=q1.ev)/\ (((rewG q0 id E P).nt=q1.nt)/\ (((rewG q0 id E P).rq.fst=q1.rq.fst)/\ (((rewG q0 id E P).dq.fst=q1.dq.fst)/\ True)))))))))))|false=>False))
theorem reweightCK1Vc (m now:Int) (ts:List (Option Rnr)) (RL:List EThing) (RM:List (Int×Int)) (DL:List VThing) (DM:List (Int×Int)) (ev:List Ev) (nt:List Note) (id E P:Int):fnX X50 (noAnn) Tryz.f31 [.ptr 0 0, .raw (.int .i64 id), .agg [.raw (.int .i64 E), .raw (.int .i64 P)]] (cs3 m now ts RL RM DL DM ev nt) (ends (cs3 m now ts RL RM DL DM ev nt) (reweightCK1E0 m now ts RL RM DL DM ev nt id E P))=reweightCK1Text m now ts RL RM DL DM ev nt id E P:=by kernel_rfl
theorem reweightCK1Holds (m now:Int) (ts:List (Option Rnr)) (RL:List EThing) (RM:List (Int×Int)) (DL:List VThing) (DM:List (Int×Int)) (ev:List Ev) (nt:List Note) (id E P:Int) (hp:windowCheck E P=true->GoesP ⟨m,now,ts,(RL,RM),(DL,DM),ev,nt⟩ id 3 E P):reweightCK1Text m now ts RL RM DL DM ev nt id E P:=by
 unfold reweightCK1Text
 conv=>zeta
 unfold rewE rewG
 cases h:windowCheck E P
 ·repeat' first|exact True.intro|with_reducible rfl|apply And.intro|exact rfl
 ·refine mD (hp h) ?_
  repeat' first|exact True.intro|with_reducible rfl|apply And.intro|exact rfl
set_option maxHeartbeats 4000000 in
noncomputable def reweightCCon:Con T O:=fun args cs=>match args,cs with
 |[.raw (.pointer none), .raw (.int .i64 _), .agg [.raw (.int .i64 _), .raw (.int .i64 _)]],[]=> .ret ⟨some (.raw (.int .i64 1)),[]⟩
 |[.ptr 0 0, .raw (.int .i64 id), .agg [.raw (.int .i64 E), .raw (.int .i64 P)]],[.tab [.raw (.int .i64 m), .raw (.int .i64 now)] 0 64 (ts) none [.ptr 1 0, .ptr 2 0, .own 3, .own 4] 105, .cells [.fn 40 [], .own 5, .own 6] 146, .cells [.ptr 7 0] 156, .vec 4 ev 151, .que 7 nt 84, .vec 5 RL 200, .map 0 RM, .cells [.fn 83 [], .own 8, .own 9] 198, .vec 6 DL 242, .map 0 DM]=>chk (decide (windowCheck E P=true->GoesP ⟨m,now,ts,(RL,RM),(DL,DM),ev,nt⟩ id 3 E P)) (.ret (reweightCK1E0 m now ts RL RM DL DM ev nt id E P))
 |_,_=> .fail
theorem reweightCOk:ConOk R Tryz.prog 31 reweightCCon:=con_of_fn R (X50) (good (X50) rfl (TabOk.con R X50Ok)) mixed Tryz.call31 Tryz.func31 reweightCCon (by
 intro args cs K h
 unfold reweightCCon at h
 split at h
 ·rename_i id E P
  refine ⟨noAnn,_,fun v S hv=>⟨_,h,hv⟩, ?_⟩
  rw [reweightCK0Vc id E P]
  exact reweightCK0Holds id E P
 ·rename_i id E P m now ts ev nt RL RM DL DM
  rw [Tree.holds_chk] at h
  obtain ⟨hp,h⟩:=h
  refine ⟨noAnn,_,fun v S hv=>⟨_,h,hv⟩, ?_⟩
  have hv:=reweightCK1Vc m now ts RL RM DL DM ev nt id E P
  unfold cs3 at hv
  rw [hv]
  exact reweightCK1Holds m now ts RL RM DL DM ev nt id E P (of_decide_eq_true hp)
 ·exact h.elim)
noncomputable def newEE0 (m:Int) (at1:Int):Eff T O:=⟨some (.ptr 0 0),[(0,some (.tab [.raw (.int .i64 m), .raw (.int .i64 at1)] 0 64 (noTs) none [.ptr 1 0, .ptr 2 0, .own 3, .own 4] 105)),(1,some (.cells [.fn 40 [], .own 5, .own 6] 146)),(2,some (.cells [.ptr 7 0] 156)),(3,some (.vec 4 noEv 151)),(4,some (.que 7 noNt 84)),(5,some (.vec 5 noET 200)),(6,some (.map 0 noM)),(7,some (.cells [.fn 83 [], .own 8, .own 9] 198)),(8,some (.vec 6 noVT 242)),(9,some (.map 0 noM))]⟩
def newEText (m at1:Int):Prop:=let q1:=(decide ((1:Int)<=m)&&decide (m<=(1024:Int))&&decide ((0:Int)<=at1)&&decide (at1<=(1099511627776:Int)));let q0:=(match q1 with|true=>False|false=>(((Value.pointer none=Value.pointer none)/\ True)/\ True));let q2:=(True/\ (True/\ (True/\ True)));(match (decide (m<(1:Int))) with|true=>q0|false=>(match (decide (m>(1024:Int))) with|true=>q0|false=>(match (decide (at1<(0:Int))) with|true=>q0|false=>(match (decide (at1>(1099511627776:Int))) with|true=>q0|false=>(match q1 with|true=>((True/\ True)/\ ((((m=m)/\ ((at1=at1)/\ True))/\ ((noTs=List.replicate (64:Nat) none)/\ ((True/\ q2)/\ True)))/\ (q2/\ ((True/\ True)/\ ((noEv=[])/\ ((noNt=[])/\ ((noET=enoThings)/\ ((noM=enoPlaces)/\ (q2/\ ((noVT=vnoThings)/\ ((noM=vnoPlaces)/\ True)))))))))))|false=>((False/\ True)/\ True))))))
theorem newEVc (m at1:Int):fnX X50 (noAnn) Tryz.f12 [.raw (.int .i64 m), .raw (.int .i64 at1)] [] (endsIf (decide (1<=m)&&decide (m<=1024)&&decide (0<=at1)&&decide (at1<=1099511627776)) [] (newEE0 m at1) ⟨some (.raw (.pointer none)),[]⟩)=newEText m at1:=by kernel_rfl
theorem newEHolds (m at1:Int):newEText m at1:=by
 unfold newEText
 conv=>zeta
 by_cases h1:m<1
 ·rw [decide_eq_true h1,decide_eq_false (show ¬1<=m by omega)]
  repeat' first|exact True.intro|with_reducible rfl|apply And.intro|exact rfl
 rw [decide_eq_false h1,decide_eq_true (show 1<=m by omega)]
 by_cases h2:m>1024
 ·rw [decide_eq_true h2,decide_eq_false (show ¬m<=1024 by omega)]
  repeat' first|exact True.intro|with_reducible rfl|apply And.intro|exact rfl
 rw [decide_eq_false h2,decide_eq_true (show m<=1024 by omega)]
 by_cases h3:at1<0
 ·rw [decide_eq_true h3,decide_eq_false (show ¬0<=at1 by omega)]
  repeat' first|exact True.intro|with_reducible rfl|apply And.intro|exact rfl
 rw [decide_eq_false h3,decide_eq_true (show 0<=at1 by omega)]
 by_cases h4:at1>1099511627776
 ·rw [decide_eq_true h4,decide_eq_false (show ¬at1<=1099511627776 by omega)]
  repeat' first|exact True.intro|with_reducible rfl|apply And.intro|exact rfl
 rw [decide_eq_false h4,decide_eq_true (show at1<=1099511627776 by omega)]
 repeat' first|exact True.intro|with_reducible rfl|apply And.intro|exact rfl
noncomputable def newECon:Con T O:=fun args cs=>match args,cs with
 |[.raw (.int .i64 m), .raw (.int .i64 at1)],[]=> .ite (decide (1<=m)&&decide (m<=1024)&&decide (0<=at1)&&decide (at1<=1099511627776)) (.ret (newEE0 m at1)) (.ret ⟨some (.raw (.pointer none)),[]⟩)
 |_,_=> .fail
theorem newEOk:ConOk R Tryz.prog 12 newECon:=con_of_fn R (X50) (good (X50) rfl (TabOk.con R X50Ok)) mixed Tryz.call12 Tryz.func12 newECon (by
 intro args cs K h
 unfold newECon at h
 split at h
 ·rename_i m at1
  refine ⟨noAnn,_,fun v S hv=>holds_if h v S hv, ?_⟩
  rw [newEVc m at1]
  exact newEHolds m at1
 ·exact h.elim)
noncomputable def tab51:Tab T O:=(28,nowCCon)::(18,standCCon)::(29,leaveCCon)::(31,reweightCCon)::(12,newECon)::tab50
theorem tabOk51:TabOk R Tryz.prog tab51:=TabOk.cons R nowCOk<|TabOk.cons R standCOk<|TabOk.cons R leaveCOk<|TabOk.cons R reweightCOk<|TabOk.cons R newEOk<|tabOk50
noncomputable def X51:Ctx T O:= { X0 with con:=conOf tab51 }
theorem X51Ok:TabOk R X51.P tab51:=tabOk51
end Go.Proofs.YtlfjbnflfdnoaaaGreat
namespace Go.Proofs.YtlfjbnflfdnoaaaGreat
open Go.Sx Go.Proofs Classical
def pickL (g:EG):List Entry:=(pk (pkN g) g.rq).1
def pickG (g:EG):EG:= { g with rq:=(pk (pkN g) g.rq).2 }
def rnrOf (ts:List (Option Rnr)) (e:Entry):Runner:=⟨e.ID,(rnAt ts e.ID).pin,(rnAt ts e.ID).last⟩
def rnrsOf (ts:List (Option Rnr)) (l:List Entry):List Runner:=l.map (rnrOf ts)
abbrev zEnt:Entry:=⟨0,0,0,0,0,0⟩
def runs0 (l:List Entry) (c:List Int):Nat->List Run
 |0=>[]
 |n+1=>runs0 l c n++[⟨(at' zEnt l (n:Int)).ID,at' (0:Int) c (n:Int),0⟩]
def tick0 (g:EG):List Run:=srtRun (runs0 (pickL g) (asgP (rnrsOf g.ts (pickL g))) (pickL g).length)
def tkR (g:EG):Nat->EG×List Run
 |0=>(pickG g,tick0 g)
 |n+1=>(runsG (tkR g n).1 (at' zRun (tkR g n).2 (n:Int)).ID (at' zRun (tkR g n).2 (n:Int)).Core,(tkR g n).2.set n ⟨(at' zRun (tkR g n).2 (n:Int)).ID,(at' zRun (tkR g n).2 (n:Int)).Core,(headT (rnAt (tkR g n).1.ts (at' zRun (tkR g n).2 (n:Int)).ID).t.waits).Index⟩)
def tick1 (g:EG):EG×List Run:=tkR g (tick0 g).length
def tickL (g:EG):List Run:=(tick1 g).2
def trimG (g:EG):EG:= { g with nt:=g.nt.drop (g.nt.length-4096),now:=IntKind.i64.wrap (g.now+1) }
def filN (L:List Run) (g:EG):Nat->EG
 |0=>g
 |n+1=>filesG (filN L g n) (at' zRun L (n:Int)).ID
def tick2 (g:EG):EG:=filN (tickL g) (trimG (tick1 g).1) (tickL g).length
def tickG (g:EG):EG:=settlesG (tick2 g)
def TickP (g:EG):Prop:=0<=g.m/\ g.m<=1024/\ g.rq.1.length<=999/\ g.ts.length=64/\ (pickL g).length<=12/\ (∀x:Nat,x<(pickL g).length->idOk (at' zEnt (pickL g) (x:Int)).ID=true/\ (atO g.ts (at' zEnt (pickL g) (x:Int)).ID).isSome=true)∧
 chkA (rnrsOf g.ts (pickL g)) g.m=true/\ (asgP (rnrsOf g.ts (pickL g))).length=(pickL g).length/\ (tick0 g).length<=12/\ (∀x:Nat,x<(tick0 g).length->RunsP (tkR g x).1 (at' zRun (tkR g x).2 (x:Int)).ID)/\ (tick1 g).1.nt.length<=2000000∧
 (∀x:Nat,x<(tickL g).length->FilesP (filN (tickL g) (trimG (tick1 g).1) x) (at' zRun (tickL g) (x:Int)).ID)/\ SettleP (tick2 g)
theorem runs0_len {l:List Entry} {co:List Int}: ∀n,(runs0 l co n).length=n
 |0=>rfl
 |n+1=>by simp only [runs0,List.length_append,List.length_singleton,runs0_len n]
theorem tkR_len (g:EG): ∀n,(tkR g n).2.length=(tick0 g).length
 |0=>rfl
 |n+1=>by simp only [tkR,List.length_set,tkR_len g n]
theorem cut_tail {α:Type} {L:List α} {k:Nat} (h:k<=L.length):slOk (some (k:Int)) none none (L.length:Int)=true/\ cutL (some (k:Int)) none L=L.drop k:=by
 refine ⟨?_, ?_⟩
 ·unfold slOk
  simp [optB]
  omega
 ·simp [cutL,optB]
theorem trimG_eq (q:EG):(trimG q).m=q.m/\ (trimG q).now=IntKind.i64.wrap (q.now+1)/\ (trimG q).ts=q.ts/\ (trimG q).rq=q.rq/\ (trimG q).dq=q.dq/\ (trimG q).ev=q.ev/\ (trimG q).nt=q.nt.drop (q.nt.length-4096):=by
 unfold trimG
 dsimp only
 exact ⟨rfl,rfl,rfl,rfl,rfl,rfl,rfl⟩
theorem trim_cut {α:Type} {L:List α} (h:L.length<=2000000):slOk (some (if (0:Int)>IntKind.i64.wrap ((L.length:Int)-4096) then (0:Int) else IntKind.i64.wrap ((L.length:Int)-4096))) none none (L.length:Int)=true/\ cutL (some (if (0:Int)>IntKind.i64.wrap ((L.length:Int)-4096) then (0:Int) else IntKind.i64.wrap ((L.length:Int)-4096))) none L=L.drop (L.length-4096):=by
 obtain ⟨k,hk⟩: ∃k:Nat,k=L.length-4096:=⟨_,rfl⟩
 have hK:(if (0:Int)>IntKind.i64.wrap ((L.length:Int)-4096) then (0:Int) else IntKind.i64.wrap ((L.length:Int)-4096))=(k:Int):=by
  rw [wrap_id (by omega) (by omega)]
  split<;>omega
 rw [hK,←hk]
 exact cut_tail (by omega)
def tickCK0Text:Prop:=((((((0:Int)=(0:Int))/\ ((Value.slice none (0:Nat) (0:Nat)=Value.slice none (0:Nat) (0:Nat))/\ True))/\ (((1:Int)=(1:Int))/\ True))/\ True)/\ True)
theorem tickCK0Vc:fnX X51 (noAnn) Tryz.f16 [.raw (.pointer none)] [] (ends [] ⟨some (.tup [.agg [.raw (.int .i64 0), .raw (.slice none 0 0)], .raw (.int .i64 1)]),[]⟩)=tickCK0Text:=by kernel_rfl
theorem tickCK0Holds:tickCK0Text:=by
 unfold tickCK0Text
 repeat' first|trivial|rfl|apply And.intro
noncomputable def tickCK1A (m:Int) (now:Int) (ts:List (Option Rnr)) (RL:List EThing) (RM:List (Int×Int)) (DL:List VThing) (DM:List (Int×Int)) (ev:List Ev) (nt:List Note):Ann T O:=annOf [(8, { σ:=Nat,st:=fun S x=>(((S.keep [0,2,4,31,32]).gc 10).int 33 x).new 5 (.vec 9 (rnrsOf ts ((pickL ⟨m,now,ts,(RL,RM),(DL,DM),ev,nt⟩).take x)) 63),inv:=fun _ x=>x<=(pickL ⟨m,now,ts,(RL,RM),(DL,DM),ev,nt⟩).length,m:=fun x=>(pickL ⟨m,now,ts,(RL,RM),(DL,DM),ev,nt⟩).length-x }),(16, { σ:=Nat,st:=fun S x=>((((S.keep [0,2,9,11,73,74]).int 75 x).at' 11 (.cells [.raw (.int .i64 now), .own S.next] 49)).add (.vec 8 (runs0 (pickL ⟨m,now,ts,(RL,RM),(DL,DM),ev,nt⟩) (asgP (rnrsOf ts (pickL ⟨m,now,ts,(RL,RM),(DL,DM),ev,nt⟩))) x) 61)).gc 10,inv:=fun _ x=>x<=(pickL ⟨m,now,ts,(RL,RM),(DL,DM),ev,nt⟩).length,m:=fun x=>(pickL ⟨m,now,ts,(RL,RM),(DL,DM),ev,nt⟩).length-x }),(22, { σ:=Nat,st:=fun S x=>((((((((((((((((S.keep [0,2,11,97,98]).drop 3).drop 4).drop 5).drop 8).chunk 0 (.tab [.raw (.int .i64 (((tkR ⟨m,now,ts,(RL,RM),(DL,DM),ev,nt⟩ x).1).m)), .raw (.int .i64 (((tkR ⟨m,now,ts,(RL,RM),(DL,DM),ev,nt⟩ x).1).now))] 0 64 (((tkR ⟨m,now,ts,(RL,RM),(DL,DM),ev,nt⟩ x).1).ts) none [.ptr 1 0, .ptr 2 0, .own S.next, .own (S.next+1)] 105)).chunk 1 (.cells [.fn 40 [], .own (S.next+2), .own 6] 146)).chunk 6 (.map 0 ((tkR ⟨m,now,ts,(RL,RM),(DL,DM),ev,nt⟩ x).1).rq.2)).chunk 9 (.map 0 ((tkR ⟨m,now,ts,(RL,RM),(DL,DM),ev,nt⟩ x).1).dq.2)).chunk 7 (.cells [.fn 83 [], .own (S.next+3), .own 9] 198)).add (.vec 4 ((tkR ⟨m,now,ts,(RL,RM),(DL,DM),ev,nt⟩ x).1).ev 151)).add (.que 7 ((tkR ⟨m,now,ts,(RL,RM),(DL,DM),ev,nt⟩ x).1).nt 84)).add (.vec 5 ((tkR ⟨m,now,ts,(RL,RM),(DL,DM),ev,nt⟩ x).1).rq.1 200)).add (.vec 6 ((tkR ⟨m,now,ts,(RL,RM),(DL,DM),ev,nt⟩ x).1).dq.1 242)).gc 10).int 99 x).at' 97 (.vec 8 (tkR ⟨m,now,ts,(RL,RM),(DL,DM),ev,nt⟩ x).2 61),inv:=fun _ x=>x<=(tick0 ⟨m,now,ts,(RL,RM),(DL,DM),ev,nt⟩).length,m:=fun x=>(tick0 ⟨m,now,ts,(RL,RM),(DL,DM),ev,nt⟩).length-x }),(29, { σ:=Nat,st:=fun S x=>(((((((((((((((S.keep [0,2,11,138,139]).drop 3).drop 4).drop 5).drop 8).chunk 0 (.tab [.raw (.int .i64 ((filN (tickL ⟨m,now,ts,(RL,RM),(DL,DM),ev,nt⟩) (trimG (tick1 ⟨m,now,ts,(RL,RM),(DL,DM),ev,nt⟩).1) x).m)), .raw (.int .i64 ((filN (tickL ⟨m,now,ts,(RL,RM),(DL,DM),ev,nt⟩) (trimG (tick1 ⟨m,now,ts,(RL,RM),(DL,DM),ev,nt⟩).1) x).now))] 0 64 ((filN (tickL ⟨m,now,ts,(RL,RM),(DL,DM),ev,nt⟩) (trimG (tick1 ⟨m,now,ts,(RL,RM),(DL,DM),ev,nt⟩).1) x).ts) none [.ptr 1 0, .ptr 2 0, .own S.next, .own (S.next+1)] 105)).chunk 1 (.cells [.fn 40 [], .own (S.next+2), .own 6] 146)).chunk 6 (.map 0 (filN (tickL ⟨m,now,ts,(RL,RM),(DL,DM),ev,nt⟩) (trimG (tick1 ⟨m,now,ts,(RL,RM),(DL,DM),ev,nt⟩).1) x).rq.2)).chunk 9 (.map 0 (filN (tickL ⟨m,now,ts,(RL,RM),(DL,DM),ev,nt⟩) (trimG (tick1 ⟨m,now,ts,(RL,RM),(DL,DM),ev,nt⟩).1) x).dq.2)).chunk 7 (.cells [.fn 83 [], .own (S.next+3), .own 9] 198)).add (.vec 4 (filN (tickL ⟨m,now,ts,(RL,RM),(DL,DM),ev,nt⟩) (trimG (tick1 ⟨m,now,ts,(RL,RM),(DL,DM),ev,nt⟩).1) x).ev 151)).add (.que 7 (filN (tickL ⟨m,now,ts,(RL,RM),(DL,DM),ev,nt⟩) (trimG (tick1 ⟨m,now,ts,(RL,RM),(DL,DM),ev,nt⟩).1) x).nt 84)).add (.vec 5 (filN (tickL ⟨m,now,ts,(RL,RM),(DL,DM),ev,nt⟩) (trimG (tick1 ⟨m,now,ts,(RL,RM),(DL,DM),ev,nt⟩).1) x).rq.1 200)).add (.vec 6 (filN (tickL ⟨m,now,ts,(RL,RM),(DL,DM),ev,nt⟩) (trimG (tick1 ⟨m,now,ts,(RL,RM),(DL,DM),ev,nt⟩).1) x).dq.1 242)).gc 10).int 140 x,inv:=fun _ x=>x<=(tickL ⟨m,now,ts,(RL,RM),(DL,DM),ev,nt⟩).length,m:=fun x=>(tickL ⟨m,now,ts,(RL,RM),(DL,DM),ev,nt⟩).length-x })] [] [] [11]
noncomputable def tickCK1E0 (m:Int) (now:Int) (ts:List (Option Rnr)) (RL:List EThing) (RM:List (Int×Int)) (DL:List VThing) (DM:List (Int×Int)) (ev:List Ev) (nt:List Note):Eff T O:=⟨some (.tup [.agg [.raw (.int .i64 now), .own 14], .raw (.int .i64 0)]),[(0,some (.tab [.raw (.int .i64 ((tickG ⟨m,now,ts,(RL,RM),(DL,DM),ev,nt⟩).m)), .raw (.int .i64 ((tickG ⟨m,now,ts,(RL,RM),(DL,DM),ev,nt⟩).now))] 0 64 ((tickG ⟨m,now,ts,(RL,RM),(DL,DM),ev,nt⟩).ts) none [.ptr 1 0, .ptr 2 0, .own 10, .own 11] 105)),(1,some (.cells [.fn 40 [], .own 12, .own 6] 146)),(3,none),(4,none),(5,none),(6,some (.map 0 (tickG ⟨m,now,ts,(RL,RM),(DL,DM),ev,nt⟩).rq.2)),(7,some (.cells [.fn 83 [], .own 13, .own 9] 198)),(8,none),(9,some (.map 0 (tickG ⟨m,now,ts,(RL,RM),(DL,DM),ev,nt⟩).dq.2)),(10,some (.vec 4 (tickG ⟨m,now,ts,(RL,RM),(DL,DM),ev,nt⟩).ev 151)),(11,some (.que 7 (tickG ⟨m,now,ts,(RL,RM),(DL,DM),ev,nt⟩).nt 84)),(12,some (.vec 5 (tickG ⟨m,now,ts,(RL,RM),(DL,DM),ev,nt⟩).rq.1 200)),(13,some (.vec 6 (tickG ⟨m,now,ts,(RL,RM),(DL,DM),ev,nt⟩).dq.1 242)),(14,some (.vec 8 (tickL ⟨m,now,ts,(RL,RM),(DL,DM),ev,nt⟩) 61))]⟩
noncomputable def tickCK1E1 (m:Int) (now:Int) (ts:List (Option Rnr)) (RL:List EThing) (RM:List (Int×Int)) (DL:List VThing) (DM:List (Int×Int)) (ev:List Ev) (nt:List Note):Eff T O:=⟨some (.tup [.agg [.raw (.int .i64 0), .raw (.slice none 0 0)], .raw (.int .i64 20)]),[(0,some (.tab [.raw (.int .i64 m), .raw (.int .i64 now)] 0 64 (ts) none [.ptr 1 0, .ptr 2 0, .own 3, .own 4] 105)),(3,some (.vec 4 ev 151)),(4,some (.que 7 nt 84)),(5,some (.vec 5 RL 200)),(6,some (.map 0 RM)),(8,some (.vec 6 DL 242)),(9,some (.map 0 DM))]⟩
def tickCK1Text (m now:Int) (ts:List (Option Rnr)) (RL:List EThing) (RM:List (Int×Int)) (DL:List VThing) (DM:List (Int×Int)) (ev:List Ev) (nt:List Note):Prop:=let q0:=(EG.mk m now ts (RL,RM) (DL,DM) ev nt);let q3:=(pk (pkN q0) (RL,RM));let q24:=(Value.slice none (0:Nat) (0:Nat)=Value.slice none (0:Nat) (0:Nat));let q4:=(((0:Int)=(0:Int))/\ (q24/\ True));let q5:=(True/\ (True/\ (True/\ True)));let q11:=(((m=m)/\ ((now=now)/\ True))/\ ((ts=ts)/\ ((True/\ q5)/\ True)));let q14:=((↑q3.fst.length:Int)=(↑q3.fst.length:Int));let q15:=((now=now)/\ (True/\ True));let q18:=((DL,DM).snd=(DL,DM).snd);let q19:=((DL,DM).fst=(DL,DM).fst);let q20:=(asgP (rnrsOf ts (pickL q0)));let q21:=(q3.snd.snd=q3.snd.snd);let q22:=(q3.snd.fst=q3.snd.fst);(match (decide (now>=(1099511627776:Int))) with|true=>(match (decide (now<(1099511627776:Int))) with|true=>(((((now=(0:Int))/\ (True/\ True))/\ (((0:Int)=(20:Int))/\ True))/\ True)/\ (((((tickG q0).m=m)/\ (((tickG q0).now=now)/\ True))/\ (((tickG q0).ts=ts)/\ ((True/\ q5)/\ True)))/\ (q5/\ ((True/\ True)/\ (((tickG q0).rq.snd=RM)/\ (q5/\ (((tickG q0).dq.snd=DM)/\ (((tickG q0).ev=ev)/\ (((tickG q0).nt=nt)/\ (((tickG q0).rq.fst=RL)/\ (((tickG q0).dq.fst=DL)/\ ((tickL q0=[])/\ True))))))))))))|false=>(((q4/\ (((20:Int)=(20:Int))/\ True))/\ True)/\ (q11/\ (q5/\ ((True/\ True)/\ ((ev=ev)/\ ((nt=nt)/\ ((RL=RL)/\ ((RM=RM)/\ (q5/\ ((DL=DL)/\ ((DM=DM)/\ True))))))))))))|false=>(match (decide ((0:Int)<=m/\ m<=(1024:Int)/\ RL.length<=(999:Nat))) with|true=>((∃x:Nat,((x.le (pickL q0).length)/\ ((True/\ (True/\ (True/\ (True/\ (True/\ (q14/\ (((↑x:Int)=(0:Int))/\ True)))))))/\ (q11/\ (q5/\ ((True/\ True)/\ (q21/\ (q5/\ (q18/\ (q4/\ ((ev=ev)/\ ((nt=nt)/\ (q22/\ (q19/\ ((q3.fst=q3.fst)/\ ((rnrsOf ts (List.take x (pickL q0))=[])/\ True))))))))))))))))/\ (∀x:Nat,let q10:=(rnrsOf ts (List.take x (pickL q0)));let q12:=(at' entryE.zero q3.fst (↑x:Int));let q27:=((atO ts q12.ID).getD rnrL.zero);((x.le (pickL q0).length)->(match (decide ((↑x:Int)<(↑q3.fst.length:Int))) with|true=>(match (inb (↑x:Int) q3.fst.length) with|true=>(match (inb (↑x:Int) q3.fst.length) with|true=>(match (inb q12.ID (64:Nat)) with|true=>(match (inb q12.ID (64:Nat)) with|true=>(match ((atO ts q12.ID).isSome) with|true=>(match (roomy (q10.length+(1:Nat)) (nat_lit 24)) with|true=>(∃x':Nat,((x'.le (pickL q0).length)/\ (((pickL q0).length-x'<(pickL q0).length-x)/\ ((True/\ (True/\ (True/\ (True/\ (True/\ (q14/\ (((↑x':Int)=IntKind.i64.wrap ((↑x:Int)+(1:Int)))/\ True)))))))/\ ((((m=m)/\ ((now=now)/\ True))/\ ((ts=ts.set q12.ID.toNat (some q27))/\ ((True/\ q5)/\ True)))/\ (q5/\ ((True/\ True)/\ (q21/\ (q5/\ (q18/\ (q4/\ ((ev=ev)/\ ((nt=nt)/\ (q22/\ (q19/\ ((q3.fst=q3.fst)/\ ((rnrsOf ts (List.take x' (pickL q0))=rnrsOf ts (List.take x (pickL q0))++[Runner.mk q12.ID q27.pin q27.last])/\ True)))))))))))))))))|false=>False)|false=>False)|false=>False)|false=>False)|false=>False)|false=>False)|false=>(match (decide (q10.length<=(140737488355328:Nat))) with|true=>(match (chkA q10 m) with|true=>((∃x1:Nat,let q25:=(x1.le (pickL q0).length);let q29:=(True/\ (True/\ (q14/\ (((↑x1:Int)=(0:Int))/\ True))));(q25/\ ((True/\ (True/\ (True/\ q29)))/\ (q11/\ (q5/\ ((True/\ True)/\ (q21/\ (q5/\ (q18/\ (q4/\ ((ev=ev)/\ ((nt=nt)/\ (q22/\ (q19/\ ((q3.fst=q3.fst)/\ ((asgP q10=asgP q10)/\ (q15/\ ((runs0 (pickL q0) q20 x1=[])/\ True))))))))))))))))))/\ (∀x1:Nat,let q8:=(runs0 (pickL q0) q20 x1);let q30:=((↑(srtRun q8).length:Int)=(↑(srtRun q8).length:Int));let q1:=(match (decide (q8.length<=(12:Nat))) with|true=>((∃x2:Nat,((x2.le (tick0 q0).length)/\ ((True/\ (True/\ (True/\ (True/\ (q30/\ (((↑x2:Int)=(0:Int))/\ True))))))/\ (((((tkR q0 x2).fst.m=m)/\ (((tkR q0 x2).fst.now=now)/\ True))/\ (((tkR q0 x2).fst.ts=ts)/\ ((True/\ q5)/\ True)))/\ (q5/\ ((True/\ True)/\ (((tkR q0 x2).fst.rq.snd=q3.snd.snd)/\ (q5/\ (((tkR q0 x2).fst.dq.snd=(DL,DM).snd)/\ (q4/\ (q15/\ (((tkR q0 x2).snd=srtRun q8)/\ (((tkR q0 x2).fst.ev=ev)/\ (((tkR q0 x2).fst.nt=nt)/\ (((tkR q0 x2).fst.rq.fst=q3.snd.fst)/\ (((tkR q0 x2).fst.dq.fst=(DL,DM).fst)/\ True))))))))))))))))/\ (∀x2:Nat,let q13:=(at' runE.zero (tkR q0 x2).snd (↑x2:Int));let q6:=(runsG (tkR q0 x2).fst q13.ID q13.Core);let q16:=(some (if (0:Int)>IntKind.i64.wrap ((↑(tkR q0 x2).fst.nt.length:Int)-(4096:Int)) then (0:Int) else IntKind.i64.wrap ((↑(tkR q0 x2).fst.nt.length:Int)-(4096:Int))));let q17:=(inb (↑x2:Int) (tkR q0 x2).snd.length);let q26:=((↑(tkR q0 x2).snd.length:Int)=(↑(tkR q0 x2).snd.length:Int));((x2.le (tick0 q0).length)->(match (decide ((↑x2:Int)<(↑(srtRun q8).length:Int))) with|true=>(match q17 with|true=>(match q17 with|true=>(match (decide (RunsP (tkR q0 x2).fst q13.ID)) with|true=>(match q17 with|true=>(match q17 with|true=>(∃x':Nat,((x'.le (tick0 q0).length)/\ (((tick0 q0).length-x'<(tick0 q0).length-x2)/\ ((True/\ (True/\ (True/\ (True/\ (q30/\ (((↑x':Int)=IntKind.i64.wrap ((↑x2:Int)+(1:Int)))/\ True))))))/\ (((((tkR q0 x').fst.m=q6.m)/\ (((tkR q0 x').fst.now=q6.now)/\ True))/\ (((tkR q0 x').fst.ts=q6.ts)/\ ((True/\ q5)/\ True)))/\ (q5/\ ((True/\ True)/\ (((tkR q0 x').fst.rq.snd=q6.rq.snd)/\ (q5/\ (((tkR q0 x').fst.dq.snd=q6.dq.snd)/\ (q4/\ (q15/\ (((tkR q0 x').snd=(tkR q0 x2).snd.set (↑x2:Int).toNat (Run.mk q13.ID q13.Core (headT (rnAt (tkR q0 x2).fst.ts q13.ID).t.waits).Index))/\ (((tkR q0 x').fst.ev=q6.ev)/\ (((tkR q0 x').fst.nt=q6.nt)/\ (((tkR q0 x').fst.rq.fst=q6.rq.fst)/\ (((tkR q0 x').fst.dq.fst=q6.dq.fst)/\ True)))))))))))))))))|false=>False)|false=>False)|false=>False)|false=>False)|false=>False)|false=>(match (slOk q16 none none (↑(tkR q0 x2).fst.nt.length:Int)) with|true=>((∃x3:Nat,let q2:=(filN (tickL q0) (trimG (tick1 q0).fst) x3);((x3.le (tickL q0).length)/\ ((True/\ (True/\ (True/\ (True/\ (q26/\ (((↑x3:Int)=(0:Int))/\ True))))))/\ ((((q2.m=(tkR q0 x2).fst.m)/\ ((q2.now=IntKind.i64.wrap ((tkR q0 x2).fst.now+(1:Int)))/\ True))/\ ((q2.ts=(tkR q0 x2).fst.ts)/\ ((True/\ q5)/\ True)))/\ (q5/\ ((True/\ True)/\ ((q2.rq.snd=(tkR q0 x2).fst.rq.snd)/\ (q5/\ ((q2.dq.snd=(tkR q0 x2).fst.dq.snd)/\ (q4/\ (q15/\ (((tkR q0 x2).snd=(tkR q0 x2).snd)/\ ((q2.ev=(tkR q0 x2).fst.ev)/\ ((q2.nt=cutL q16 none (tkR q0 x2).fst.nt)/\ ((q2.rq.fst=(tkR q0 x2).fst.rq.fst)/\ ((q2.dq.fst=(tkR q0 x2).fst.dq.fst)/\ True))))))))))))))))/\ (∀x3:Nat,let q2:=(filN (tickL q0) (trimG (tick1 q0).fst) x3);let q7:=(at' runE.zero (tkR q0 x2).snd (↑x3:Int));let q28:=(calendarNumber q7.ID (0:Int));((x3.le (tickL q0).length)->(match (decide ((↑x3:Int)<(↑(tkR q0 x2).snd.length:Int))) with|true=>(match (inb (↑x3:Int) (tkR q0 x2).snd.length) with|true=>(match (inb (↑x3:Int) (tkR q0 x2).snd.length) with|true=>(match (decide ((0:Int)<=q7.ID/\ q7.ID<(64:Int)/\ q2.ts.length=(64:Nat)/\ q2.rq.fst.length<=(999:Nat)/\ q2.dq.fst.length<=(999:Nat)/\ (ethereB q7.ID q2.rq.snd=true->(0:Int)<=ewhereI q7.ID q2.rq.snd/\ ewhereI q7.ID q2.rq.snd<(↑q2.rq.fst.length:Int))/\ (vthereB q28 q2.dq.snd=true->(0:Int)<=vwhereI q28 q2.dq.snd/\ vwhereI q28 q2.dq.snd<(↑q2.dq.fst.length:Int)))) with|true=>(∃x':Nat,let q9:=(filN (tickL q0) (trimG (tick1 q0).fst) x');((x'.le (tickL q0).length)/\ (((tickL q0).length-x'<(tickL q0).length-x3)/\ ((True/\ (True/\ (True/\ (True/\ (q26/\ (((↑x':Int)=IntKind.i64.wrap ((↑x3:Int)+(1:Int)))/\ True))))))/\ ((((q9.m=(filesG q2 q7.ID).m)/\ ((q9.now=(filesG q2 q7.ID).now)/\ True))/\ ((q9.ts=(filesG q2 q7.ID).ts)/\ ((True/\ q5)/\ True)))/\ (q5/\ ((True/\ True)/\ ((q9.rq.snd=(filesG q2 q7.ID).rq.snd)/\ (q5/\ ((q9.dq.snd=(filesG q2 q7.ID).dq.snd)/\ (q4/\ (q15/\ (((tkR q0 x2).snd=(tkR q0 x2).snd)/\ ((q9.ev=(filesG q2 q7.ID).ev)/\ ((q9.nt=(filesG q2 q7.ID).nt)/\ ((q9.rq.fst=(filesG q2 q7.ID).rq.fst)/\ ((q9.dq.fst=(filesG q2 q7.ID).dq.fst)/\ True)))))))))))))))))|false=>False)|false=>False)|false=>False)|false=>(match (decide (SettleP q2)) with|true=>(match (decide (now<(1099511627776:Int))) with|true=>(((q15/\ (((0:Int)=(0:Int))/\ True))/\ True)/\ (((((tickG q0).m=(settlesG q2).m)/\ (((tickG q0).now=(settlesG q2).now)/\ True))/\ (((tickG q0).ts=(settlesG q2).ts)/\ ((True/\ q5)/\ True)))/\ (q5/\ ((True/\ True)/\ (((tickG q0).rq.snd=(settlesG q2).rq.snd)/\ (q5/\ (((tickG q0).dq.snd=(settlesG q2).dq.snd)/\ (((tickG q0).ev=(settlesG q2).ev)/\ (((tickG q0).nt=(settlesG q2).nt)/\ (((tickG q0).rq.fst=(settlesG q2).rq.fst)/\ (((tickG q0).dq.fst=(settlesG q2).dq.fst)/\ ((tickL q0=(tkR q0 x2).snd)/\ True))))))))))))|false=>((((((0:Int)=now)/\ (False/\ True))/\ (((20:Int)=(0:Int))/\ True))/\ True)/\ ((((m=(settlesG q2).m)/\ ((now=(settlesG q2).now)/\ True))/\ ((ts=(settlesG q2).ts)/\ ((True/\ (True/\ (False/\ (False/\ True))))/\ True)))/\ ((True/\ (False/\ (True/\ True)))/\ ((True/\ True)/\ (False/\ (False/\ (False/\ ((RM=(settlesG q2).rq.snd)/\ ((True/\ (False/\ (True/\ True)))/\ (False/\ ((DM=(settlesG q2).dq.snd)/\ True))))))))))))|false=>False)))))|false=>False)))))|false=>False);let q23:=(inb (↑x1:Int) q3.fst.length);let q25:=(x1.le (pickL q0).length);(q25->(match (decide ((↑x1:Int)<(↑q3.fst.length:Int))) with|true=>(match q23 with|true=>(match q23 with|true=>(match (inb (↑x1:Int) (asgP q10).length) with|true=>(match (inb (↑x1:Int) (asgP q10).length) with|true=>(match (roomy (q8.length+(1:Nat)) (nat_lit 24)) with|true=>(∃x':Nat,((x'.le (pickL q0).length)/\ (((pickL q0).length-x'<(pickL q0).length-x1)/\ ((True/\ (True/\ (True/\ (True/\ (True/\ (q14/\ (((↑x':Int)=IntKind.i64.wrap ((↑x1:Int)+(1:Int)))/\ True)))))))/\ (q11/\ (q5/\ ((True/\ True)/\ (q21/\ (q5/\ (q18/\ (q4/\ ((ev=ev)/\ ((nt=nt)/\ (q22/\ (q19/\ ((q3.fst=q3.fst)/\ ((asgP q10=asgP q10)/\ (q15/\ ((runs0 (pickL q0) q20 x'=runs0 (pickL q0) q20 x1++[Run.mk (at' entryE.zero q3.fst (↑x1:Int)).ID (at' (0:Int) (asgP q10) (↑x1:Int)) (0:Int)])/\ True)))))))))))))))))))|false=>False)|false=>False)|false=>False)|false=>False)|false=>False)|false=>q1))))|false=>((∃x1:Nat,let q25:=(x1.le (pickL q0).length);let q29:=(True/\ (True/\ (q14/\ (((↑x1:Int)=(0:Int))/\ True))));(q25/\ ((True/\ (True/\ (q24/\ q29)))/\ (q11/\ (q5/\ ((True/\ True)/\ (q21/\ (q5/\ (q18/\ (q4/\ ((ev=ev)/\ ((nt=nt)/\ (q22/\ (q19/\ ((q3.fst=q3.fst)/\ (q15/\ ((runs0 (pickL q0) q20 x1=[])/\ True)))))))))))))))))/\ (∀x1:Nat,let q8:=(runs0 (pickL q0) q20 x1);let q30:=((↑(srtRun q8).length:Int)=(↑(srtRun q8).length:Int));let q1:=(match (decide (q8.length<=(12:Nat))) with|true=>((∃x2:Nat,((x2.le (tick0 q0).length)/\ ((True/\ (True/\ (True/\ (True/\ (q30/\ (((↑x2:Int)=(0:Int))/\ True))))))/\ (((((tkR q0 x2).fst.m=m)/\ (((tkR q0 x2).fst.now=now)/\ True))/\ (((tkR q0 x2).fst.ts=ts)/\ ((True/\ q5)/\ True)))/\ (q5/\ ((True/\ True)/\ (((tkR q0 x2).fst.rq.snd=q3.snd.snd)/\ (q5/\ (((tkR q0 x2).fst.dq.snd=(DL,DM).snd)/\ (q4/\ (q15/\ (((tkR q0 x2).snd=srtRun q8)/\ (((tkR q0 x2).fst.ev=ev)/\ (((tkR q0 x2).fst.nt=nt)/\ (((tkR q0 x2).fst.rq.fst=q3.snd.fst)/\ (((tkR q0 x2).fst.dq.fst=(DL,DM).fst)/\ True))))))))))))))))/\ (∀x2:Nat,let q13:=(at' runE.zero (tkR q0 x2).snd (↑x2:Int));let q6:=(runsG (tkR q0 x2).fst q13.ID q13.Core);let q16:=(some (if (0:Int)>IntKind.i64.wrap ((↑(tkR q0 x2).fst.nt.length:Int)-(4096:Int)) then (0:Int) else IntKind.i64.wrap ((↑(tkR q0 x2).fst.nt.length:Int)-(4096:Int))));let q17:=(inb (↑x2:Int) (tkR q0 x2).snd.length);let q26:=((↑(tkR q0 x2).snd.length:Int)=(↑(tkR q0 x2).snd.length:Int));((x2.le (tick0 q0).length)->(match (decide ((↑x2:Int)<(↑(srtRun q8).length:Int))) with|true=>(match q17 with|true=>(match q17 with|true=>(match (decide (RunsP (tkR q0 x2).fst q13.ID)) with|true=>(match q17 with|true=>(match q17 with|true=>(∃x':Nat,((x'.le (tick0 q0).length)/\ (((tick0 q0).length-x'<(tick0 q0).length-x2)/\ ((True/\ (True/\ (True/\ (True/\ (q30/\ (((↑x':Int)=IntKind.i64.wrap ((↑x2:Int)+(1:Int)))/\ True))))))/\ (((((tkR q0 x').fst.m=q6.m)/\ (((tkR q0 x').fst.now=q6.now)/\ True))/\ (((tkR q0 x').fst.ts=q6.ts)/\ ((True/\ q5)/\ True)))/\ (q5/\ ((True/\ True)/\ (((tkR q0 x').fst.rq.snd=q6.rq.snd)/\ (q5/\ (((tkR q0 x').fst.dq.snd=q6.dq.snd)/\ (q4/\ (q15/\ (((tkR q0 x').snd=(tkR q0 x2).snd.set (↑x2:Int).toNat (Run.mk q13.ID q13.Core (headT (rnAt (tkR q0 x2).fst.ts q13.ID).t.waits).Index))/\ (((tkR q0 x').fst.ev=q6.ev)/\ (((tkR q0 x').fst.nt=q6.nt)/\ (((tkR q0 x').fst.rq.fst=q6.rq.fst)/\ (((tkR q0 x').fst.dq.fst=q6.dq.fst)/\ True)))))))))))))))))|false=>False)|false=>False)|false=>False)|false=>False)|false=>False)|false=>(match (slOk q16 none none (↑(tkR q0 x2).fst.nt.length:Int)) with|true=>((∃x3:Nat,let q2:=(filN (tickL q0) (trimG (tick1 q0).fst) x3);((x3.le (tickL q0).length)/\ ((True/\ (True/\ (True/\ (True/\ (q26/\ (((↑x3:Int)=(0:Int))/\ True))))))/\ ((((q2.m=(tkR q0 x2).fst.m)/\ ((q2.now=IntKind.i64.wrap ((tkR q0 x2).fst.now+(1:Int)))/\ True))/\ ((q2.ts=(tkR q0 x2).fst.ts)/\ ((True/\ q5)/\ True)))/\ (q5/\ ((True/\ True)/\ ((q2.rq.snd=(tkR q0 x2).fst.rq.snd)/\ (q5/\ ((q2.dq.snd=(tkR q0 x2).fst.dq.snd)/\ (q4/\ (q15/\ (((tkR q0 x2).snd=(tkR q0 x2).snd)/\ ((q2.ev=(tkR q0 x2).fst.ev)/\ ((q2.nt=cutL q16 none (tkR q0 x2).fst.nt)/\ ((q2.rq.fst=(tkR q0 x2).fst.rq.fst)/\ ((q2.dq.fst=(tkR q0 x2).fst.dq.fst)/\ True))))))))))))))))/\ (∀x3:Nat,let q2:=(filN (tickL q0) (trimG (tick1 q0).fst) x3);let q7:=(at' runE.zero (tkR q0 x2).snd (↑x3:Int));let q28:=(calendarNumber q7.ID (0:Int));((x3.le (tickL q0).length)->(match (decide ((↑x3:Int)<(↑(tkR q0 x2).snd.length:Int))) with|true=>(match (inb (↑x3:Int) (tkR q0 x2).snd.length) with|true=>(match (inb (↑x3:Int) (tkR q0 x2).snd.length) with|true=>(match (decide ((0:Int)<=q7.ID/\ q7.ID<(64:Int)/\ q2.ts.length=(64:Nat)/\ q2.rq.fst.length<=(999:Nat)/\ q2.dq.fst.length<=(999:Nat)/\ (ethereB q7.ID q2.rq.snd=true->(0:Int)<=ewhereI q7.ID q2.rq.snd/\ ewhereI q7.ID q2.rq.snd<(↑q2.rq.fst.length:Int))/\ (vthereB q28 q2.dq.snd=true->(0:Int)<=vwhereI q28 q2.dq.snd/\ vwhereI q28 q2.dq.snd<(↑q2.dq.fst.length:Int)))) with|true=>(∃x':Nat,let q9:=(filN (tickL q0) (trimG (tick1 q0).fst) x');((x'.le (tickL q0).length)/\ (((tickL q0).length-x'<(tickL q0).length-x3)/\ ((True/\ (True/\ (True/\ (True/\ (q26/\ (((↑x':Int)=IntKind.i64.wrap ((↑x3:Int)+(1:Int)))/\ True))))))/\ ((((q9.m=(filesG q2 q7.ID).m)/\ ((q9.now=(filesG q2 q7.ID).now)/\ True))/\ ((q9.ts=(filesG q2 q7.ID).ts)/\ ((True/\ q5)/\ True)))/\ (q5/\ ((True/\ True)/\ ((q9.rq.snd=(filesG q2 q7.ID).rq.snd)/\ (q5/\ ((q9.dq.snd=(filesG q2 q7.ID).dq.snd)/\ (q4/\ (q15/\ (((tkR q0 x2).snd=(tkR q0 x2).snd)/\ ((q9.ev=(filesG q2 q7.ID).ev)/\ ((q9.nt=(filesG q2 q7.ID).nt)/\ ((q9.rq.fst=(filesG q2 q7.ID).rq.fst)/\ ((q9.dq.fst=(filesG q2 q7.ID).dq.fst)/\ True)))))))))))))))))|false=>False)|false=>False)|false=>False)|false=>(match (decide (SettleP q2)) with|true=>(match (decide (now<(1099511627776:Int))) with|true=>(((q15/\ (((0:Int)=(0:Int))/\ True))/\ True)/\ (((((tickG q0).m=(settlesG q2).m)/\ (((tickG q0).now=(settlesG q2).now)/\ True))/\ (((tickG q0).ts=(settlesG q2).ts)/\ ((True/\ q5)/\ True)))/\ (q5/\ ((True/\ True)/\ (((tickG q0).rq.snd=(settlesG q2).rq.snd)/\ (q5/\ (((tickG q0).dq.snd=(settlesG q2).dq.snd)/\ (((tickG q0).ev=(settlesG q2).ev)/\ (((tickG q0).nt=(settlesG q2).nt)/\ (((tickG q0).rq.fst=(settlesG q2).rq.fst)/\ (((tickG q0).dq.fst=(settlesG q2).dq.fst)/\ ((tickL q0=(tkR q0 x2).snd)/\ True))))))))))))|false=>((((((0:Int)=now)/\ (False/\ True))/\ (((20:Int)=(0:Int))/\ True))/\ True)/\ ((((m=(settlesG q2).m)/\ ((now=(settlesG q2).now)/\ True))/\ ((ts=(settlesG q2).ts)/\ ((True/\ (True/\ (False/\ (False/\ True))))/\ True)))/\ ((True/\ (False/\ (True/\ True)))/\ ((True/\ True)/\ (False/\ (False/\ (False/\ ((RM=(settlesG q2).rq.snd)/\ ((True/\ (False/\ (True/\ True)))/\ (False/\ ((DM=(settlesG q2).dq.snd)/\ True))))))))))))|false=>False)))))|false=>False)))))|false=>False);let q23:=(inb (↑x1:Int) q3.fst.length);let q25:=(x1.le (pickL q0).length);(q25->(match (decide ((↑x1:Int)<(↑q3.fst.length:Int))) with|true=>(match q23 with|true=>(match q23 with|true=>False|false=>False)|false=>False)|false=>q1)))))|false=>False)))))|false=>False))
theorem tickCK1Vc (m now:Int) (ts:List (Option Rnr)) (RL:List EThing) (RM:List (Int×Int)) (DL:List VThing) (DM:List (Int×Int)) (ev:List Ev) (nt:List Note):fnX X51 ((tickCK1A m now ts RL RM DL DM ev nt)) Tryz.f16 [.ptr 0 0] (cs3 m now ts RL RM DL DM ev nt) (endsIf (decide (now<1099511627776)) (cs3 m now ts RL RM DL DM ev nt) (tickCK1E0 m now ts RL RM DL DM ev nt) (tickCK1E1 m now ts RL RM DL DM ev nt))=tickCK1Text m now ts RL RM DL DM ev nt:=by kernel_rfl
set_option maxHeartbeats 20000000 in
theorem tickCK1Holds (m now:Int) (ts:List (Option Rnr)) (RL:List EThing) (RM:List (Int×Int)) (DL:List VThing) (DM:List (Int×Int)) (ev:List Ev) (nt:List Note) (hp:now<1099511627776->TickP ⟨m,now,ts,(RL,RM),(DL,DM),ev,nt⟩):tickCK1Text m now ts RL RM DL DM ev nt:=by
 unfold tickCK1Text
 conv=>zeta
 by_cases hn:now<1099511627776
 case neg=>
  refine mD (show now>=1099511627776 by omega) (mN hn ?_)
  repeat' first|exact True.intro|with_reducible rfl|apply And.intro|exact rfl
 obtain ⟨t1,t2,t3,t4,t5,t6,t7,t8,t9,t10,t11,t12,t13⟩:=hp hn
 refine mN (show ¬now>=1099511627776 by omega) (mD ⟨t1,t2,t3⟩ ?_)
 have ePk:(pk (pkN (⟨m,now,ts,(RL,RM),(DL,DM),ev,nt⟩:EG)) (RL,RM)).fst=pickL (⟨m,now,ts,(RL,RM),(DL,DM),ev,nt⟩:EG):=rfl
 have eT:tickG (⟨m,now,ts,(RL,RM),(DL,DM),ev,nt⟩:EG)=settlesG (filN (tickL (⟨m,now,ts,(RL,RM),(DL,DM),ev,nt⟩:EG)) (trimG (tick1 (⟨m,now,ts,(RL,RM),(DL,DM),ev,nt⟩:EG)).1) (tickL (⟨m,now,ts,(RL,RM),(DL,DM),ev,nt⟩:EG)).length):=rfl
 have eK: ∀n,tkR (⟨m,now,ts,(RL,RM),(DL,DM),ev,nt⟩:EG) (n+1)=(runsG (tkR (⟨m,now,ts,(RL,RM),(DL,DM),ev,nt⟩:EG) n).1 (at' zRun (tkR (⟨m,now,ts,(RL,RM),(DL,DM),ev,nt⟩:EG) n).2 (n:Int)).ID (at' zRun (tkR (⟨m,now,ts,(RL,RM),(DL,DM),ev,nt⟩:EG) n).2 (n:Int)).Core,(tkR (⟨m,now,ts,(RL,RM),(DL,DM),ev,nt⟩:EG) n).2.set n ⟨(at' zRun (tkR (⟨m,now,ts,(RL,RM),(DL,DM),ev,nt⟩:EG) n).2 (n:Int)).ID,(at' zRun (tkR (⟨m,now,ts,(RL,RM),(DL,DM),ev,nt⟩:EG) n).2 (n:Int)).Core,(headT (rnAt (tkR (⟨m,now,ts,(RL,RM),(DL,DM),ev,nt⟩:EG) n).1.ts (at' zRun (tkR (⟨m,now,ts,(RL,RM),(DL,DM),ev,nt⟩:EG) n).2 (n:Int)).ID).t.waits).Index⟩):=fun n=>rfl
 have e0:srtRun (runs0 (pickL (⟨m,now,ts,(RL,RM),(DL,DM),ev,nt⟩:EG)) (asgP (rnrsOf ts (pickL (⟨m,now,ts,(RL,RM),(DL,DM),ev,nt⟩:EG)))) (pickL (⟨m,now,ts,(RL,RM),(DL,DM),ev,nt⟩:EG)).length)=tick0 (⟨m,now,ts,(RL,RM),(DL,DM),ev,nt⟩:EG):=rfl
 have e1:tkR (⟨m,now,ts,(RL,RM),(DL,DM),ev,nt⟩:EG) (tick0 (⟨m,now,ts,(RL,RM),(DL,DM),ev,nt⟩:EG)).length=tick1 (⟨m,now,ts,(RL,RM),(DL,DM),ev,nt⟩:EG):=rfl
 have eL:(tick1 (⟨m,now,ts,(RL,RM),(DL,DM),ev,nt⟩:EG)).2=tickL (⟨m,now,ts,(RL,RM),(DL,DM),ev,nt⟩:EG):=rfl
 have hl2:=tkR_len (⟨m,now,ts,(RL,RM),(DL,DM),ev,nt⟩:EG)
 have hlt:(tickL (⟨m,now,ts,(RL,RM),(DL,DM),ev,nt⟩:EG)).length=(tick0 (⟨m,now,ts,(RL,RM),(DL,DM),ev,nt⟩:EG)).length:=hl2 _
 have eP: ∀n,runs0 (pickL (⟨m,now,ts,(RL,RM),(DL,DM),ev,nt⟩:EG)) (asgP (rnrsOf ts (pickL (⟨m,now,ts,(RL,RM),(DL,DM),ev,nt⟩:EG)))) (n+1)=runs0 (pickL (⟨m,now,ts,(RL,RM),(DL,DM),ev,nt⟩:EG)) (asgP (rnrsOf ts (pickL (⟨m,now,ts,(RL,RM),(DL,DM),ev,nt⟩:EG)))) n++[⟨(at' zEnt (pickL (⟨m,now,ts,(RL,RM),(DL,DM),ev,nt⟩:EG)) (n:Int)).ID,at' (0:Int) (asgP (rnrsOf ts (pickL (⟨m,now,ts,(RL,RM),(DL,DM),ev,nt⟩:EG)))) (n:Int),0⟩]:=fun n=>rfl
 have eF: ∀b n,filN (tickL (⟨m,now,ts,(RL,RM),(DL,DM),ev,nt⟩:EG)) b (n+1)=filesG (filN (tickL (⟨m,now,ts,(RL,RM),(DL,DM),ev,nt⟩:EG)) b n) (at' zRun (tickL (⟨m,now,ts,(RL,RM),(DL,DM),ev,nt⟩:EG)) (n:Int)).ID:=fun b n=>rfl
 have eF0: ∀b,filN (tickL (⟨m,now,ts,(RL,RM),(DL,DM),ev,nt⟩:EG)) b 0=b:=fun b=>rfl
 have eZ:tkR (⟨m,now,ts,(RL,RM),(DL,DM),ev,nt⟩:EG) 0=(pickG (⟨m,now,ts,(RL,RM),(DL,DM),ev,nt⟩:EG),tick0 (⟨m,now,ts,(RL,RM),(DL,DM),ev,nt⟩:EG)):=rfl
 have eG:(pickG (⟨m,now,ts,(RL,RM),(DL,DM),ev,nt⟩:EG)).m=m/\ (pickG (⟨m,now,ts,(RL,RM),(DL,DM),ev,nt⟩:EG)).now=now/\ (pickG (⟨m,now,ts,(RL,RM),(DL,DM),ev,nt⟩:EG)).ts=ts/\ (pickG (⟨m,now,ts,(RL,RM),(DL,DM),ev,nt⟩:EG)).rq=(pk (pkN (⟨m,now,ts,(RL,RM),(DL,DM),ev,nt⟩:EG)) (RL,RM)).2/\ (pickG (⟨m,now,ts,(RL,RM),(DL,DM),ev,nt⟩:EG)).dq=(DL,DM)/\ (pickG (⟨m,now,ts,(RL,RM),(DL,DM),ev,nt⟩:EG)).ev=ev/\ (pickG (⟨m,now,ts,(RL,RM),(DL,DM),ev,nt⟩:EG)).nt=nt:=⟨rfl,rfl,rfl,rfl,rfl,rfl,rfl⟩
 have t8:(asgP (rnrsOf ts (pickL (⟨m,now,ts,(RL,RM),(DL,DM),ev,nt⟩:EG)))).length=(pickL (⟨m,now,ts,(RL,RM),(DL,DM),ev,nt⟩:EG)).length:=t8
 have t7:chkA (rnrsOf ts (pickL (⟨m,now,ts,(RL,RM),(DL,DM),ev,nt⟩:EG))) m=true:=t7
 have t6: ∀x:Nat,x<(pickL (⟨m,now,ts,(RL,RM),(DL,DM),ev,nt⟩:EG)).length->idOk (at' zEnt (pickL (⟨m,now,ts,(RL,RM),(DL,DM),ev,nt⟩:EG)) (x:Int)).ID=true/\ (atO ts (at' zEnt (pickL (⟨m,now,ts,(RL,RM),(DL,DM),ev,nt⟩:EG)) (x:Int)).ID).isSome=true:=t6
 have t13:SettleP (filN (tickL (⟨m,now,ts,(RL,RM),(DL,DM),ev,nt⟩:EG)) (trimG (tick1 (⟨m,now,ts,(RL,RM),(DL,DM),ev,nt⟩:EG)).1) (tickL (⟨m,now,ts,(RL,RM),(DL,DM),ev,nt⟩:EG)).length):=t13
 rw [ePk,eT]
 generalize pickG (⟨m,now,ts,(RL,RM),(DL,DM),ev,nt⟩:EG)=PG at*
 generalize tick1 (⟨m,now,ts,(RL,RM),(DL,DM),ev,nt⟩:EG)=q1 at*
 generalize tick0 (⟨m,now,ts,(RL,RM),(DL,DM),ev,nt⟩:EG)=T0 at*
 generalize tickL (⟨m,now,ts,(RL,RM),(DL,DM),ev,nt⟩:EG)=TL at*
 generalize tkR (⟨m,now,ts,(RL,RM),(DL,DM),ev,nt⟩:EG)=TK at*
 generalize pickL (⟨m,now,ts,(RL,RM),(DL,DM),ev,nt⟩:EG)=PL at*
 obtain ⟨g1,g2,g3,g4,g5,g6,g7⟩:=eG
 refine ⟨⟨0,Nat.zero_le _,by repeat' first|exact True.intro|with_reducible rfl|apply And.intro|exact rfl⟩, ?_⟩
 intro x hx
 have hx:x<=PL.length:=hx
 by_cases h:x<PL.length
 ·obtain ⟨p1,p2⟩:=t6 x h
  have hi:=idOk_inb p1
  have hset:ts.set (at' zEnt PL (x:Int)).ID.toNat (some ((atO ts (at' zEnt PL (x:Int)).ID).getD rnrL.zero))=ts:=set_rnAt p2
  have hw:((x+1:Nat):Int)=IntKind.i64.wrap ((x:Int)+1):=by rw [wrap_id (by omega) (by omega)];rfl
  have hl:(rnrsOf ts (PL.take x)).length=x:=by unfold rnrsOf;rw [List.length_map,List.length_take];omega
  have ht:rnrsOf ts (PL.take (x+1))=rnrsOf ts (PL.take x)++[rnrOf ts (at' zEnt PL (x:Int))]:=by
   unfold rnrsOf
   rw [take_at h,List.map_append,at_nat h]
   rfl
  refine mD (show (x:Int)<(PL.length:Int) by omega) (mT (inb_nat h) (mT (inb_nat h) (mT hi (mT hi (mT p2 (mT (show roomy ((rnrsOf ts (PL.take x)).length+1) 24=true by rw [hl];unfold roomy;simp;omega) ⟨x+1,h,by omega, ?_⟩))))))
  repeat' first|exact hw|exact True.intro|with_reducible rfl|apply And.intro|exact hset.symm|exact ht|exact rfl
 obtain rfl:x=PL.length:=by omega
 have hl:(rnrsOf ts PL).length=PL.length:=by unfold rnrsOf;rw [List.length_map]
 rw [List.take_length]
 refine mN (show ¬((PL.length:Int)<(PL.length:Int)) by omega) (mD (show (rnrsOf ts PL).length<=140737488355328 by omega) (mT t7 ?_))
 refine ⟨⟨0,Nat.zero_le _,by repeat' first|exact True.intro|with_reducible rfl|apply And.intro|exact rfl⟩, ?_⟩
 intro x1 hx1
 have hx1:x1<=PL.length:=hx1
 by_cases h1:x1<PL.length
 ·have hw:((x1+1:Nat):Int)=IntKind.i64.wrap ((x1:Int)+1):=by rw [wrap_id (by omega) (by omega)];rfl
  have hb:inb (x1:Int) (asgP (rnrsOf ts PL)).length=true:=by rw [t8];exact inb_nat h1
  refine mD (show (x1:Int)<(PL.length:Int) by omega) (mT (inb_nat h1) (mT (inb_nat h1) (mT hb (mT hb (mT (show roomy ((runs0 PL (asgP (rnrsOf ts PL)) x1).length+1) 24=true by rw [runs0_len];unfold roomy;simp;omega) ⟨x1+1,h1,by omega, ?_⟩)))))
  rw [eP]
  repeat' first|exact hw|exact True.intro|with_reducible rfl|apply And.intro|exact rfl
 obtain rfl:x1=PL.length:=by omega
 refine mN (show ¬((PL.length:Int)<(PL.length:Int)) by omega) (mD (show (runs0 PL (asgP (rnrsOf ts PL)) PL.length).length<=12 by rw [runs0_len];exact t5) ?_)
 rw [e0]
 refine ⟨⟨0,Nat.zero_le _,by
  rw [eZ]
  dsimp only
  rw [g1,g2,g3,g4,g5,g6,g7]
  repeat' first|exact True.intro|with_reducible rfl|apply And.intro|exact rfl⟩, ?_⟩
 intro x2 hx2
 have hx2:x2<=T0.length:=hx2
 have hl2:=hl2 x2
 by_cases h2:x2<T0.length
 ·have hw:((x2+1:Nat):Int)=IntKind.i64.wrap ((x2:Int)+1):=by rw [wrap_id (by omega) (by omega)];rfl
  have hb:inb (x2:Int) (TK x2).2.length=true:=by rw [hl2];exact inb_nat h2
  refine mD (show (x2:Int)<(T0.length:Int) by omega) (mT hb (mT hb (mD (t10 x2 h2) (mT hb (mT hb ⟨x2+1,h2,by omega, ?_⟩)))))
  rw [eK]
  repeat' first|exact hw|exact True.intro|with_reducible rfl|apply And.intro|exact rfl
 obtain rfl:x2=T0.length:=by omega
 rw [e1,eL]
 obtain ⟨c1,c2⟩:=trim_cut t11
 rw [c2]
 obtain ⟨z1,z2,z3,z4,z5,z6,z7⟩:=trimG_eq q1.1
 refine mN (show ¬((T0.length:Int)<(T0.length:Int)) by omega) (mT c1 ?_)
 refine ⟨⟨0,Nat.zero_le _,by
  rw [eF0,z1,z2,z3,z4,z5,z6,z7]
  repeat' first|exact True.intro|with_reducible rfl|apply And.intro|exact rfl⟩, ?_⟩
 intro x3 hx3
 have hx3:x3<=TL.length:=hx3
 by_cases h3:x3<TL.length
 ·have hw:((x3+1:Nat):Int)=IntKind.i64.wrap ((x3:Int)+1):=by rw [wrap_id (by omega) (by omega)];rfl
  refine mD (show (x3:Int)<(TL.length:Int) by omega) (mT (inb_nat h3) (mT (inb_nat h3) (mD (t12 x3 h3) ⟨x3+1,h3,by omega, ?_⟩)))
  rw [eF]
  generalize filesG (filN TL (trimG q1.1) x3) (at' zRun TL (x3:Int)).ID=Z
  repeat' first|exact hw|exact True.intro|with_reducible rfl|apply And.intro|exact rfl
 obtain rfl:x3=TL.length:=by omega
 refine mN (show ¬((TL.length:Int)<(TL.length:Int)) by omega) (mD t13 (mD hn ?_))
 generalize settlesG (filN TL (trimG q1.1) TL.length)=Z
 repeat' first|exact True.intro|with_reducible rfl|apply And.intro|exact rfl
set_option maxHeartbeats 4000000 in
noncomputable def tickCCon:Con T O:=fun args cs=>match args,cs with
 |[.raw (.pointer none)],[]=> .ret ⟨some (.tup [.agg [.raw (.int .i64 0), .raw (.slice none 0 0)], .raw (.int .i64 1)]),[]⟩
 |[.ptr 0 0],[.tab [.raw (.int .i64 m), .raw (.int .i64 now)] 0 64 (ts) none [.ptr 1 0, .ptr 2 0, .own 3, .own 4] 105, .cells [.fn 40 [], .own 5, .own 6] 146, .cells [.ptr 7 0] 156, .vec 4 ev 151, .que 7 nt 84, .vec 5 RL 200, .map 0 RM, .cells [.fn 83 [], .own 8, .own 9] 198, .vec 6 DL 242, .map 0 DM]=>chk (decide (now<1099511627776->TickP ⟨m,now,ts,(RL,RM),(DL,DM),ev,nt⟩)) (.ite (decide (now<1099511627776)) (.ret (tickCK1E0 m now ts RL RM DL DM ev nt)) (.ret (tickCK1E1 m now ts RL RM DL DM ev nt)))
 |_,_=> .fail
theorem tickCOk:ConOk R Tryz.prog 16 tickCCon:=con_of_fn R (X51) (good (X51) rfl (TabOk.con R X51Ok)) mixed Tryz.call16 Tryz.func16 tickCCon (by
 intro args cs K h
 unfold tickCCon at h
 split at h
 ·
  refine ⟨noAnn,_,fun v S hv=>⟨_,h,hv⟩, ?_⟩
  rw [tickCK0Vc]
  exact tickCK0Holds
 ·rename_i m now ts ev nt RL RM DL DM
  rw [Tree.holds_chk] at h
  obtain ⟨hp,h⟩:=h
  refine ⟨(tickCK1A m now ts RL RM DL DM ev nt),_,fun v S hv=>holds_if h v S hv, ?_⟩
  have hv:=tickCK1Vc m now ts RL RM DL DM ev nt
  unfold cs3 at hv
  rw [hv]
  exact tickCK1Holds m now ts RL RM DL DM ev nt (of_decide_eq_true hp)
 ·exact h.elim)
noncomputable def tab52:Tab T O:=(16,tickCCon)::tab51
theorem tabOk52:TabOk R Tryz.prog tab52:=TabOk.cons R tickCOk<|tabOk51
end Go.Proofs.YtlfjbnflfdnoaaaGreat
namespace Go.Proofs.YtlfjbnflfdnoaaaGreat
open Go.Sx Go.Proofs Classical
theorem lt6_asymm {a b:Entry} (h:lt6 a b): ¬lt6 b a:=by unfold lt6 at*;omega
theorem lt6_total {a b:Entry} (h:a.ID≠b.ID):lt6 a b \/lt6 b a:=by unfold lt6 at*;omega
theorem lt6_neg {a b c:Entry} (h: ¬lt6 b a) (h': ¬lt6 c b): ¬lt6 c a:=by unfold lt6 at*;omega
def insE (x:Entry):List Entry->List Entry
 |[]=>[x]
 |y::l=>bif prioLess x y then x::y::l else y::insE x l
def srtE (L:List Entry):List Entry:=L.foldl (fun acc x=>insE x acc) []
theorem insE_length (x:Entry): ∀l:List Entry,(insE x l).length=l.length+1
 |[]=>rfl
 |y::l=>by
  simp only [insE]
  cases prioLess x y
  ·simp [insE_length x l]
  ·simp
theorem srtE_length (L:List Entry):(srtE L).length=L.length:=by
 have: ∀(L acc:List Entry),(L.foldl (fun acc x=>insE x acc) acc).length=acc.length+L.length:=by
  intro L
  induction L with
  |nil=>intro acc;simp
  |cons a L ih=>intro acc;simp only [List.foldl_cons,ih,insE_length,List.length_cons];omega
 simpa [srtE] using this L []
def SortedE (l:List Entry):Prop:=l.Pairwise (fun a b=> ¬lt6 b a)
theorem insE_sorted {x:Entry}: ∀ {l:List Entry},SortedE l->SortedE (insE x l)
 |[],_=>by simp [insE,SortedE]
 |y::l,h=>by
  obtain ⟨h1,h2⟩:=List.pairwise_cons.1 h
  simp only [insE]
  cases hp:prioLess x y
  ·rw [cond_false]
   have hxy: ¬lt6 x y:=fun e=>by rw [(less_iff0 x y).2 e] at hp;cases hp
   refine List.pairwise_cons.2 ⟨?_,insE_sorted h2⟩
   have mem: ∀(l:List Entry) b,b∈insE x l->b=x \/b∈l:=by
    intro l
    induction l with
    |nil=>intro b hb;simpa [insE] using hb
    |cons z l ih=>
     intro b hb
     simp only [insE] at hb
     cases hz:prioLess x z
     ·rw [hz,cond_false] at hb
      rcases List.mem_cons.1 hb with rfl|hb
      ·simp
      ·rcases ih b hb with e|e
       ·exact .inl e
       ·exact .inr (List.mem_cons_of_mem _ e)
     ·rw [hz,cond_true] at hb
      simpa using hb
   intro b hb
   rcases mem l b hb with rfl|hb
   ·exact hxy
   ·exact h1 b hb
  ·rw [cond_true]
   have hxy:lt6 x y:=(less_iff0 x y).1 hp
   refine List.pairwise_cons.2 ⟨?_,h⟩
   intro b hb
   rcases List.mem_cons.1 hb with rfl|hb
   ·exact lt6_asymm hxy
   ·exact lt6_neg (lt6_asymm hxy) (h1 b hb)
theorem srtE_sorted (L:List Entry):SortedE (srtE L):=by
 have: ∀(L acc:List Entry),SortedE acc->SortedE (L.foldl (fun acc x=>insE x acc) acc):=by
  intro L
  induction L with
  |nil=>intro acc h;exact h
  |cons a L ih=>intro acc h;exact ih _ (insE_sorted h)
 exact this L [] List.Pairwise.nil
noncomputable def tab53:Tab T O:=tab52
theorem tabOk53:TabOk R Tryz.prog tab53:=tabOk52
end Go.Proofs.YtlfjbnflfdnoaaaGreat
namespace Go.Proofs.YtlfjbnflfdnoaaaGreat
open Go.Sx Go.Proofs Classical
structure RG where
 m:Int
 now:Int
 ts:List (Option Rts)
 ev:List Ev
 nt:List Note
abbrev rts0:Rts:=⟨⟨0,0,false,false,0,0,[],subZ,0⟩,0,0,0,0,0,0,0,0⟩
def rtAt (ts:List (Option Rts)) (id:Int):Rts:=(atO ts id).getD rts0
def newRt (E P now:Int) (early:Bool) (pin last:Int):Rts:=⟨⟨E,P,early,false,now,0,[],subZ,0⟩,1,pin,last,now,0,0,0,0⟩
def arrRT (now n:Int) (t:Rtk):Rtk:=bif raE now n t.cut t.waits==0 then { t with off:=(raS now t.E t.P n.toNat (t.off,t.came)).1,came:=(raS now t.E t.P n.toNat (t.off,t.came)).2,waits:=t.waits++raL now t.E t.P n.toNat (t.off,t.came) } else t
def rewRT (now:Int) (t:Rts):Rts:=bif decide (t.kept>0) then { newRt t.nE t.nP now t.t.early t.pin t.last with t:=arrRT now t.kept (newRt t.nE t.nP now t.t.early t.pin t.last).t } else newRt t.nE t.nP now t.t.early t.pin t.last
def canR (now:Int) (t:Rts):Bool:= !(decide (t.stage<2)||(decide (t.time>now)||decide ((t.t.waits.length:Int)>0)))
def evR (g:RG) (id kind:Int):RG:= { g with ev:=g.ev++[⟨g.now,id,kind⟩] }
def putR (g:RG) (id:Int) (t:Option Rts):RG:= { g with ts:=g.ts.set id.toNat t }
def setR1 (g:RG) (id:Int):RG:=bif (atO g.ts id).isSome&&canR g.now (rtAt g.ts id) then (bif (rtAt g.ts id).stage==2 then evR (putR g id none) id 2 else evR (putR g id (some (rewRT g.now (rtAt g.ts id)))) id 3) else g
def setR:Nat->RG->RG
 |0,g=>g
 |n+1,g=>setR1 (setR n g) (n:Int)
def ArrRP (now n:Int) (t:Rtk):Prop:=t.waits.length<=64/\ (raE now n t.cut t.waits=0-> ∀k:Nat,k<n.toNat->raP now t.E t.P (raS now t.E t.P k (t.off,t.came)))
def SetR1P (g:RG) (id:Int):Prop:=g.ts.length=64/\ g.ev.length<=1000000/\ ((atO g.ts id).isSome=true->canR g.now (rtAt g.ts id)=true->(rtAt g.ts id).stage≠2->(rtAt g.ts id).kept>0->ArrRP g.now (rtAt g.ts id).kept (newRt (rtAt g.ts id).nE (rtAt g.ts id).nP g.now (rtAt g.ts id).t.early (rtAt g.ts id).pin (rtAt g.ts id).last).t)
def SetRP (g:RG):Prop:= ∀x:Nat,x<64->SetR1P (setR x g) (x:Int)
noncomputable def tab54:Tab T O:=tab53
theorem tabOk54:TabOk R Tryz.prog tab54:=tabOk53
end Go.Proofs.YtlfjbnflfdnoaaaGreat
namespace Go.Proofs.YtlfjbnflfdnoaaaGreat
open Go.Sx Go.Proofs Classical
def pinRB (pin:Int) (t:Option Rts):Bool:=match t with
 |none=>false
 |some t=>decide (pin>=0)&&t.pin==pin
def badR (id:Int):Bool:=decide (id<0)||decide (id>63)
def putRE (g:RG) (id E P pin:Int):Int:=bif badR id|| !ref04Check E P||decide (pin< -1)||decide (pin>=g.m) then 1 else bif (atO g.ts id).isSome then 14 else bif g.ts.any (pinRB pin) then 19 else 0
def putRG (g:RG) (id E P:Int) (early:Bool) (pin:Int):RG:=bif putRE g id E P pin==0 then setR 64 (putR g id (some (newRt E P g.now early pin (-1)))) else g
def arrRE (g:RG) (id n:Int):Int:=bif badR id||decide (n<1)||decide (n>64) then 1 else bif !(atO g.ts id).isSome then 12 else bif (rtAt g.ts id).stage==2 then 13 else bif (rtAt g.ts id).stage==3 then (bif decide ((rtAt g.ts id).kept+n>64) then 15 else 0) else raE g.now n (rtAt g.ts id).t.cut (rtAt g.ts id).t.waits
def arrT1 (now n:Int) (t:Rts):Rts:= { t with t:=arrRT now n t.t }
def arrRG (g:RG) (id n:Int):RG:=bif badR id||decide (n<1)||decide (n>64) then g else bif !(atO g.ts id).isSome then g else bif (rtAt g.ts id).stage==2 then g else bif (rtAt g.ts id).stage==3 then (bif decide ((rtAt g.ts id).kept+n>64) then g else putR g id (some { rtAt g.ts id with kept:=(rtAt g.ts id).kept+n })) else setR 64 (putR g id (some (arrT1 g.now n (rtAt g.ts id))))
abbrev zEn:Entry:=⟨0,0,0,0,0,0⟩
def rdyN (g:RG):Nat->List Entry
 |0=>[]
 |n+1=>bif (atO g.ts (n:Int)).isSome&&rdyR (rtAt g.ts (n:Int)).t.early g.now (rtAt g.ts (n:Int)).t.waits then rdyN g n++[entS (n:Int) (headT (rtAt g.ts (n:Int)).t.waits)] else rdyN g n
theorem rdyN_len (g:RG): ∀n,(rdyN g n).length<=n
 |0=>Nat.le_refl _
 |n+1=>by
  have:=rdyN_len g n
  unfold rdyN
  cases (atO g.ts (n:Int)).isSome&&rdyR (rtAt g.ts (n:Int)).t.early g.now (rtAt g.ts (n:Int)).t.waits
  ·simp only [cond_false];omega
  ·simp only [cond_true,List.length_append,List.length_singleton];omega
def pickR (g:RG):List Entry:=(srtE (rdyN g 64)).take g.m.toNat
def rtOf (ts:List (Option Rts)) (e:Entry):Runner:=⟨e.ID,(rtAt ts e.ID).pin,(rtAt ts e.ID).last⟩
def rtsOf (ts:List (Option Rts)) (l:List Entry):List Runner:=l.map (rtOf ts)
def coR (g:RG):List Int:=asgR (rtsOf g.ts (pickR g)) g.m
def runRT (t:Rts) (core:Int):Rts:= { t with t:= { t.t with waits:=t.t.waits.drop 1,ran:=headT t.t.waits,done:=IntKind.i64.wrap (t.t.done+1) },last:=core }
def noteRT (now id core:Int) (t:Rts):Note:=⟨id,t.since,(headT t.t.waits).Index,(headT t.t.waits).Release,(headT t.t.waits).Deadline,(headT t.t.waits).Bit,(headT t.t.waits).Group,bif !t.t.early&&decide ((headT t.t.waits).Release>t.since) then (headT t.t.waits).Release else t.since,now,core⟩
def runRG (g:RG) (id core:Int):RG:= { g with ts:=g.ts.set id.toNat (some (runRT (rtAt g.ts id) core)),nt:=g.nt++[noteRT g.now id core (rtAt g.ts id)] }
def inR1 (l:List Entry) (co:List Int) (c i:Int) (q:RG×List Run):RG×List Run:=bif at' (0:Int) co i==c then (runRG q.1 (at' zEn l i).ID c,q.2++[⟨(at' zEn l i).ID,c,(headT (rtAt q.1.ts (at' zEn l i).ID).t.waits).Index⟩]) else q
def inR (l:List Entry) (co:List Int) (c:Nat):Nat->RG×List Run->RG×List Run
 |0,q=>q
 |n+1,q=>inR1 l co (c:Int) (n:Int) (inR l co c n q)
def outR (l:List Entry) (co:List Int):Nat->RG×List Run->RG×List Run
 |0,q=>q
 |n+1,q=>inR l co n l.length (outR l co n q)
def tkR0 (g:RG):RG×List Run:=outR (pickR g) (coR g) g.m.toNat (g,[])
def trimR (g:RG):RG:= { g with nt:=g.nt.drop (g.nt.length-4096),now:=IntKind.i64.wrap (g.now+1) }
def tickRG (g:RG):RG:=setR 64 (trimR (tkR0 g).1)
def RunRP (g:RG) (id:Int):Prop:=badR id=false/\ g.ts.length=64/\ (atO g.ts id).isSome=true/\ (rtAt g.ts id).t.waits.length<=1000/\ someT (rtAt g.ts id).t.waits=true/\ g.nt.length<=1000000
def TickRP (g:RG):Prop:=g.ts.length=64/\ 0<=g.m/\ g.m<=1024/\ chkA (rtsOf g.ts (pickR g)) g.m=true/\ (coR g).length=(pickR g).length/\ (∀x:Nat,x<(pickR g).length->badR (at' zEn (pickR g) (x:Int)).ID=false/\ (atO g.ts (at' zEn (pickR g) (x:Int)).ID).isSome=true)∧
 (∀c x:Nat,c<g.m.toNat->x<(pickR g).length->(at' (0:Int) (coR g) (x:Int)==(c:Int))=true->RunRP (inR (pickR g) (coR g) c x (outR (pickR g) (coR g) c (g,[]))).1 (at' zEn (pickR g) (x:Int)).ID/\ (inR (pickR g) (coR g) c x (outR (pickR g) (coR g) c (g,[]))).2.length<=1000000)/\ (tkR0 g).1.nt.length<=1000000/\ SetRP (trimR (tkR0 g).1)
def noTr:List (Option Rts):=List.replicate 64 none
noncomputable def tab55:Tab T O:=tab54
theorem tabOk55:TabOk R Tryz.prog tab55:=tabOk54
noncomputable def X55:Ctx T O:= { X0 with con:=conOf tab55 }
theorem X55Ok:TabOk R X55.P tab55:=tabOk55
end Go.Proofs.YtlfjbnflfdnoaaaGreat
namespace Go.Proofs.YtlfjbnflfdnoaaaGreat
open Go.Sx Go.Proofs Classical
def actWC0 (_a0Kind:Int) (_a0ID:Int) (_a0N:Int) (_a0Pin:Int) (a0Wi0:Int) (a0Wi1:Int) (_a0Early:Bool):Int:=(match (IntKind.i64.wrap ((1:Int)+(IntKind.i64.wrap (a0Wi1.tmod (12:Int)+(12:Int))).tmod (12:Int)) !=(0:Int)) with|true=>(IntKind.i64.wrap ((1:Int)+(IntKind.i64.wrap (a0Wi0.tmod (IntKind.i64.wrap ((1:Int)+(IntKind.i64.wrap (a0Wi1.tmod (12:Int)+(12:Int))).tmod (12:Int)))+IntKind.i64.wrap ((1:Int)+(IntKind.i64.wrap (a0Wi1.tmod (12:Int)+(12:Int))).tmod (12:Int)))).tmod (IntKind.i64.wrap ((1:Int)+(IntKind.i64.wrap (a0Wi1.tmod (12:Int)+(12:Int))).tmod (12:Int)))))|false=>0)
def actWC1 (_a0Kind:Int) (_a0ID:Int) (_a0N:Int) (_a0Pin:Int) (_a0Wi0:Int) (a0Wi1:Int) (_a0Early:Bool):Int:=(match (IntKind.i64.wrap ((1:Int)+(IntKind.i64.wrap (a0Wi1.tmod (12:Int)+(12:Int))).tmod (12:Int)) !=(0:Int)) with|true=>(IntKind.i64.wrap ((1:Int)+(IntKind.i64.wrap (a0Wi1.tmod (12:Int)+(12:Int))).tmod (12:Int)))|false=>0)
def actWPre (_a0Kind:Int) (_a0ID:Int) (_a0N:Int) (_a0Pin:Int) (_a0Wi0:Int) (a0Wi1:Int) (_a0Early:Bool):Bool:=(match (IntKind.i64.wrap ((1:Int)+(IntKind.i64.wrap (a0Wi1.tmod (12:Int)+(12:Int))).tmod (12:Int)) !=(0:Int)) with|true=>true|false=>false)
noncomputable def actWCon:Con T O:=fun args cs=>match args,cs with
 |[.agg [.raw (.int .i64 a0Kind), .raw (.int .i64 a0ID), .raw (.int .i64 a0N), .raw (.int .i64 a0Pin), .raw (.int .i64 a0Wi0), .raw (.int .i64 a0Wi1), .raw (.bool a0Early)]],[]=>chk (actWPre a0Kind a0ID a0N a0Pin a0Wi0 a0Wi1 a0Early) (retv (.agg [.raw (.int .i64 (actWC0 a0Kind a0ID a0N a0Pin a0Wi0 a0Wi1 a0Early)), .raw (.int .i64 (actWC1 a0Kind a0ID a0N a0Pin a0Wi0 a0Wi1 a0Early))]))
 |_,_=> .fail
theorem actWVc (a0Kind:Int) (a0ID:Int) (a0N:Int) (a0Pin:Int) (a0Wi0:Int) (a0Wi1:Int) (a0Early:Bool):fnX X55 noAnn Tryz.f22 [.agg [.raw (.int .i64 a0Kind), .raw (.int .i64 a0ID), .raw (.int .i64 a0N), .raw (.int .i64 a0Pin), .raw (.int .i64 a0Wi0), .raw (.int .i64 a0Wi1), .raw (.bool a0Early)]] [] (ends [] ⟨some (.agg [.raw (.int .i64 (actWC0 a0Kind a0ID a0N a0Pin a0Wi0 a0Wi1 a0Early)), .raw (.int .i64 (actWC1 a0Kind a0ID a0N a0Pin a0Wi0 a0Wi1 a0Early))]),[]⟩)=((match (IntKind.i64.wrap ((1:Int)+(IntKind.i64.wrap (a0Wi1.tmod (12:Int)+(12:Int))).tmod (12:Int)) !=(0:Int)) with|true=>(match (IntKind.i64.wrap ((1:Int)+(IntKind.i64.wrap (a0Wi1.tmod (12:Int)+(12:Int))).tmod (12:Int)) !=(0:Int)) with|true=>((((actWC0 a0Kind a0ID a0N a0Pin a0Wi0 a0Wi1 a0Early=(IntKind.i64.wrap ((1:Int)+(IntKind.i64.wrap (a0Wi0.tmod (IntKind.i64.wrap ((1:Int)+(IntKind.i64.wrap (a0Wi1.tmod (12:Int)+(12:Int))).tmod (12:Int)))+IntKind.i64.wrap ((1:Int)+(IntKind.i64.wrap (a0Wi1.tmod (12:Int)+(12:Int))).tmod (12:Int)))).tmod (IntKind.i64.wrap ((1:Int)+(IntKind.i64.wrap (a0Wi1.tmod (12:Int)+(12:Int))).tmod (12:Int))))))/\ ((actWC1 a0Kind a0ID a0N a0Pin a0Wi0 a0Wi1 a0Early=(IntKind.i64.wrap ((1:Int)+(IntKind.i64.wrap (a0Wi1.tmod (12:Int)+(12:Int))).tmod (12:Int))))/\ True)))/\ True)/\ True|false=>False)|false=>False)):=by kernel_rfl
theorem actWOk:ConOk R Tryz.prog 22 actWCon:=con_of_fn R X55 (good (X55) rfl (TabOk.con R X55Ok)) mixed Tryz.call22 Tryz.func22 actWCon (by
 intro args cs K h
 unfold actWCon at h
 split at h
 ·rename_i a0Kind a0ID a0N a0Pin a0Wi0 a0Wi1 a0Early
  rw [Tree.holds_chk] at h
  obtain ⟨hp,h⟩:=h
  refine ⟨noAnn,_,fun v S hv=>⟨_,h,hv⟩, ?_⟩
  rw [actWVc a0Kind a0ID a0N a0Pin a0Wi0 a0Wi1 a0Early]
  revert hp
  unfold actWC0 actWC1 actWPre
  cases (IntKind.i64.wrap ((1:Int)+(IntKind.i64.wrap (a0Wi1.tmod (12:Int)+(12:Int))).tmod (12:Int)) !=(0:Int))
  ·
   intro hp;cases hp
  ·
   intro _;exact ⟨⟨⟨rfl,⟨rfl,trivial⟩⟩,trivial⟩,trivial⟩
 ·exact h.elim)
noncomputable def tab56:Tab T O:=(22,actWCon)::tab55
theorem tabOk56:TabOk R Tryz.prog tab56:=TabOk.cons R actWOk<|tabOk55
end Go.Proofs.YtlfjbnflfdnoaaaGreat
namespace Go.Proofs.YtlfjbnflfdnoaaaGreat
open Go.Sx Go.Proofs Classical
def insR {α:Type} (lt:α->α->Bool):List α->α->List α
 |[],x=>[x]
 |a::R,x=>bif lt x a then a::insR lt R x else x::a::R
theorem at_mid' {α:Type} (z:α) (A:List α) (x:α) (B:List α) {n:Nat} (hn:n=A.length):at' z (A++x::B) (n:Int)=x:=by
 subst hn
 unfold at' List.getD
 rw [Int.toNat_natCast,List.getElem?_append_right (Nat.le_refl _),Nat.sub_self]
 rfl
theorem set_mid {α:Type} (A:List α) (x y:α) (B:List α) {n:Nat} (hn:n=A.length):(A++x::B).set n y=A++y::B:=by
 subst hn
 rw [List.set_append_right _ _ (Nat.le_refl _),Nat.sub_self]
 rfl
theorem insZ_rev {α:Type} (z:α) (lt:α->α->Bool): ∀(R:List α) (x:α) (B:List α),insZ z lt (R.reverse++x::B) R.length=(insR lt R x).reverse++B
 |[],x,B=>rfl
 |a::R,x,B=>by
  have e:(a::R).reverse++x::B=R.reverse++a::x::B:=by simp
  have e2:R.reverse++a::x::B=(R.reverse++[a])++x::B:=by simp
  rw [e]
  have h1:at' z (R.reverse++a::x::B) ((R.length+1:Nat):Int)=x:=by
   rw [e2];exact at_mid' z _ x B (by simp)
  have h0:at' z (R.reverse++a::x::B) ((R.length:Nat):Int)=a:=at_mid' z _ a _ (by simp)
  have s1:((R.reverse++a::x::B).set (R.length+1) a).set R.length x=R.reverse++x::a::B:=by
   rw [e2,set_mid _ x a B (by simp),show (R.reverse++[a])++a::B=R.reverse++a::a::B by simp,set_mid _ a x _ (by simp)]
  show insZ z lt (R.reverse++a::x::B) (R.length+1)=_
  simp only [insZ]
  rw [h1,h0,s1]
  unfold insR
  cases lt x a
  ·simp
  ·simp only [cond_true]
   rw [insZ_rev z lt R x (a::B)]
   simp
def sortR {α:Type} (lt:α->α->Bool) (l:List α):List α:=l.foldl (insR lt) []
theorem sortR_snoc {α:Type} (lt:α->α->Bool) (l:List α) (x:α):sortR lt (l++[x])=insR lt (sortR lt l) x:=by
 unfold sortR;rw [List.foldl_append];rfl
theorem insR_perm {α:Type} (lt:α->α->Bool): ∀(R:List α) (x:α),(insR lt R x).Perm (x::R)
 |[],x=>List.Perm.refl _
 |a::R,x=>by
  unfold insR
  cases lt x a
  ·exact List.Perm.refl _
  ·exact ((insR_perm lt R x).cons a).trans (List.Perm.swap x a R)
theorem sortR_perm {α:Type} (lt:α->α->Bool) (l:List α):(sortR lt l).Perm l:=by
 have: ∀(l R:List α),(l.foldl (insR lt) R).Perm (R++l):=by
  intro l
  induction l with
  |nil=>intro R;simp
  |cons a l ih=>
   intro R
   rw [List.foldl_cons]
   exact (ih _).trans ((((insR_perm lt R a).append_right l)).trans (by simpa using (List.perm_middle (a:=a) (l₁:=R) (l₂:=l)).symm))
 have:=this l []
 simpa [sortR] using this
theorem sortR_len {α:Type} (lt:α->α->Bool) (l:List α):(sortR lt l).length=l.length:=(sortR_perm lt l).length_eq
theorem isrtZ_rev {α:Type} (z:α) (lt:α->α->Bool) (L:List α): ∀k,k<=L.length->isrtZ z lt L k=(sortR lt (L.take k)).reverse++L.drop k
 |0,_=>by simp [isrtZ,sortR]
 |k+1,hk=>by
  have hk':k<L.length:=hk
  rw [isrtZ,isrtZ_rev z lt L k (by omega),take_at hk',sortR_snoc,List.drop_eq_getElem_cons hk']
  have:=insZ_rev z lt (sortR lt (L.take k)) L[k] (L.drop (k+1))
  rw [sortR_len,List.length_take,Nat.min_eq_left (by omega)] at this
  exact this
theorem isrtZ_all {α:Type} (z:α) (lt:α->α->Bool) (L:List α):isrtZ z lt L L.length=(sortR lt L).reverse:=by
 rw [isrtZ_rev z lt L _ (Nat.le_refl _),List.take_length,List.drop_length,List.append_nil]
theorem insR_sorted {α:Type} {lt:α->α->Bool} {key:α->Int} (hlt: ∀a b,lt a b=decide (key a<key b)): ∀ {R:List α} {x:α},R.Pairwise (fun a b=>key b<=key a)->(insR lt R x).Pairwise (fun a b=>key b<=key a)
 |[],x,_=>by simp [insR]
 |a::R,x,h=>by
  unfold insR
  rw [List.pairwise_cons] at h
  rw [hlt]
  by_cases c:key x<key a
  ·rw [decide_eq_true c]
   simp only [cond_true]
   rw [List.pairwise_cons]
   refine ⟨fun b hb=> ?_,insR_sorted hlt h.2⟩
   rcases List.mem_cons.1 ((insR_perm lt R x).mem_iff.1 hb) with e|e
   ·subst e;omega
   ·exact h.1 b e
  ·rw [decide_eq_false c]
   simp only [cond_false]
   rw [List.pairwise_cons,List.pairwise_cons]
   refine ⟨fun b hb=> ?_,h⟩
   rcases List.mem_cons.1 hb with e|e
   ·subst e;omega
   ·have:=h.1 b e;omega
theorem sortR_sorted {α:Type} {lt:α->α->Bool} {key:α->Int} (hlt: ∀a b,lt a b=decide (key a<key b)) (l:List α):(sortR lt l).Pairwise (fun a b=>key b<=key a):=by
 have: ∀(l R:List α),R.Pairwise (fun a b=>key b<=key a)->(l.foldl (insR lt) R).Pairwise (fun a b=>key b<=key a):=by
  intro l
  induction l with
  |nil=>intro R h;exact h
  |cons a l ih=>intro R h;exact ih _ (insR_sorted hlt h)
 exact this l [] List.Pairwise.nil
theorem sorted_ext {α:Type} {key:α->Int}: ∀ {l1 l2:List α},l1.Pairwise (fun a b=>key a<key b)->l2.Pairwise (fun a b=>key a<key b)->(∀a,a∈l1↔a∈l2)->l1=l2
 |[],[],_,_,_=>rfl
 |[],b::l2,_,_,h=>by have:=(h b).2 (by simp);cases this
 |a::l1,[],_,_,h=>by have:=(h a).1 (by simp);cases this
 |a::l1,b::l2,h1,h2,h=>by
  rw [List.pairwise_cons] at h1 h2
  have hab:a=b:=by
   rcases List.mem_cons.1 ((h a).1 (by simp)) with e|e
   ·exact e
   rcases List.mem_cons.1 ((h b).2 (by simp)) with e'|e'
   ·exact e'.symm
   have:=h2.1 a e
   have:=h1.1 b e'
   omega
  subst hab
  congr 1
  refine sorted_ext h1.2 h2.2 fun c=> ?_
  constructor
  ·intro hc
   rcases List.mem_cons.1 ((h c).1 (List.mem_cons_of_mem _ hc)) with e|e
   ·subst e;have:=h1.1 c hc;omega
   ·exact e
  ·intro hc
   rcases List.mem_cons.1 ((h c).2 (List.mem_cons_of_mem _ hc)) with e|e
   ·subst e;have:=h2.1 c hc;omega
   ·exact e
theorem strict_of {α:Type} {key:α->Int} {l:List α} (h:l.Pairwise (fun a b=>key a<=key b)) (hn:(l.map key).Nodup):l.Pairwise (fun a b=>key a<key b):=by
 have hn:l.Pairwise (fun a b=>key a≠key b):=List.pairwise_map.1 hn
 refine List.Pairwise.imp₂ ?_ h hn
 intro a b h1 h2
 omega
theorem srt_strict {α:Type} {lt:α->α->Bool} {key:α->Int} (z:α) (hlt: ∀a b,lt a b=decide (key a<key b)) {L:List α} (hn:(L.map key).Nodup):(isrtZ z lt L L.length).Pairwise (fun a b=>key a<key b):=by
 rw [isrtZ_all]
 refine strict_of ?_ ?_
 ·rw [List.pairwise_reverse]
  exact sortR_sorted hlt L
 ·exact ((((List.reverse_perm _).trans (sortR_perm lt L)).map key).nodup_iff).2 hn
theorem srt_mem {α:Type} {lt:α->α->Bool} (z:α) {L:List α} (a:α):a∈isrtZ z lt L L.length↔a∈L:=by
 rw [isrtZ_all,List.mem_reverse,(sortR_perm lt L).mem_iff]
theorem ltI_dec (a b:Int):ltI a b=decide (id a<id b):=by
 unfold ltI lessI nanI
 by_cases h:a<b<;>simp [h]
theorem nodup_bound: ∀(k:Nat) {l:List Int},l.Nodup->(∀a∈l,0<=a/\ a<k)->l.length<=k
 |0,l,_,h=>by
  cases l with
  |nil=>exact Nat.le_refl _
  |cons a l=>have:=h a (by simp);omega
 |k+1,l,hn,h=>by
  have h1:=nodup_bound k (hn.erase (k:Int)) (fun a ha=>by
   have h2:=(List.Nodup.mem_erase_iff hn).1 ha
   have:=h a h2.2
   have:=h2.1
   omega)
  rw [List.length_erase] at h1
  split at h1<;>omega
section
def RqV (s:eHS) (f:Int->Option Entry):Prop:= ∃C,eHOk s C/\ ∀a,a∈C↔ ∃x,f a.Id=some x/\ a=ething a.Id x
def updF {α:Type} (f:Int->Option α) (i:Int) (a:Option α):Int->Option α:=fun j=>if j=i then a else f j
theorem updF_eq {α:Type} (f:Int->Option α) (i:Int) (a:Option α):updF f i a i=a:=by simp [updF]
theorem updF_ne {α:Type} (f:Int->Option α) {i j:Int} (a:Option α) (h:j≠i):updF f i a j=f j:=by simp [updF,h]
theorem eIds {s:eHS} {C:List EThing} (h:eHOk s C):(s.1.map fun a=>a.Id).Nodup:=by
 refine List.pairwise_map.2 (List.pairwise_iff_getElem.2 fun i j hi hj hij he=> ?_)
 have:=h.map.inj hi hj (by rw [egN_at hi,egN_at hj];exact he)
 omega
theorem eNodup {s:eHS} {C:List EThing} (h:eHOk s C):C.Nodup:=by
 refine (h.perm.nodup_iff).1 ?_
 exact List.Pairwise.imp (fun {a b} hab e=>hab (by rw [e])) (List.pairwise_map.1 (eIds h))
theorem RqV.there {s:eHS} {f:Int->Option Entry} (h:RqV s f) (id:Int):ethereB id s.2=(f id).isSome:=by
 obtain ⟨C,hC,hm⟩:=h
 rw [Bool.eq_iff_iff,hC.there]
 constructor
 ·rintro ⟨a,ha,rfl⟩
  obtain ⟨x,hx,_⟩:=(hm a).1 ha
  rw [hx];rfl
 ·intro hs
  obtain ⟨x,hx⟩:=Option.isSome_iff_exists.1 hs
  exact ⟨ething id x,(hm _).2 ⟨x,hx,rfl⟩,rfl⟩
theorem RqV.where {s:eHS} {f:Int->Option Entry} (h:RqV s f) (id:Int) (ht:ethereB id s.2=true):0<=ewhereI id s.2/\ ewhereI id s.2<s.1.length:=by
 obtain ⟨C,hC,hm⟩:=h
 obtain ⟨i,hi,hw,_⟩:=hC.where ht
 rw [hw];omega
theorem RqV.take {s:eHS} {f:Int->Option Entry} (h:RqV s f) {i:Nat} (hi:i<s.1.length):RqV (etakeH s i) (updF f (egN s.1 i).Id none)/\ ∃x,f (egN s.1 i).Id=some x/\ egN s.1 i=ething (egN s.1 i).Id x:=by
 obtain ⟨C,hC,hm⟩:=h
 obtain ⟨C',hp,hC'⟩:=hC.take hi
 have hg:egN s.1 i∈C:=hp.mem_iff.2 (by simp)
 have hn:(egN s.1 i::C').Nodup:=(hp.nodup_iff).1 (eNodup hC)
 refine ⟨⟨C',hC',fun a=> ?_⟩,(hm _).1 hg⟩
 constructor
 ·intro ha
  have haC:a∈C:=hp.mem_iff.2 (List.mem_cons_of_mem _ ha)
  obtain ⟨x,hx,he⟩:=(hm a).1 haC
  refine ⟨x, ?_,he⟩
  rw [updF_ne _ _ (fun e=> ?_)]
  ·exact hx
  ·have:=hC.one haC hg e
   rw [this] at ha
   exact (List.nodup_cons.1 hn).1 ha
 ·rintro ⟨x,hx,he⟩
  have hne:a.Id≠(egN s.1 i).Id:=fun e=>by rw [e,updF_eq] at hx;cases hx
  rw [updF_ne _ _ hne] at hx
  have haC:a∈C:=(hm a).2 ⟨x,hx,he⟩
  rcases List.mem_cons.1 (hp.mem_iff.1 haC) with e|e
  ·exact absurd (by rw [e]) hne
  ·exact e
theorem RqV.rem {s:eHS} {f:Int->Option Entry} (h:RqV s f) (id:Int):RqV (remU s id) (updF f id none):=by
 unfold remU
 cases ht:ethereB id s.2
 ·simp only [cond_false]
  have:updF f id none=f:=by
   funext j
   by_cases e:j=id
   ·subst e
    rw [updF_eq]
    have:=h.there j
    rw [ht] at this
    cases hf:f j with
    |none=>rfl
    |some x=>rw [hf] at this;cases this
   ·rw [updF_ne _ _ e]
  rw [this];exact h
 ·simp only [cond_true]
  have h':=h
  obtain ⟨C,hC,hm⟩:=h'
  obtain ⟨i,hi,hw,hid,_⟩:=hC.where ht
  rw [hw,Int.toNat_natCast]
  have:=(RqV.take h hi).1
  rw [hid] at this
  exact this
theorem RqV.push {s:eHS} {f:Int->Option Entry} (h:RqV s f) {id:Int} (hid:f id=none) (x:Entry):RqV (pushU s id x) (updF f id (some x)):=by
 have ht:=h.there id
 rw [hid] at ht
 unfold pushU
 rw [ht]
 simp only [cond_false,Option.isSome_none]
 obtain ⟨C,hC,hm⟩:=h
 refine ⟨_,hC.push ht,fun a=> ?_⟩
 constructor
 ·intro ha
  rcases List.mem_cons.1 ha with e|ha
  ·subst e
   exact ⟨x,by show updF f id _ id=_;rw [updF_eq],rfl⟩
  ·obtain ⟨y,hy,he⟩:=(hm a).1 ha
   refine ⟨y, ?_,he⟩
   rw [updF_ne _ _ (fun e=> ?_)]
   ·exact hy
   ·rw [e,hid] at hy;cases hy
 ·rintro ⟨y,hy,he⟩
  by_cases e:a.Id=id
  ·rw [e,updF_eq] at hy
   simp only [Option.some.injEq] at hy
   subst hy
   rw [he,e]
   exact List.mem_cons_self
  ·rw [updF_ne _ _ e] at hy
   exact List.mem_cons_of_mem _ ((hm a).2 ⟨y,hy,he⟩)
theorem RqV.len {s:eHS} {f:Int->Option Entry} (h:RqV s f) {k:Nat} (hf: ∀id x,f id=some x->0<=id/\ id<k):s.1.length<=k:=by
 obtain ⟨C,hC,hm⟩:=h
 have:=nodup_bound k (eIds hC) (fun a ha=>by
  obtain ⟨b,hb,rfl⟩:=List.mem_map.1 ha
  obtain ⟨x,hx,_⟩:=(hm b).1 (hC.perm.mem_iff.1 hb)
  exact hf _ _ hx)
 simpa using this
theorem RqV.min {s:eHS} {f:Int->Option Entry} (h:RqV s f) (hl:0<s.1.length): ∃x,f (egN s.1 0).Id=some x/\ egN s.1 0=ething (egN s.1 0).Id x/\ ∀id y,f id=some y->ele' (egN s.1 0) (ething id y):=by
 obtain ⟨x,hx,he⟩:=(RqV.take h hl).2
 obtain ⟨C,hC,hm⟩:=h
 exact ⟨x,hx,he,fun id y hy=>(hC.min hl).2 _ ((hm _).2 ⟨y,hy,rfl⟩)⟩
theorem RqV.empty {s:eHS} {f:Int->Option Entry} (h:RqV s f):s.1.length=0↔ ∀id,f id=none:=by
 constructor
 ·intro hl id
  cases hf:f id with
  |none=>rfl
  |some x=>
   exfalso
   obtain ⟨C,hC,hm⟩:=h
   have:=(hm (ething id x)).2 ⟨x,hf,rfl⟩
   have:=List.length_pos_of_mem this
   have:=hC.len
   omega
 ·intro hn
  refine Nat.eq_zero_of_not_pos fun hp=> ?_
  obtain ⟨x,hx,_⟩:=h.min hp
  rw [hn] at hx;cases hx
theorem RqV.new:RqV (enoThings,enoPlaces) fun _=>none:=⟨[],eHOk.new,fun a=>⟨fun h=>(by cases h),fun ⟨x,hx,_⟩=>(by cases hx)⟩⟩
end
def remV (s:vHS) (id:Int):vHS:=bif vthereB id s.2 then vtakeH s (vwhereI id s.2).toNat else s
def pushV (s:vHS) (id:Int) (x:Ev):vHS:=bif vthereB id s.2 then s else vpushH s id x
section
def DqV (s:vHS) (f:Int->Option Ev):Prop:= ∃C,vHOk s C/\ ∀a,a∈C↔ ∃x,f a.Id=some x/\ a=vthing a.Id x
theorem vIds {s:vHS} {C:List VThing} (h:vHOk s C):(s.1.map fun a=>a.Id).Nodup:=by
 refine List.pairwise_map.2 (List.pairwise_iff_getElem.2 fun i j hi hj hij he=> ?_)
 have:=h.map.inj hi hj (by rw [vgN_at hi,vgN_at hj];exact he)
 omega
theorem vNodup {s:vHS} {C:List VThing} (h:vHOk s C):C.Nodup:=by
 refine (h.perm.nodup_iff).1 ?_
 exact List.Pairwise.imp (fun {a b} hab e=>hab (by rw [e])) (List.pairwise_map.1 (vIds h))
theorem DqV.there {s:vHS} {f:Int->Option Ev} (h:DqV s f) (id:Int):vthereB id s.2=(f id).isSome:=by
 obtain ⟨C,hC,hm⟩:=h
 rw [Bool.eq_iff_iff,hC.there]
 constructor
 ·rintro ⟨a,ha,rfl⟩
  obtain ⟨x,hx,_⟩:=(hm a).1 ha
  rw [hx];rfl
 ·intro hs
  obtain ⟨x,hx⟩:=Option.isSome_iff_exists.1 hs
  exact ⟨vthing id x,(hm _).2 ⟨x,hx,rfl⟩,rfl⟩
theorem DqV.where {s:vHS} {f:Int->Option Ev} (h:DqV s f) (id:Int) (ht:vthereB id s.2=true):0<=vwhereI id s.2/\ vwhereI id s.2<s.1.length:=by
 obtain ⟨C,hC,hm⟩:=h
 obtain ⟨i,hi,hw,_⟩:=hC.where ht
 rw [hw];omega
theorem DqV.take {s:vHS} {f:Int->Option Ev} (h:DqV s f) {i:Nat} (hi:i<s.1.length):DqV (vtakeH s i) (updF f (vgN s.1 i).Id none)/\ ∃x,f (vgN s.1 i).Id=some x/\ vgN s.1 i=vthing (vgN s.1 i).Id x:=by
 obtain ⟨C,hC,hm⟩:=h
 obtain ⟨C',hp,hC'⟩:=hC.take hi
 have hg:vgN s.1 i∈C:=hp.mem_iff.2 (by simp)
 have hn:(vgN s.1 i::C').Nodup:=(hp.nodup_iff).1 (vNodup hC)
 refine ⟨⟨C',hC',fun a=> ?_⟩,(hm _).1 hg⟩
 constructor
 ·intro ha
  have haC:a∈C:=hp.mem_iff.2 (List.mem_cons_of_mem _ ha)
  obtain ⟨x,hx,he⟩:=(hm a).1 haC
  refine ⟨x, ?_,he⟩
  rw [updF_ne _ _ (fun e=> ?_)]
  ·exact hx
  ·have:=hC.one haC hg e
   rw [this] at ha
   exact (List.nodup_cons.1 hn).1 ha
 ·rintro ⟨x,hx,he⟩
  have hne:a.Id≠(vgN s.1 i).Id:=fun e=>by rw [e,updF_eq] at hx;cases hx
  rw [updF_ne _ _ hne] at hx
  have haC:a∈C:=(hm a).2 ⟨x,hx,he⟩
  rcases List.mem_cons.1 (hp.mem_iff.1 haC) with e|e
  ·exact absurd (by rw [e]) hne
  ·exact e
theorem DqV.rem {s:vHS} {f:Int->Option Ev} (h:DqV s f) (id:Int):DqV (remV s id) (updF f id none):=by
 unfold remV
 cases ht:vthereB id s.2
 ·simp only [cond_false]
  have:updF f id none=f:=by
   funext j
   by_cases e:j=id
   ·subst e
    rw [updF_eq]
    have:=h.there j
    rw [ht] at this
    cases hf:f j with
    |none=>rfl
    |some x=>rw [hf] at this;cases this
   ·rw [updF_ne _ _ e]
  rw [this];exact h
 ·simp only [cond_true]
  have h':=h
  obtain ⟨C,hC,hm⟩:=h'
  obtain ⟨i,hi,hw,hid,_⟩:=hC.where ht
  rw [hw,Int.toNat_natCast]
  have:=(DqV.take h hi).1
  rw [hid] at this
  exact this
theorem DqV.push {s:vHS} {f:Int->Option Ev} (h:DqV s f) {id:Int} (hid:f id=none) (x:Ev):DqV (pushV s id x) (updF f id (some x)):=by
 have ht:=h.there id
 rw [hid] at ht
 unfold pushV
 rw [ht]
 simp only [cond_false,Option.isSome_none]
 obtain ⟨C,hC,hm⟩:=h
 refine ⟨_,hC.push ht,fun a=> ?_⟩
 constructor
 ·intro ha
  rcases List.mem_cons.1 ha with e|ha
  ·subst e
   exact ⟨x,by show updF f id _ id=_;rw [updF_eq],rfl⟩
  ·obtain ⟨y,hy,he⟩:=(hm a).1 ha
   refine ⟨y, ?_,he⟩
   rw [updF_ne _ _ (fun e=> ?_)]
   ·exact hy
   ·rw [e,hid] at hy;cases hy
 ·rintro ⟨y,hy,he⟩
  by_cases e:a.Id=id
  ·rw [e,updF_eq] at hy
   simp only [Option.some.injEq] at hy
   subst hy
   rw [he,e]
   exact List.mem_cons_self
  ·rw [updF_ne _ _ e] at hy
   exact List.mem_cons_of_mem _ ((hm a).2 ⟨y,hy,he⟩)
theorem DqV.len {s:vHS} {f:Int->Option Ev} (h:DqV s f) {k:Nat} (hf: ∀id x,f id=some x->0<=id/\ id<k):s.1.length<=k:=by
 obtain ⟨C,hC,hm⟩:=h
 have:=nodup_bound k (vIds hC) (fun a ha=>by
  obtain ⟨b,hb,rfl⟩:=List.mem_map.1 ha
  obtain ⟨x,hx,_⟩:=(hm b).1 (hC.perm.mem_iff.1 hb)
  exact hf _ _ hx)
 simpa using this
theorem DqV.min {s:vHS} {f:Int->Option Ev} (h:DqV s f) (hl:0<s.1.length): ∃x,f (vgN s.1 0).Id=some x/\ vgN s.1 0=vthing (vgN s.1 0).Id x/\ ∀id y,f id=some y->vle' (vgN s.1 0) (vthing id y):=by
 obtain ⟨x,hx,he⟩:=(DqV.take h hl).2
 obtain ⟨C,hC,hm⟩:=h
 exact ⟨x,hx,he,fun id y hy=>(hC.min hl).2 _ ((hm _).2 ⟨y,hy,rfl⟩)⟩
theorem DqV.empty {s:vHS} {f:Int->Option Ev} (h:DqV s f):s.1.length=0↔ ∀id,f id=none:=by
 constructor
 ·intro hl id
  cases hf:f id with
  |none=>rfl
  |some x=>
   exfalso
   obtain ⟨C,hC,hm⟩:=h
   have:=(hm (vthing id x)).2 ⟨x,hf,rfl⟩
   have:=List.length_pos_of_mem this
   have:=hC.len
   omega
 ·intro hn
  refine Nat.eq_zero_of_not_pos fun hp=> ?_
  obtain ⟨x,hx,_⟩:=h.min hp
  rw [hn] at hx;cases hx
theorem DqV.new:DqV (vnoThings,vnoPlaces) fun _=>none:=⟨[],vHOk.new,fun a=>⟨fun h=>(by cases h),fun ⟨x,hx,_⟩=>(by cases hx)⟩⟩
end
structure CntAt (X o k w l:Int):Prop where
 eq:w*o+l=k*X
 l0:0<=l
 l1:l<o
theorem CntAt.step {X o k w l:Int} (h:CntAt X o k w l):CntAt X o (k+1) (cntW w l o (X/o) (X%o)) (cntL l o (X%o)):=by
 obtain ⟨e,l0,l1⟩:=h
 have ho:0<o:=by omega
 have m0:=Int.emod_nonneg X (b:=o) (by omega)
 have m1:=Int.emod_lt_of_pos X ho
 have m2:=Int.mul_ediv_add_emod X o
 have e2:(k+1)*X=w*o+l+(o*(X/o)+X%o):=by rw [Int.add_mul,Int.one_mul,←e,m2]
 have e3:o*(X/o)=(X/o)*o:=Int.mul_comm _ _
 unfold cntW cntL
 by_cases hc:l+X%o>=o
 ·rw [decide_eq_true hc]
  simp only [cond_true]
  exact ⟨by rw [e2,e3,Int.add_mul,Int.add_mul,Int.one_mul];omega,by omega,by omega⟩
 ·rw [decide_eq_false hc]
  simp only [cond_false]
  exact ⟨by rw [e2,e3,Int.add_mul];omega,by omega,by omega⟩
theorem CntAt.up {X o k w l:Int} (h:CntAt X o k w l):o*upC w l<k*X+o/\ k*X<=o*upC w l:=by
 obtain ⟨e,l0,l1⟩:=h
 have e1:o*w=w*o:=Int.mul_comm _ _
 unfold upC
 by_cases hc:l>0
 ·rw [decide_eq_true hc]
  simp only [cond_true]
  rw [Int.mul_add,Int.mul_one]
  omega
 ·rw [decide_eq_false hc]
  simp only [cond_false]
  omega
theorem up_unique {o a x y:Int} (ho:0<o) (hx:o*x<a+o/\ a<=o*x) (hy:o*y<a+o/\ a<=o*y):x=y:=by
 refine Int.le_antisymm (Int.not_lt.1 fun h=> ?_) (Int.not_lt.1 fun h=> ?_)
 ·have:=Int.mul_le_mul_of_nonneg_left (show y+1<=x by omega) (show 0<=o by omega)
  rw [Int.mul_add,Int.mul_one] at this
  omega
 ·have:=Int.mul_le_mul_of_nonneg_left (show x+1<=y by omega) (show 0<=o by omega)
  rw [Int.mul_add,Int.mul_one] at this
  omega
theorem grp_at {X o dl:Int} (ho:0<o) (hX:o<=X): ∀(n:Nat) (k w l:Int),CntAt X o k w l->0<=w->dl-w<=n->(∀j:Int,0<=j->j<k-> ∀u:Int,o*u<j*X+o->u<dl)->0<=k→
  ∃k' w' l',grpN (X/o) (X%o) o dl n w l=(w',l')/\ CntAt X o k' w' l'/\ 0<=w'/\ k<=k'/\ dl<=upC w' l'/\ ∀j:Int,0<=j->j<k'-> ∀u:Int,o*u<j*X+o->u<dl:=by
 intro n
 induction n with
 |zero=>
  intro k w l h h0 hn hm hk
  have:=up_le w l
  exact ⟨k,w,l,rfl,h,h0,Int.le_refl _,by omega,hm⟩
 |succ n ih=>
  intro k w l h h0 hn hm hk
  simp only [grpN]
  have hu:=up_le w l
  by_cases c:upC w l>=dl
  ·rw [decide_eq_true c]
   exact ⟨k,w,l,rfl,h,h0,Int.le_refl _,c,hm⟩
  ·rw [decide_eq_false c]
   have hq:1<=X/o:=(Int.le_ediv_iff_mul_le ho).2 (by omega)
   have hw:=cntW_le w l o (X/o) (X%o)
   obtain ⟨k',w',l',e1,e2,e3,e4,e5,e6⟩:=ih (k+1) _ _ h.step (by omega) (by omega) (fun j j0 j1 u hu2=>by
    by_cases e:j=k
    ·subst e
     have h1:=h.up
     refine Int.not_le.1 fun hc=>c ?_
     have:u<=upC w l:=by
      refine Int.not_lt.1 fun hlt=> ?_
      have:=Int.mul_le_mul_of_nonneg_left (show upC w l+1<=u by omega) (show 0<=o by omega)
      rw [Int.mul_add,Int.mul_one] at this
      omega
     omega
    ·exact hm j j0 (by omega) u hu2) (by omega)
   exact ⟨k',w',l',e1,e2,e3,by omega,e5,e6⟩
def GrpAt (E P:Int) (s:Stp) (dl:Int):Prop:= ∃k:Int,0<=k/\ CntAt P (P-E) k s.gw s.gl/\ ∀j:Int,0<=j->j<k-> ∀u:Int,(P-E)*u<j*P+(P-E)->u<dl
structure StAt (E P:Int) (n:Nat) (s:Stp):Prop where
 hE:s.E=E
 hP:s.P=P
 idx:s.idx=n
 whole:s.whole=P/E
 rest:s.rest=P%E
 eo:s.eo=E
 end':CntAt P E n s.ew s.el
 grp:P<=2*E->E<P->s.go=P-E/\ s.long=P/(P-E)/\ s.part=P%(P-E)/\ 0<=s.gw/\ s.gw<=2305843009213693952/\ GrpAt E P s (upC s.ew s.el)
 nog: ¬(P<=2*E/\ E<P)->noG s=true
theorem wheavy_of {e p:Int} (h:Wt e p):windowHeavy e p=decide (p<=2*e):=by
 obtain ⟨h1,h2,h3⟩:=id h
 unfold windowHeavy
 rw [wcheck_of h,wrap_id (by omega) (by omega)]
 simp only
 by_cases hp:p<=2*e
 ·rw [decide_eq_true hp];exact decide_eq_true (by omega)
 ·rw [decide_eq_false hp];exact decide_eq_false (by omega)
theorem st0_at {E P:Int} (h:Wt E P):StAt E P 0 (st0 E P 0):=by
 obtain ⟨h1,h2,h3⟩:=id h
 have d1:=div_bounds h1 h2 h3
 have w1:IntKind.i64.wrap (P.tdiv E)=P.tdiv E:=wrap_id (by omega) (by omega)
 have w2:IntKind.i64.wrap (P-E)=P-E:=wrap_id (by omega) (by omega)
 refine ⟨rfl,rfl,rfl, ?_, ?_,rfl,⟨by simp [st0],by simp [st0],by simp [st0];omega⟩,fun hh hl=> ?_,fun hn=> ?_⟩
 ·show IntKind.i64.wrap (P.tdiv E)=_
  rw [w1,Int.tdiv_eq_ediv_of_nonneg (by omega)]
 ·show P.tmod E=_
  rw [Int.tmod_eq_emod_of_nonneg (by omega)]
 ·have hl0:light0 E P=true:=by
   unfold light0
   rw [wheavy_of h,w2,decide_eq_true hh,decide_eq_true (show P-E>0 by omega)];rfl
  have d2:=div_bounds (a:=P) (b:=P-E) (by omega) (by omega) h3
  have w3:IntKind.i64.wrap (P.tdiv (P-E))=P.tdiv (P-E):=wrap_id (by omega) (by omega)
  refine ⟨by simp [st0,hl0,w2], ?_, ?_,by simp [st0],by simp [st0],0,Int.le_refl _,⟨by simp [st0],by simp [st0],by simp [st0];omega⟩,fun j j0 j1=>by omega⟩
  ·simp only [st0,hl0,w2,w3,cond_true]
   rw [Int.tdiv_eq_ediv_of_nonneg (by omega)]
  ·simp only [st0,hl0,w2,cond_true]
   rw [Int.tmod_eq_emod_of_nonneg (by omega)]
 ·have hl0:light0 E P=false:=by
   unfold light0
   rw [wheavy_of h,w2]
   by_cases c:P<=2*E
   ·rw [decide_eq_true c,decide_eq_false (show ¬P-E>0 by omega)];rfl
   ·rw [decide_eq_false c];rfl
  simp [noG,st0,hl0]
theorem floor_unique {o a x y:Int} (ho:0<o) (hx:o*x<=a/\ a<o*x+o) (hy:o*y<=a/\ a<o*y+o):x=y:=by
 refine Int.le_antisymm (Int.not_lt.1 fun h=> ?_) (Int.not_lt.1 fun h=> ?_)
 ·have:=Int.mul_le_mul_of_nonneg_left (show y+1<=x by omega) (show 0<=o by omega)
  rw [Int.mul_add,Int.mul_one] at this
  omega
 ·have:=Int.mul_le_mul_of_nonneg_left (show x+1<=y by omega) (show 0<=o by omega)
  rw [Int.mul_add,Int.mul_one] at this
  omega
def winS (E P i:Int):Sub:=⟨i,ref04Release E P i,ref04Deadline E P i,ref04Bit E P i,ref04Group E P i⟩
theorem adv_at {E P:Int} (h:Wt E P) {n:Nat} (hn:n<1099511627776) {s:Stp} (hs:StAt E P n s):AdvP s/\ StAt E P (n+1) (advN s)/\ (advN s).sub=winS E P ((n+1:Nat):Int)/\ (advN s).off=s.off:=by
 obtain ⟨h1,h2,h3⟩:=id h
 have hi:Num ((n+1:Nat):Int):=⟨by omega,by omega⟩
 obtain ⟨bb1,bb2,bb3,bb4⟩:=ip_bound h hi
 have enp:(n:Int)*P=((n+1:Nat):Int)*P-P:=by rw [Int.natCast_add,Int.add_mul];simp
 have hend:=hs.end'
 have hst:=hend.step
 rw [show (n:Int)+1=((n+1:Nat):Int) from rfl] at hst
 have hup:=hst.up
 have hup0:=hend.up
 have hq:=Int.emod_nonneg P (b:=E) (by omega)
 have hq2:=Int.emod_lt_of_pos P (show 0<E by omega)
 have hd0:0<=P/E:=Int.ediv_nonneg (by omega) (by omega)
 have hd1:P/E<=P:=Int.ediv_le_self E (by omega)
 have hew0:0<=s.ew:=by
  refine Int.not_lt.1 fun hc=> ?_
  have:=Int.mul_le_mul_of_nonneg_right (show s.ew<= -1 by omega) (show 0<=E by omega)
  have:=hend.eq;have:=hend.l1
  omega
 have hew1:s.ew<=1152921504606846976:=by
  have:s.ew*1<=s.ew*E:=Int.mul_le_mul_of_nonneg_left h1 hew0
  have:=hend.eq;have:=hend.l0
  omega
 have hcw:=cntW_le s.ew s.el E (P/E) (P%E)
 --release,deadline
 have hrel:s.ew=ref04Release E P ((n+1:Nat):Int):=by
  obtain ⟨r1,r2⟩:=release_of h hi
  refine floor_unique (o:=E) (a:=(n:Int)*P) (by omega) ⟨?_, ?_⟩ ⟨by omega,by omega⟩
  ·have:=hend.eq;have:=hend.l0;rw [Int.mul_comm];omega
  ·have:=hend.eq;have:=hend.l1;rw [Int.mul_comm E];omega
 have hdead:deadS s=ref04Deadline E P ((n+1:Nat):Int):=by
  unfold deadS
  rw [hs.eo,hs.whole,hs.rest]
  exact up_unique (by omega) hup (deadline_of h hi)
 have hbit:deadS s-cntW s.ew s.el s.eo s.whole s.rest=ref04Bit E P ((n+1:Nat):Int):=by
  rw [hs.eo,hs.whole,hs.rest]
  have hdd:=hdead
  have hds:deadS s=upC (cntW s.ew s.el E (P/E) (P%E)) (cntL s.el E (P%E)):=by unfold deadS;rw [hs.eo,hs.whole,hs.rest]
  obtain ⟨e1,e2,e3⟩:=hst
  rw [hds] at hdd ⊢
  generalize cntW s.ew s.el E (P/E) (P%E)=W at*
  generalize cntL s.el E (P%E)=l at*
  unfold upC at hdd ⊢
  rcases bit_of h hi with ⟨b1,b2⟩|⟨b1,b2,_⟩
  ·rw [b1]
   rw [←hdd] at b2
   by_cases c:l>0
   ·exfalso
    rw [decide_eq_true c] at b2
    simp only [cond_true] at b2
    rw [Int.mul_add,Int.mul_one,Int.mul_comm E W] at b2
    omega
   ·rw [decide_eq_false c];simp
  ·rw [b1]
   rw [←hdd] at b2
   by_cases c:l>0
   ·rw [decide_eq_true c];simp only [cond_true];omega
   ·exfalso
    rw [decide_eq_false c] at b2
    simp only [cond_false] at b2
    rw [Int.mul_comm E W] at b2
    omega
 have hidx: ¬s.idx+1>1099511627776:=by rw [hs.idx];omega
 have hdl0:upC s.ew s.el<=deadS s:=by
  have:=up_le s.ew s.el
  unfold deadS
  rw [hs.eo,hs.whole,hs.rest]
  refine Int.not_lt.1 fun hc=> ?_
  have:=Int.mul_le_mul_of_nonneg_left (show upC (cntW s.ew s.el E (P/E) (P%E)) (cntL s.el E (P%E))+1<=upC s.ew s.el by omega) (show 0<=E by omega)
  rw [Int.mul_add,Int.mul_one] at this
  omega
 obtain ⟨dd1,dd2⟩:=deadline_bound h hi
 --the group
 have hgrp:(P<=2*E->E<P-> ∃k w l,advG s=(w,l)/\ 0<=k/\ CntAt P (P-E) k w l/\ 0<=w/\ w<=2305843009213693952/\ upC w l=ref04Group E P ((n+1:Nat):Int)/\ ∀j:Int,0<=j->j<k-> ∀u:Int,(P-E)*u<j*P+(P-E)->u<deadS s):=by
  intro hv hne
  obtain ⟨g1,g2,g3,g4,g5,k,k0,gk,gm⟩:=hs.grp hv hne
  have hnog:noG s=false:=by
   unfold noG
   rw [g1,show (P-E==0)=false from beq_eq_false_iff_ne.2 (by omega)]
   simp
  have hEP:(s.E==s.P)=false:=by rw [hs.hE,hs.hP];exact beq_eq_false_iff_ne.2 (by omega)
  obtain ⟨k',w',l',e1,e2,e3,e4,e5,e6⟩:=grp_at (X:=P) (o:=P-E) (dl:=deadS s) (by omega) (by omega) (deadS s-s.gw).toNat k s.gw s.gl gk g4 (by omega) (fun j j0 j1 u hu=>by have:=gm j j0 j1 u hu;omega) k0
  have hadv:advG s=(w',l'):=by
   unfold advG
   rw [hEP,hnog]
   simp only [cond_false]
   rw [g2,g3,g1]
   exact e1
  --k' is the document's
  obtain ⟨s1,s2,s3,s4,s5,s6⟩:=gstar_of h hi hv hne rfl
  have hu':=e2.up
  have hgs:k'=gstar E P (ref04Deadline E P ((n+1:Nat):Int)):=by
   rw [hdead] at e5 e6
   generalize ref04Deadline E P ((n+1:Nat):Int)=d at*
   generalize gstar E P d=g at*
   have a1:(P-E)*d<=(P-E)*upC w' l':=Int.mul_le_mul_of_nonneg_left e5 (by omega)
   have a2:(d-1)*(P-E)=(P-E)*d-(P-E):=by rw [Int.sub_mul,Int.one_mul,Int.mul_comm]
   have a3:(d-1)*(P-E)<P*k':=by rw [Int.mul_comm P k'];omega
   refine Int.le_antisymm (Int.not_lt.1 fun hc=> ?_) (Int.not_lt.1 fun hc=> ?_)
   ·--k'-1 is too much
    have b1:=e6 (k'-1) (by omega) (by omega) (((k'-1)*P+(P-E)-1)/(P-E)) (by
     have:=Int.mul_ediv_self_le (x:=(k'-1)*P+(P-E)-1) (k:=P-E) (by omega)
     omega)
    have b2:=Int.lt_mul_ediv_self_add (x:=(k'-1)*P+(P-E)-1) (k:=P-E) (by omega)
    have b3:=Int.mul_le_mul_of_nonneg_left (show ((k'-1)*P+(P-E)-1)/(P-E)<=d-1 by omega) (show 0<=P-E by omega)
    rw [Int.mul_comm (P-E) (d-1)] at b3
    have b4:=Int.mul_le_mul_of_nonneg_right (show g<=k'-1 by omega) (show 0<=P by omega)
    rw [Int.mul_comm g P] at b4
    omega
   ·have b1:=Int.mul_le_mul_of_nonneg_left (show k'<=g-1 by omega) (show 0<=P by omega)
    omega
  have hG:ref04Group E P ((n+1:Nat):Int)=ref04Up (gstar E P (ref04Deadline E P ((n+1:Nat):Int))*P) (P-E):=by
   unfold ref04Group
   rw [if_pos ⟨number_of h hi,by rw [heavy_of h];exact decide_eq_true hv⟩,if_neg (by omega)]
  have hGe:upC w' l'=ref04Group E P ((n+1:Nat):Int):=by
   rw [hG,←hgs]
   refine up_unique (o:=P-E) (by omega) hu' ?_
   rw [hgs]
   exact up_of (Int.mul_nonneg (by omega) (by omega)) (by rw [Int.mul_comm];omega) (by omega) (by omega)
  obtain ⟨q1,q2⟩:=gend_of h hi hv hne rfl hG.symm
  obtain ⟨r1,r2⟩:=release_bound h hi
  have:=up_le w' l'
  exact ⟨k',w',l',hadv,by omega,e2,e3,by omega,hGe,e6⟩
 refine ⟨⟨⟨by rw [hs.idx];omega,by rw [hs.idx];omega⟩,⟨hew0,by omega⟩,⟨by rw [hs.whole];omega,by rw [hs.whole];omega⟩,⟨hend.l0,by have:=hend.l1;omega⟩,⟨by rw [hs.rest];omega,by rw [hs.rest];omega⟩,⟨by rw [hs.eo];omega,by rw [hs.eo];omega⟩, ?_⟩, ?_⟩
 ·by_cases c:P<=2*E/\ E<P
  ·obtain ⟨g1,g2,g3,g4,g5,k,k0,gk,gm⟩:=hs.grp c.1 c.2
   have p0:=Int.emod_nonneg P (b:=P-E) (by omega)
   have p1:=Int.emod_lt_of_pos P (show 0<P-E by omega)
   have p2:1<=P/(P-E):=(Int.le_ediv_iff_mul_le (by omega)).2 (by omega)
   have p3:P/(P-E)<=P:=Int.ediv_le_self _ (by omega)
   have:=gk.l0
   have:=gk.l1
   exact ⟨⟨g4,by omega⟩,⟨gk.l0,by omega⟩,⟨by omega,by omega⟩,fun _=>⟨⟨by omega,by omega⟩,by omega,by omega,by omega⟩⟩
  ·have hz:=hs.nog c
   unfold noG at hz
   simp only [Bool.and_eq_true,beq_iff_eq,and_true] at hz
   obtain ⟨z1,z2,z3⟩:=hz
   refine ⟨by omega,by omega,by omega,fun hc=> ?_⟩
   rw [hs.nog c] at hc;cases hc
 ·have hadvN:advN s= { s with idx:=s.idx+1,ew:=cntW s.ew s.el s.eo s.whole s.rest,el:=cntL s.el s.eo s.rest,gw:=(advG s).1,gl:=(advG s).2,sub:=advX s }:=by
   unfold advN;rw [decide_eq_false hidx];rfl
  have hX:advX s=⟨s.idx+1,s.ew,deadS s,deadS s-cntW s.ew s.el s.eo s.whole s.rest,bif s.E==s.P then deadS s else bif noG s then 0 else upC (advG s).1 (advG s).2⟩:=by
   unfold advX;rw [decide_eq_false hidx];rfl
  refine ⟨?_, ?_,by rw [hadvN]⟩
  ·rw [hadvN]
   have hgstay: ¬(P<=2*E/\ E<P)->advG s=(s.gw,s.gl):=by
    intro hc
    unfold advG
    rw [hs.nog hc]
    cases s.E==s.P<;>rfl
   refine ⟨hs.hE,hs.hP,by show s.idx+1=_;rw [hs.idx];rfl,hs.whole,hs.rest,hs.eo, ?_,fun hv hne=> ?_,fun hc=> ?_⟩
   ·show CntAt P E _ (cntW s.ew s.el s.eo s.whole s.rest) (cntL s.el s.eo s.rest)
    rw [hs.eo,hs.whole,hs.rest]
    exact hst
   ·obtain ⟨g1,g2,g3,g4,g5,_⟩:=hs.grp hv hne
    obtain ⟨k,w',l',e1,k0,e2,e3,e4,e5,e6⟩:=hgrp hv hne
    rw [e1]
    exact ⟨g1,g2,g3,e3,e4,k,k0,e2,e6⟩
   ·have hz:=hs.nog hc
    unfold noG at hz ⊢
    rw [hgstay hc]
    exact hz
  ·rw [hadvN]
   show advX s=_
   rw [hX,hs.idx]
   unfold winS
   rw [hbit,hrel,hdead]
   congr 1
   rw [hs.hE,hs.hP]
   by_cases c:E=P
   ·rw [show (E==P)=true from beq_iff_eq.2 c]
    unfold ref04Group
    rw [if_pos ⟨number_of h hi,by rw [heavy_of h];exact decide_eq_true (by omega)⟩,if_pos c]
    rfl
   ·rw [show (E==P)=false from beq_eq_false_iff_ne.2 c]
    simp only [cond_false]
    by_cases hv:P<=2*E
    ·obtain ⟨k,w',l',e1,k0,e2,e3,e4,e5,e6⟩:=hgrp hv (by omega)
     obtain ⟨g1,_⟩:=hs.grp hv (by omega)
     have hnog:noG s=false:=by
      unfold noG
      rw [g1,show (P-E==0)=false from beq_eq_false_iff_ne.2 (by omega)]
      simp
     rw [hnog,e1]
     exact e5
    ·rw [hs.nog (by omega)]
     unfold ref04Group
     rw [if_neg (by rw [heavy_of h,decide_eq_false hv];simp)]
     rfl
def offS (E P i off:Int):Sub:=⟨i,ref04Release E P i+off,ref04Deadline E P i+off,ref04Bit E P i,bif decide (ref04Group E P i>0) then ref04Group E P i+off else ref04Group E P i⟩
theorem group_bound {E P i:Int} (h:Wt E P) (hi:Num i):0<=ref04Group E P i/\ ref04Group E P i<=1152921504607895552:=by
 obtain ⟨h1,h2,h3⟩:=id h
 obtain ⟨r1,r2⟩:=release_bound h hi
 obtain ⟨d1,d2⟩:=deadline_bound h hi
 by_cases hv:P<=2*E
 ·by_cases hep:E=P
  ·have:ref04Group E P i=ref04Deadline E P i:=by
    unfold ref04Group
    rw [if_pos ⟨number_of h hi,by rw [heavy_of h];exact decide_eq_true hv⟩,if_pos hep]
   omega
  ·have hG:ref04Group E P i=ref04Up (gstar E P (ref04Deadline E P i)*P) (P-E):=by
    unfold ref04Group
    rw [if_pos ⟨number_of h hi,by rw [heavy_of h];exact decide_eq_true hv⟩,if_neg hep]
   obtain ⟨q1,q2⟩:=gend_of h hi hv (by omega) rfl hG.symm
   omega
 ·have:ref04Group E P i=0:=by
   unfold ref04Group
   rw [if_neg (by rw [heavy_of h,decide_eq_false hv];simp)]
  omega
theorem of_off {E P i off:Int} (h:Wt E P) (hi:Num i) (h0:0<=off) (h1:off<=1152921504606846976):ref04OfPre E P i off=true/\ ofS E P i off=offS E P i off:=by
 obtain ⟨r1,r2⟩:=release_bound h hi
 obtain ⟨d1,d2⟩:=deadline_bound h hi
 obtain ⟨g1,g2⟩:=group_bound h hi
 have w:IntKind.i64.wrap (4611686018427387904-off)=4611686018427387904-off:=wrap_id (by omega) (by omega)
 unfold ofS offS
 unfold ref04OfPre ref04OfC0 ref04OfC1 ref04OfC2 ref04OfC3 ref04OfC4
 rw [number_of h hi,deadline_pre_of h hi,release_pre_of h hi,bit_pre_of h hi,w,decide_eq_false (show ¬off<0 by omega),decide_eq_false (show ¬off>4611686018427387904 by omega),decide_eq_false (show ¬ref04Deadline E P i>4611686018427387904-off by omega),
  decide_eq_false (show ¬ref04Group E P i>4611686018427387904-off by omega),wrap_id (n:=ref04Release E P i+off) (by omega) (by omega),wrap_id (n:=ref04Deadline E P i+off) (by omega) (by omega),wrap_id (n:=ref04Group E P i+off) (by omega) (by omega)]
 by_cases hp:ref04Group E P i>0
 ·rw [decide_eq_true hp]
  exact ⟨rfl,rfl⟩
 ·rw [decide_eq_false hp,show ref04Group E P i=0 by omega]
  exact ⟨rfl,rfl⟩
structure StepOk (E P off:Int) (n:Nat) (s:Stp):Prop where
 at_:StAt E P n s
 sub:s.sub=winS E P n
 off:s.off=off
theorem StepOk.peek {E P off:Int} {n:Nat} {s:Stp} (hs:StepOk E P off n s) (h:Wt E P) (hi:Num n) (h0:0<=off) (h1:off<=1152921504606846976):peekS s=offS E P n off:=by
 obtain ⟨r1,r2⟩:=release_bound h hi
 obtain ⟨d1,d2⟩:=deadline_bound h hi
 obtain ⟨g1,g2⟩:=group_bound h hi
 unfold peekS
 rw [hs.sub,hs.off]
 unfold winS offS addW
 dsimp only
 rw [show ((n:Int)==0)=false from beq_eq_false_iff_ne.2 (by have:=hi.1;omega)]
 simp only [cond_false]
 rw [wrap_id (n:=ref04Release E P n+off) (by omega) (by omega),wrap_id (n:=ref04Deadline E P n+off) (by omega) (by omega),wrap_id (n:=ref04Group E P n+off) (by omega) (by omega)]
def offN (E P at1 off i:Int):Int:=if ref04Release E P i+off<at1 then at1-ref04Release E P i else off
theorem offN_bound {E P at1 off i:Int} (h:Wt E P) (hi:Num i) (h0:0<=off) (h1:off<=1099511627776) (a1:at1<=1099511627776):0<=offN E P at1 off i/\ offN E P at1 off i<=1099511627776/\ off<=offN E P at1 off i/\ at1<=ref04Release E P i+offN E P at1 off i:=by
 obtain ⟨r1,r2⟩:=release_bound h hi
 unfold offN
 split<;>omega
theorem StepOk.arr1 {E P off at1:Int} {n:Nat} {s:Stp} (hs:StepOk E P off n s) (h:Wt E P) (hi:Num n) (h0:0<=off) (h1:off<=1099511627776) (a0:0<=at1) (a1:at1<=1099511627776):StepOk E P (offN E P at1 off n) n (arr1 at1 s):=by
 obtain ⟨r1,r2⟩:=release_bound h hi
 have hpk:=hs.peek h hi h0 (by omega)
 obtain ⟨hb0,hb1,hb2,hb3⟩:=offN_bound h hi h0 h1 a1
 have hP:(s.P==0)=false:=by
  rw [hs.at_.hP]
  exact beq_eq_false_iff_ne.2 (by have:=h.1;have:=h.2.1;omega)
 have hl:lateT at1 s=offN E P at1 off n-off:=by
  unfold lateT offN
  rw [hpk]
  unfold offS
  dsimp only
  rw [wrap_id (n:=at1-(ref04Release E P n+off)) (by omega) (by omega)]
  split<;>split<;>omega
 have hw:IntKind.i64.wrap (2305843009213693952-s.off)=2305843009213693952-off:=by rw [hs.off,wrap_id (by omega) (by omega)]
 have hsb:shiftB s (lateT at1 s)=true:=by
  unfold shiftB
  rw [hP,hl,hw,decide_eq_false (by omega),decide_eq_false (by omega)];rfl
 have he:Go.Proofs.YtlfjbnflfdnoaaaGreat.arr1 at1 s= { s with off:=offN E P at1 off n }:=by
  unfold Go.Proofs.YtlfjbnflfdnoaaaGreat.arr1 shiftS
  rw [hsb]
  simp only [cond_true]
  unfold addW
  rw [hl,hs.off,show off+(offN E P at1 off n-off)=offN E P at1 off n by omega,wrap_id (by omega) (by omega)]
 rw [he]
 exact ⟨⟨hs.at_.hE,hs.at_.hP,hs.at_.idx,hs.at_.whole,hs.at_.rest,hs.at_.eo,hs.at_.end',hs.at_.grp,hs.at_.nog⟩,hs.sub,rfl⟩
theorem StepOk.next {E P off:Int} {n:Nat} {s:Stp} (hs:StepOk E P off n s) (h:Wt E P) (hi:Num n) (hn:n<1099511627776) (h0:0<=off) (h1:off<=1152921504606846976):AdvP s/\ StepOk E P off (n+1) (nextS s):=by
 obtain ⟨a,b,c,d⟩:=adv_at h hn hs.at_
 refine ⟨a, ?_⟩
 have hpk:=hs.peek h hi h0 h1
 have:decide ((peekS s).Index>0)=true:=by
  rw [hpk]
  unfold offS
  exact decide_eq_true (by have:=hi.1;dsimp only;omega)
 unfold nextS
 rw [this]
 exact ⟨b,c,by rw [cond_true,d,hs.off]⟩
theorem newSt_ok {E P off:Int} (h:Wt E P):StepOk E P off 1 (advN (st0 E P off)):=by
 have h0:=st0_at h
 have he:st0 E P off= { st0 E P 0 with off:=off }:=rfl
 have h2:StAt E P 0 (st0 E P off):=by
  rw [he]
  exact ⟨h0.hE,h0.hP,h0.idx,h0.whole,h0.rest,h0.eo,h0.end',h0.grp,h0.nog⟩
 obtain ⟨a,b,c,d⟩:=adv_at h (n:=0) (by omega) h2
 exact ⟨b,c,d⟩
theorem arr_eq {E P at1:Int} (h:Wt E P) (a0:0<=at1) (a1:at1<=1099511627776) {s:Stp} {off:Int} {n:Nat} (hs:StepOk E P off n s) (hn1:1<=n) (h0:0<=off) (h1:off<=1099511627776):
  ∀k:Nat,n+k<1099511627776-> ∃o,StepOk E P o (n+k) (arrS at1 k s)/\ raS at1 E P k (off,(n:Int)-1)=(o,(n:Int)-1+k)/\ (0<=o/\ o<=1099511627776/\ off<=o)/\ arrL at1 k s=raL at1 E P k (off,(n:Int)-1)∧
   AdvP (arr1 at1 (arrS at1 k s))/\ raP at1 E P (raS at1 E P k (off,(n:Int)-1))/\ peekS (arr1 at1 (arrS at1 k s))=offS E P ((n+k:Nat):Int) (offN E P at1 o ((n+k:Nat):Int))/\ raX at1 E P (raS at1 E P k (off,(n:Int)-1))=offS E P ((n+k:Nat):Int) (offN E P at1 o ((n+k:Nat):Int)):=by
 have key: ∀(o:Int) (j:Nat) (t:Stp),StepOk E P o j t->1<=j->j<1099511627776->0<=o->o<=1099511627776->AdvP (arr1 at1 t)/\ StepOk E P (offN E P at1 o j) (j+1) (nextS (arr1 at1 t))/\ peekS (arr1 at1 t)=offS E P j (offN E P at1 o j)/\ raP at1 E P (o,(j:Int)-1)/\ raX at1 E P (o,(j:Int)-1)=offS E P j (offN E P at1 o j)/\ raOff at1 E P (o,(j:Int)-1)=offN E P at1 o j:=by
  intro o j t ht hj1 hj2 ho0 ho1
  have hi:Num (j:Int):=⟨by omega,by omega⟩
  obtain ⟨hb0,hb1,hb2,hb3⟩:=offN_bound h hi ho0 ho1 a1 (at1:=at1)
  obtain ⟨r1,r2⟩:=release_bound h hi
  have h2:=ht.arr1 h hi ho0 ho1 a0 a1
  obtain ⟨k1,k2⟩:=h2.next h hi hj2 hb0 (by omega)
  have hw:IntKind.i64.wrap ((j:Int)-1+1)=(j:Int):=by rw [show (j:Int)-1+1=j by omega,wrap_id (by omega) (by omega)]
  obtain ⟨p1,p2⟩:=of_off h hi ho0 (by omega) (off:=o)
  obtain ⟨p3,p4⟩:=of_off h hi hb0 (by omega) (off:=offN E P at1 o j)
  have hro:raOff at1 E P (o,(j:Int)-1)=offN E P at1 o j:=by
   unfold raOff
   dsimp only
   rw [hw,p2]
   unfold offS offN
   dsimp only
   by_cases c:ref04Release E P j+o<at1
   ·rw [decide_eq_true c,if_pos c,wrap_id (n:=o+at1) (by omega) (by omega)]
    simp only [cond_true]
    rw [wrap_id (by omega) (by omega)]
    omega
   ·rw [decide_eq_false c,if_neg c];rfl
  refine ⟨k1,k2,h2.peek h hi hb0 (by omega),⟨?_, ?_⟩, ?_,hro⟩
  ·dsimp only;rw [hw];exact p1
  ·dsimp only;rw [hw,hro];exact p3
  ·unfold raX
   dsimp only
   rw [hw,hro]
   exact p4
 intro k
 induction k with
 |zero=>
  intro hk
  obtain ⟨q1,q2,q3,q4,q5,q6⟩:=key off n s hs hn1 (by omega) h0 h1
  exact ⟨off,hs,by show (off,(n:Int)-1)=_;rw [show ((0:Nat):Int)=0 from rfl,Int.add_zero],⟨h0,h1,Int.le_refl _⟩,rfl,q1,q4,q3,q5⟩
 |succ k ih=>
  intro hk
  obtain ⟨o,c1,c2,⟨c3,c4,c5⟩,c6,c7,c8,c9,c10⟩:=ih (by omega)
  obtain ⟨q1,q2,q3,q4,q5,q6⟩:=key o (n+k) _ c1 (by omega) (by omega) c3 c4
  have hi:Num ((n+k:Nat):Int):=⟨by omega,by omega⟩
  obtain ⟨hb0,hb1,hb2,hb3⟩:=offN_bound h hi c3 c4 a1 (at1:=at1)
  have e1:((n+k:Nat):Int)-1=(n:Int)-1+k:=by omega
  rw [e1] at q4 q5 q6
  have hS:StepOk E P (offN E P at1 o ((n+k:Nat):Int)) (n+(k+1)) (arrS at1 (k+1) s):=q2
  have hR:raS at1 E P (k+1) (off,(n:Int)-1)=(offN E P at1 o ((n+k:Nat):Int),(n:Int)-1+((k+1:Nat):Int)):=by
   simp only [raS]
   rw [c2]
   dsimp only
   rw [q6,wrap_id (by omega) (by omega)]
   congr 1
   omega
  obtain ⟨s1,s2,s3,s4,s5,s6⟩:=key _ (n+(k+1)) _ hS (by omega) (by omega) hb0 hb1
  have e2:((n+(k+1):Nat):Int)-1=(n:Int)-1+((k+1:Nat):Int):=by omega
  rw [e2] at s4 s5 s6
  refine ⟨_,hS,hR,⟨hb0,hb1,by omega⟩, ?_,s1,by rw [hR];exact s4,s3,by rw [hR];exact s5⟩
  simp only [arrL,raL]
  rw [c6,c9,c10]
structure AOk (L:List Runner) (m:Int) (p:Pl):Prop where
 l1:p.1.length=L.length
 l2:p.2.length=1024
 rng: ∀i:Nat,i<L.length->at' (0:Int) p.1 (i:Int)= -1 \/(0<=at' (0:Int) p.1 (i:Int)/\ at' (0:Int) p.1 (i:Int)<m)
 flag: ∀i:Nat,i<L.length->at' (0:Int) p.1 (i:Int)≠ -1->at' false p.2 (at' (0:Int) p.1 (i:Int))=true
 inj: ∀i j:Nat,i<L.length->j<L.length->at' (0:Int) p.1 (i:Int)=at' (0:Int) p.1 (j:Int)->at' (0:Int) p.1 (i:Int)≠ -1->i=j
theorem at_set_eq' {α:Type} {z:α} {l:List α} {i:Int} {a:α} (h0:0<=i) (h:i<l.length):at' z (l.set i.toNat a) i=a:=by
 have:=at_set_eq (z:=z) (l:=l) (i:=i.toNat) (a:=a) (by omega)
 rw [show ((i.toNat:Nat):Int)=i by omega] at this
 exact this
theorem AOk.tk {L:List Runner} {m:Int} {p:Pl} (h:AOk L m p) (hm:m<=1024) {x:Nat} {c:Int} (hx:x<L.length) (hc: -1<=c/\ c<m):AOk L m (tk (x:Int) c p):=by
 unfold Go.Proofs.YtlfjbnflfdnoaaaGreat.tk
 cases hb:tkB (x:Int) c p
 ·exact h
 ·unfold tkB at hb
  simp only [Bool.and_eq_true,bne_iff_ne,beq_iff_eq,Bool.not_eq_true'] at hb
  obtain ⟨⟨b1,b2⟩,b3⟩:=hb
  have hxl:x<p.1.length:=by rw [h.l1];exact hx
  have key: ∀i:Nat,at' (0:Int) (p.1.set x c) (i:Int)=if i=x then c else at' (0:Int) p.1 (i:Int):=fun i=>by
   by_cases e:i=x
   ·subst e;rw [if_pos rfl];exact at_set_eq hxl
   ·rw [if_neg e];exact at_set_ne (by omega) (by omega)
  have kf: ∀d:Int,0<=d->at' false (p.2.set c.toNat true) d=if d=c then true else at' false p.2 d:=fun d hd=>by
   by_cases e:d=c
   ·subst e;rw [if_pos rfl];exact at_set_eq' hd (by rw [h.l2];omega)
   ·rw [if_neg e];exact at_set_ne (by omega) hd
  simp only [cond_true,Int.toNat_natCast]
  refine ⟨by simpa using h.l1,by simpa using h.l2,fun i hi=> ?_,fun i hi hne=> ?_,fun i j hi hj hij hne=> ?_⟩
  ·dsimp only
   rw [key]
   split
   ·exact .inr ⟨by omega,hc.2⟩
   ·exact h.rng i hi
  ·dsimp only at hne ⊢
   rw [key] at hne ⊢
   by_cases e:i=x
   ·rw [if_pos e] at hne ⊢
    rw [kf _ (by omega),if_pos rfl]
   ·rw [if_neg e] at hne ⊢
    have:=h.rng i hi
    rw [kf _ (by omega)]
    split
    ·rfl
    ·exact h.flag i hi hne
  ·dsimp only at hij hne
   rw [key,key] at hij
   rw [key] at hne
   by_cases e:i=x
   ·rw [if_pos e] at hij hne
    by_cases e':j=x
    ·omega
    ·rw [if_neg e'] at hij
     have:=h.flag j hj (by rw [←hij];exact hne)
     rw [←hij,b3] at this;cases this
   ·rw [if_neg e] at hij hne
    by_cases e':j=x
    ·rw [if_pos e'] at hij
     have:=h.flag i hi hne
     rw [hij,b3] at this;cases this
    ·rw [if_neg e'] at hij
     exact h.inj i j hi hj hij hne
theorem tk_keep {x:Nat} {c:Int} {p:Pl} {i:Nat} (h:at' (0:Int) p.1 (i:Int)≠ -1):at' (0:Int) (tk (x:Int) c p).1 (i:Int)=at' (0:Int) p.1 (i:Int):=by
 unfold tk
 cases hb:tkB (x:Int) c p
 ·rfl
 ·unfold tkB at hb
  simp only [Bool.and_eq_true,bne_iff_ne,beq_iff_eq,Bool.not_eq_true'] at hb
  simp only [cond_true,Int.toNat_natCast]
  refine at_set_ne (fun e=> ?_) (by omega)
  have:i=x:=by omega
  subst this
  exact h hb.1.2
theorem AOk.p0 (L:List Runner) (m:Int):AOk L m (P0 L.length):=by
 have e: ∀i:Nat,i<L.length->at' (0:Int) (List.replicate L.length (-1:Int)) (i:Int)= -1:=fun i hi=>by
  rw [at_nat (by simpa using hi)];simp
 exact ⟨List.length_replicate,List.length_replicate,fun i hi=> .inl (e i hi),fun i hi hne=>absurd (e i hi) hne,fun i j hi hj _ hne=>absurd (e i hi) hne⟩
theorem AOk.ps1 {L:List Runner} {m:Int} (hm:m<=1024) (h: ∀r∈L,-1<=r.Pin/\ r.Pin<m): ∀x,x<=L.length->AOk L m (ps1 L x (P0 L.length))
 |0,_=>AOk.p0 L m
 |x+1,hx=>by
  have hx':x<L.length:=hx
  simp only [Go.Proofs.YtlfjbnflfdnoaaaGreat.ps1]
  rw [at_nat hx']
  exact (AOk.ps1 hm h x (by omega)).tk hm hx' (h _ (List.getElem_mem hx'))
theorem AOk.ps2 {L:List Runner} {m:Int} (hm:m<=1024) (h: ∀r∈L,-1<=r.Last/\ r.Last<m) {p:Pl} (hp:AOk L m p): ∀x,x<=L.length->AOk L m (ps2 L x p)
 |0,_=>hp
 |x+1,hx=>by
  have hx':x<L.length:=hx
  simp only [Go.Proofs.YtlfjbnflfdnoaaaGreat.ps2]
  rw [at_nat hx']
  exact (AOk.ps2 hm h hp x (by omega)).tk hm hx' (h _ (List.getElem_mem hx'))
theorem AOk.ps3 {L:List Runner} {m:Int} (hm:m<=1024) (hl:(L.length:Int)<=m) {p:Pl} (hp:AOk L m p) (hpl:PlOk L.length p): ∀x,x<=L.length->AOk L m (ps3 x (p,0)).1/\ (∀i:Nat,i<x->at' (0:Int) (ps3 x (p,0)).1.1 (i:Int)≠ -1)/\ ∀i:Nat,at' (0:Int) p.1 (i:Int)≠ -1->at' (0:Int) (ps3 x (p,0)).1.1 (i:Int)=at' (0:Int) p.1 (i:Int)
 |0,_=>⟨hp,fun i hi=>absurd hi (Nat.not_lt_zero _),fun i _=>rfl⟩
 |x+1,hx=>by
  obtain ⟨i1,i2,i3⟩:=AOk.ps3 hm hl hp hpl x (by omega)
  have h3:=P3Ok.all3 hpl (show L.length<=1024 by omega) x (by omega)
  have hxl:x<(Go.Proofs.YtlfjbnflfdnoaaaGreat.ps3 x (p,0)).1.1.length:=by rw [h3.ok.l1];exact hx
  by_cases ho:at' (0:Int) (Go.Proofs.YtlfjbnflfdnoaaaGreat.ps3 x (p,0)).1.1 (x:Int)= -1
  ·have hcnt:=count_lt hxl (by rw [←at_nat (z:=0) hxl];exact ho)
   rw [h3.ok.l1,←h3.ok.cn] at hcnt
   obtain ⟨a,b,c,d⟩:=free_spec (y:=0) h3.ok.l2 (by omega) h3.all 1024 (by omega)
   have hfm:=count_ge d
   have e:Go.Proofs.YtlfjbnflfdnoaaaGreat.ps3 (x+1) (p,0)=(Go.Proofs.YtlfjbnflfdnoaaaGreat.tk (x:Int) (freeF (Go.Proofs.YtlfjbnflfdnoaaaGreat.ps3 x (p,0)).1.2 1024 (Go.Proofs.YtlfjbnflfdnoaaaGreat.ps3 x (p,0)).2:Nat) (Go.Proofs.YtlfjbnflfdnoaaaGreat.ps3 x (p,0)).1,freeF (Go.Proofs.YtlfjbnflfdnoaaaGreat.ps3 x (p,0)).1.2 1024 (Go.Proofs.YtlfjbnflfdnoaaaGreat.ps3 x (p,0)).2):=by
    simp only [Go.Proofs.YtlfjbnflfdnoaaaGreat.ps3]
    rw [show (at' (0:Int) (Go.Proofs.YtlfjbnflfdnoaaaGreat.ps3 x (p,0)).1.1 (x:Int) != -1)=false by rw [ho];rfl]
    rfl
   rw [e]
   generalize freeF (Go.Proofs.YtlfjbnflfdnoaaaGreat.ps3 x (p,0)).1.2 1024 (Go.Proofs.YtlfjbnflfdnoaaaGreat.ps3 x (p,0)).2=f at*
   refine ⟨i1.tk hm hx ⟨by omega,by omega⟩,fun i hi=> ?_,fun i hi=> ?_⟩
   ·by_cases e':i=x
    ·subst e'
     have ht:Go.Proofs.YtlfjbnflfdnoaaaGreat.tk (i:Int) (f:Int) (Go.Proofs.YtlfjbnflfdnoaaaGreat.ps3 i (p,0)).1=((Go.Proofs.YtlfjbnflfdnoaaaGreat.ps3 i (p,0)).1.1.set i (f:Int),(Go.Proofs.YtlfjbnflfdnoaaaGreat.ps3 i (p,0)).1.2.set ((f:Int)).toNat true):=by
      unfold Go.Proofs.YtlfjbnflfdnoaaaGreat.tk tkB
      rw [ho,c,show ((f:Int) != -1)=true from bne_iff_ne.2 (by omega)]
      rfl
     rw [ht]
     dsimp only
     rw [at_set_eq hxl]
     omega
    ·have:=i2 i (by omega)
     rw [tk_keep this];exact this
   ·have:=i3 i hi
    rw [tk_keep (by rw [this];exact hi)];exact this
  ·have e:Go.Proofs.YtlfjbnflfdnoaaaGreat.ps3 (x+1) (p,0)=Go.Proofs.YtlfjbnflfdnoaaaGreat.ps3 x (p,0):=by
    simp only [Go.Proofs.YtlfjbnflfdnoaaaGreat.ps3]
    rw [show (at' (0:Int) (Go.Proofs.YtlfjbnflfdnoaaaGreat.ps3 x (p,0)).1.1 (x:Int) != -1)=true from bne_iff_ne.2 ho]
    rfl
   rw [e]
   refine ⟨i1,fun i hi=> ?_,i3⟩
   by_cases e':i=x
   ·subst e';exact ho
   ·exact i2 i (by omega)
theorem ps2_keep {L:List Runner} {p:Pl} {i:Nat} (h:at' (0:Int) p.1 (i:Int)≠ -1): ∀x,at' (0:Int) (ps2 L x p).1 (i:Int)=at' (0:Int) p.1 (i:Int)
 |0=>rfl
 |x+1=>by
  have ih:=ps2_keep (L:=L) h x
  simp only [ps2]
  rw [tk_keep (by rw [ih];exact h)]
  exact ih
theorem asg_ok {L:List Runner} {m:Int} (hc:chkA L m=true):(asgP L).length=L.length/\ (∀i:Nat,i<L.length->0<=at' (0:Int) (asgP L) (i:Int)/\ at' (0:Int) (asgP L) (i:Int)<m)∧
  (∀i j:Nat,i<L.length->j<L.length->at' (0:Int) (asgP L) (i:Int)=at' (0:Int) (asgP L) (j:Int)->i=j)/\ ∀i:Nat,i<L.length->0<=(at' rz L (i:Int)).Pin->at' (0:Int) (asgP L) (i:Int)=(at' rz L (i:Int)).Pin:=by
 obtain ⟨⟨m1,m2,m3⟩,hin⟩:=chk_in hc
 have hin1: ∀r∈L,-1<=r.Pin/\ r.Pin<1024:=fun r hr=>by have:=(hin r hr).1;omega
 have hin2: ∀r∈L,-1<=r.Last/\ r.Last<1024:=fun r hr=>by have:=(hin r hr).2;omega
 have q1:=AOk.ps1 m2 (fun r hr=>(hin r hr).1) L.length (Nat.le_refl _)
 have q2:=AOk.ps2 m2 (fun r hr=>(hin r hr).2) q1 L.length (Nat.le_refl _)
 have k1:=PlOk.ps1 hin1 L.length (Nat.le_refl _)
 have k2:=PlOk.ps2 hin2 k1 L.length (Nat.le_refl _)
 obtain ⟨r1,r2,r3⟩:=AOk.ps3 m2 m3 q2 k2 L.length (Nat.le_refl _)
 obtain ⟨a,b⟩:=pass1 hc L.length (Nat.le_refl _)
 rw [List.take_length,Nat.sub_self,List.replicate_zero,List.append_nil] at a
 refine ⟨r1.l1,fun i hi=> ?_,fun i j hi hj hij=>r1.inj i j hi hj hij (r2 i hi),fun i hi hp=> ?_⟩
 ·have:=r2 i hi
  rcases r1.rng i hi with e|e
  ·exact absurd e this
  ·exact e
 ·have e1:at' (0:Int) (ps1 L L.length (P0 L.length)).1 (i:Int)=(at' rz L (i:Int)).Pin:=by
   rw [a]
   have hg: ∀(L:List Runner) (i:Nat) (hi:i<L.length),at' (0:Int) (L.map fun r=>r.Pin) (i:Int)=L[i].Pin:=fun L i hi=>by
    rw [at_nat (by simpa using hi)];simp
   rw [at_nat hi]
   exact hg L i hi
  have e2:=ps2_keep (L:=L) (p:=ps1 L L.length (P0 L.length)) (i:=i) (by rw [e1];omega) L.length
  have e3:=r3 i (by rw [e2,e1];omega)
  rw [show asgP L=(ps3 L.length (P2 L,0)).1.1 from rfl]
  rw [show P2 L=ps2 L L.length (ps1 L L.length (P0 L.length)) from rfl]
  rw [e3,e2,e1]
theorem calRight {id kind:Int} (h0:0<=id) (h1:id<64) (k0:0<=kind) (k1:kind<8):calendarRight id kind=true:=by
 unfold calendarRight
 rw [show decide (id>=0)=true from decide_eq_true h0,show decide (id<=1023)=true from decide_eq_true (by omega),show decide (kind>=0)=true from decide_eq_true k0]
 exact decide_eq_true (by omega)
theorem calNum {id kind:Int} (h0:0<=id) (h1:id<64) (k0:0<=kind) (k1:kind<8):calendarNumber id kind=id*8+kind:=by
 unfold calendarNumber
 rw [wrap_id (n:=id*8) (by omega) (by omega),wrap_id (by omega) (by omega)]
theorem updF_updF {α:Type} (f:Int->Option α) (i:Int) (a b:Option α):updF (updF f i a) i b=updF f i b:=by
 funext j
 unfold updF
 split<;>rfl
def dqf (f0 f1:Int->Option Ev):Int->Option Ev:=fun k=>if 0<=k/\ k<512 then (if k%8=0 then f0 (k/8) else if k%8=1 then f1 (k/8) else none) else none
def DQ (s:vHS) (f0 f1:Int->Option Ev):Prop:=DqV s (dqf f0 f1)
theorem dqf_upd0 {f0 f1:Int->Option Ev} {id:Int} (h0:0<=id) (h1:id<64) (a:Option Ev):updF (dqf f0 f1) (id*8+0) a=dqf (updF f0 id a) f1:=by
 funext k
 unfold updF dqf
 by_cases e:k=id*8+0
 ·subst e
  rw [if_pos rfl,if_pos (by omega),if_pos (by omega)]
  dsimp only
  rw [if_pos (by omega)]
 ·rw [if_neg e]
  by_cases r:0<=k/\ k<512
  ·rw [if_pos r,if_pos r]
   by_cases e0:k%8=0
   ·rw [if_pos e0,if_pos e0]
    dsimp only
    rw [if_neg (by omega)]
   ·rw [if_neg e0,if_neg e0]
  ·rw [if_neg r,if_neg r]
theorem dqf_upd1 {f0 f1:Int->Option Ev} {id:Int} (h0:0<=id) (h1:id<64) (a:Option Ev):updF (dqf f0 f1) (id*8+1) a=dqf f0 (updF f1 id a):=by
 funext k
 unfold updF dqf
 by_cases e:k=id*8+1
 ·subst e
  rw [if_pos rfl,if_pos (by omega),if_neg (by omega),if_pos (by omega)]
  dsimp only
  rw [if_pos (by omega)]
 ·rw [if_neg e]
  by_cases r:0<=k/\ k<512
  ·rw [if_pos r,if_pos r]
   by_cases e0:k%8=0
   ·rw [if_pos e0,if_pos e0]
   ·rw [if_neg e0,if_neg e0]
    by_cases e1:k%8=1
    ·rw [if_pos e1,if_pos e1]
     dsimp only
     rw [if_neg (by omega)]
    ·rw [if_neg e1,if_neg e1]
  ·rw [if_neg r,if_neg r]
theorem dqf_0 {f0 f1:Int->Option Ev} {id:Int} (h0:0<=id) (h1:id<64):dqf f0 f1 (id*8+0)=f0 id:=by
 unfold dqf
 rw [if_pos (by omega),if_pos (by omega),show (id*8+0)/8=id by omega]
theorem dqf_1 {f0 f1:Int->Option Ev} {id:Int} (h0:0<=id) (h1:id<64):dqf f0 f1 (id*8+1)=f1 id:=by
 unfold dqf
 rw [if_pos (by omega),if_neg (by omega),if_pos (by omega),show (id*8+1)/8=id by omega]
theorem dqf_some {f0 f1:Int->Option Ev} {k:Int} {e:Ev} (h:dqf f0 f1 k=some e): ∃id,0<=id/\ id<64/\ ((k=id*8+0/\ f0 id=some e) \/(k=id*8+1/\ f1 id=some e)):=by
 unfold dqf at h
 by_cases r:0<=k/\ k<512
 ·rw [if_pos r] at h
  by_cases e0:k%8=0
  ·rw [if_pos e0] at h
   exact ⟨k/8,by omega,by omega, .inl ⟨by omega,h⟩⟩
  ·rw [if_neg e0] at h
   by_cases e1:k%8=1
   ·rw [if_pos e1] at h
    exact ⟨k/8,by omega,by omega, .inr ⟨by omega,h⟩⟩
   ·rw [if_neg e1] at h;cases h
 ·rw [if_neg r] at h;cases h
theorem dqf_congr {f0 f1 g0 g1:Int->Option Ev} (h: ∀id,0<=id->id<64->f0 id=g0 id/\ f1 id=g1 id):dqf f0 f1=dqf g0 g1:=by
 funext k
 unfold dqf
 by_cases r:0<=k/\ k<512
 ·rw [if_pos r,if_pos r,(h (k/8) (by omega) (by omega)).1,(h (k/8) (by omega) (by omega)).2]
 ·rw [if_neg r,if_neg r]
theorem DQ.len {s:vHS} {f0 f1:Int->Option Ev} (h:DQ s f0 f1):s.1.length<=512:=DqV.len (k:=512) h fun k e he=>by
 obtain ⟨id,a,b,c⟩:=dqf_some he
 omega
theorem DQ.where0 {s:vHS} {f0 f1:Int->Option Ev} (h:DQ s f0 f1) (id:Int) (ht:vthereB (calendarNumber id 0) s.2=true):0<=vwhereI (calendarNumber id 0) s.2/\ vwhereI (calendarNumber id 0) s.2<s.1.length:=DqV.where h _ ht
theorem DQ.drop {s:vHS} {f0 f1:Int->Option Ev} (h:DQ s f0 f1) {id:Int} (h0:0<=id) (h1:id<64):DQ (dropU s id 0) (updF f0 id none) f1:=by
 have:=DqV.rem h (calendarNumber id 0)
 rw [calNum h0 h1 (by omega) (by omega),dqf_upd0 h0 h1] at this
 unfold dropU
 rw [calRight h0 h1 (by omega) (by omega),calNum h0 h1 (by omega) (by omega),Bool.true_and]
 exact this
theorem putU_eq {s:vHS} {at1 id kind:Int} (h0:0<=id) (h1:id<64) (k0:0<=kind) (k1:kind<8) (ha:0<=at1):putU s ⟨at1,id,kind⟩=pushV s (id*8+kind) ⟨at1,id,kind⟩:=by
 unfold putU pushV
 dsimp only
 rw [calRight h0 h1 k0 k1,calNum h0 h1 k0 k1,decide_eq_true ha]
 cases vthereB (id*8+kind) s.2<;>rfl
theorem DQ.put0 {s:vHS} {f0 f1:Int->Option Ev} (h:DQ s f0 f1) {id:Int} (h0:0<=id) (h1:id<64) {at1:Int} (ha:0<=at1) (hn:f0 id=none):DQ (putU s ⟨at1,id,0⟩) (updF f0 id (some ⟨at1,id,0⟩)) f1:=by
 rw [putU_eq h0 h1 (by omega) (by omega) ha]
 have:=DqV.push h (id:=id*8+0) (by rw [dqf_0 h0 h1];exact hn) ⟨at1,id,0⟩
 rw [dqf_upd0 h0 h1] at this
 exact this
theorem DQ.put1 {s:vHS} {f0 f1:Int->Option Ev} (h:DQ s f0 f1) {id:Int} (h0:0<=id) (h1:id<64) {at1:Int} (ha:0<=at1) (hn:f1 id=none):DQ (putU s ⟨at1,id,1⟩) f0 (updF f1 id (some ⟨at1,id,1⟩)):=by
 rw [putU_eq h0 h1 (by omega) (by omega) ha]
 have:=DqV.push h (id:=id*8+1) (by rw [dqf_1 h0 h1];exact hn) ⟨at1,id,1⟩
 rw [dqf_upd1 h0 h1] at this
 exact this
def isLv (ts:List (Option Rnr)) (id:Int):Bool:=decide (0<=id)&&decide (id<64)&&(atO ts id).isSome
def rdyF (ts:List (Option Rnr)) (now id:Int):Option Entry:=bif isLv ts id&&someT (rnAt ts id).t.waits&&decide (whenT (rnAt ts id).t.early (rnAt ts id).t.waits<=now) then some (entS id (headT (rnAt ts id).t.waits)) else none
def waitF (ts:List (Option Rnr)) (now id:Int):Option Ev:=bif isLv ts id&&someT (rnAt ts id).t.waits&& !decide (whenT (rnAt ts id).t.early (rnAt ts id).t.waits<=now) then some ⟨whenT (rnAt ts id).t.early (rnAt ts id).t.waits,id,0⟩ else none
theorem rdyF_out {ts:List (Option Rnr)} {now id:Int} (h: ¬(0<=id/\ id<64)):rdyF ts now id=none:=by
 unfold rdyF isLv
 by_cases h0:0<=id
 ·rw [decide_eq_false (show ¬id<64 by omega)];simp
 ·rw [decide_eq_false h0];simp
theorem upd_out {α:Type} {f:Int->Option α} (hf: ∀id,¬(0<=id/\ id<64)->f id=none) {id:Int} (h0:0<=id) (h1:id<64) (a:Option α): ∀j,¬(0<=j/\ j<64)->updF f id a j=none:=fun j hj=>by
 rw [updF_ne _ _ (by omega)];exact hf j hj
theorem files_ok {g:EG} {f:Int->Option Entry} {f0 f1:Int->Option Ev} (hr:RqV g.rq f) (hd:DQ g.dq f0 f1) (hf: ∀id,¬(0<=id/\ id<64)->f id=none) {id:Int} (h0:0<=id) (h1:id<64) (hl:g.ts.length=64) (hn:0<=g.now):
  FilesP g id/\ ∃q d,filesG g id= { g with rq:=q,dq:=d }/\ RqV q (updF f id (rdyF g.ts g.now id))/\ DQ d (updF f0 id (waitF g.ts g.now id)) f1:=by
 refine ⟨⟨h0,h1,hl, ?_, ?_,hr.where id,hd.where0 id⟩, ?_⟩
 ·have:=hr.len (k:=64) fun i x hx=>by
   refine Classical.byContradiction fun h=> ?_
   rw [hf i h] at hx;cases hx
  omega
 ·have:=hd.len;omega
 have hr1:=hr.rem id
 have hd1:=hd.drop h0 h1
 unfold filesG rdyF waitF isLv
 rw [decide_eq_true h0,decide_eq_true h1]
 simp only [Bool.true_and]
 cases (atO g.ts id).isSome
 ·exact ⟨_,_,rfl,hr1,hd1⟩
 simp only [cond_true,Bool.true_and]
 cases someT (rnAt g.ts id).t.waits
 ·exact ⟨_,_,rfl,hr1,hd1⟩
 simp only [cond_true,Bool.true_and]
 by_cases hw:whenT (rnAt g.ts id).t.early (rnAt g.ts id).t.waits<=g.now
 ·rw [decide_eq_true hw]
  refine ⟨_,_,rfl, ?_,hd1⟩
  have:=hr1.push (id:=id) (updF_eq _ _ _) (entS id (headT (rnAt g.ts id).t.waits))
  rw [updF_updF] at this
  exact this
 ·rw [decide_eq_false hw]
  refine ⟨_,_,rfl,hr1, ?_⟩
  have:=hd1.put0 h0 h1 (at1:=whenT (rnAt g.ts id).t.early (rnAt g.ts id).t.waits) (by omega) (updF_eq _ _ _)
  rw [updF_updF] at this
  exact this
theorem vtakeH_len1 (s:vHS) (i:Nat):(vtakeH s i).1.length=s.1.length-1:=by
 unfold vtakeH
 cases decide (i<s.1.length-1)
 ·simp only [cond_false,List.length_take,vswapL_length];omega
 ·simp only [cond_true]
  rw [vsinkN_length,vriseN_length]
  simp only [List.length_take,vswapL_length]
  omega
def evKey (e:Ev):Int:=e.ID*8+e.Kind
theorem due_all (t:Int): ∀(n:Nat) (s:vHS) (f:Int->Option Ev),s.1.length<=n->DqV s f->(∀k e,f k=some e->evKey e=k)→
  DqV (dueN n s t).2 (fun k=>match f k with
   |some e=>if e.At<=t then none else some e
   |none=>none)/\ (∀e,e∈(dueN n s t).1↔ ∃k,f k=some e/\ e.At<=t)/\ ((dueN n s t).1.map evKey).Nodup
 |0,s,f,hn,h,hk=>by
  have hno:=h.empty.1 (show s.1.length=0 by omega)
  refine ⟨?_,fun e=>⟨fun he=>(by cases he),fun ⟨k,h1,_⟩=>(by rw [hno] at h1;cases h1)⟩,List.nodup_nil⟩
  have:(fun k=>match f k with
   |some e=>if e.At<=t then none else some e
   |none=>none)=f:=by funext k;rw [hno]
  rw [this];exact h
 |n+1,s,f,hn,h,hk=>by
  unfold dueN
  by_cases h0:s.1.length=0
  ·rw [show (s.1.length==0)=true from beq_iff_eq.2 h0,Bool.true_or,cond_true]
   have hno:=h.empty.1 h0
   refine ⟨?_,fun e=>⟨fun he=>(by cases he),fun ⟨k,h1,_⟩=>(by rw [hno] at h1;cases h1)⟩,List.nodup_nil⟩
   have:(fun k=>match f k with
    |some e=>if e.At<=t then none else some e
    |none=>none)=f:=by funext k;rw [hno]
   rw [this];exact h
  have hp:0<s.1.length:=by omega
  obtain ⟨x,hx,he,hmin⟩:=h.min hp
  have hg:at' vtz s.1 0=vgN s.1 0:=rfl
  have hX:(at' vtz s.1 0).XAt=x.At:=by rw [hg,he];rfl
  have hXX:(at' vtz s.1 0).X=x:=by rw [hg,he];rfl
  rw [show (s.1.length==0)=false from beq_eq_false_iff_ne.2 h0,Bool.false_or,hX]
  by_cases ht:x.At>t
  ·rw [decide_eq_true ht,cond_true]
   have hbig: ∀k e,f k=some e->t<e.At:=fun k e hke=>by
    have:=hmin k e hke
    rw [he] at this
    unfold vle' vthing at this
    dsimp only at this
    omega
   refine ⟨?_,fun e=>⟨fun he=>(by cases he),fun ⟨k,h1,h2⟩=>(by have:=hbig k e h1;omega)⟩,List.nodup_nil⟩
   have:(fun k=>match f k with
    |some e=>if e.At<=t then none else some e
    |none=>none)=f:=by
    funext k
    cases hf:f k with
    |none=>rfl
    |some e=>have:=hbig k e hf;simp;omega
   rw [this];exact h
  ·rw [decide_eq_false ht,cond_false]
   have hT:=(h.take hp).1
   have hlen:(vtakeH s 0).1.length<=n:=by
    have:=vtakeH_len1 s 0
    omega
   have hkx:evKey x=(vgN s.1 0).Id:=hk _ _ hx
   obtain ⟨i1,i2,i3⟩:=due_all t n (vtakeH s 0) _ hlen hT (fun k e hke=>by
    by_cases c:k=(vgN s.1 0).Id
    ·subst c;rw [updF_eq] at hke;cases hke
    ·rw [updF_ne _ _ c] at hke;exact hk k e hke)
   dsimp only
   rw [hXX]
   refine ⟨?_,fun e=> ?_, ?_⟩
   ·have:(fun k=>match f k with
     |some e=>if e.At<=t then none else some e
     |none=>none)=(fun k=>match updF f (vgN s.1 0).Id none k with
     |some e=>if e.At<=t then none else some e
     |none=>none):=by
     funext k
     by_cases c:k=(vgN s.1 0).Id
     ·subst c;rw [updF_eq,hx];simp;omega
     ·rw [updF_ne _ _ c]
    rw [this];exact i1
   ·rw [List.mem_cons,i2]
    constructor
    ·rintro (rfl|⟨k,h1,h2⟩)
     ·exact ⟨_,hx,by omega⟩
     ·refine ⟨k, ?_,h2⟩
      by_cases c:k=(vgN s.1 0).Id
      ·subst c;rw [updF_eq] at h1;cases h1
      ·rw [updF_ne _ _ c] at h1;exact h1
    ·rintro ⟨k,h1,h2⟩
     by_cases c:k=(vgN s.1 0).Id
     ·subst c;rw [hx] at h1;exact .inl (by cases h1;rfl)
     ·exact .inr ⟨k,by rw [updF_ne _ _ c];exact h1,h2⟩
   ·rw [List.map_cons,List.nodup_cons]
    refine ⟨fun hm=> ?_,i3⟩
    obtain ⟨e,he1,he2⟩:=List.mem_map.1 hm
    obtain ⟨k,h1,_⟩:=(i2 e).1 he1
    by_cases c:k=(vgN s.1 0).Id
    ·subst c;rw [updF_eq] at h1;cases h1
    ·rw [updF_ne _ _ c] at h1
     have:=hk k e h1
     omega
noncomputable def tab57:Tab T O:=tab56
theorem tabOk57:TabOk R Tryz.prog tab57:=tabOk56
end Go.Proofs.YtlfjbnflfdnoaaaGreat
namespace Go.Proofs.YtlfjbnflfdnoaaaGreat
open Go.Sx Go.Proofs Classical
theorem release_mono {E P:Int} (h:Wt E P) {n:Nat} (h1:1<=n) (h2:n<1099511627776):ref04Release E P (n:Int)<=ref04Release E P ((n+1:Nat):Int):=by
 obtain ⟨a1,a2⟩:=release_of h (i:=(n:Int)) ⟨by omega,by omega⟩
 obtain ⟨b1,b2⟩:=release_of h (i:=((n+1:Nat):Int)) ⟨by omega,by omega⟩
 obtain ⟨c1,c2,c3⟩:=h
 refine Int.not_lt.1 fun hlt=> ?_
 have hm:=Int.mul_le_mul_of_nonneg_left (show ref04Release E P ((n+1:Nat):Int)+1<=ref04Release E P (n:Int) by omega) (show 0<=E by omega)
 rw [Int.mul_add,Int.mul_one] at hm
 have e:((n+1:Nat):Int)*P=(n:Int)*P+P:=by rw [Int.natCast_add,Int.add_mul];simp
 omega
structure TR (m:Int) (K:Nat) (a:Rnr) (b:Rts):Prop where
 wt:Wt b.t.E b.t.P
 E:a.t.E=b.t.E
 P:a.t.P=b.t.P
 ea:a.t.early=b.t.early
 eb:a.early=b.t.early
 cut:a.t.cut=b.t.cut
 waits:a.t.waits=b.t.waits
 ran:a.t.ran=b.t.ran
 done:a.t.done=b.t.done
 dn:0<=b.t.done/\ b.t.done<=K
 st: ∃n:Nat,1<=n/\ n<=65+64*K/\ b.t.came=(n:Int)-1/\ StepOk b.t.E b.t.P b.t.off n a.t.st/\ ∀x∈b.t.waits,x.Release<=ref04Release b.t.E b.t.P n+b.t.off
 off:0<=b.t.off/\ b.t.off<=1099511627776
 len:b.t.waits.length<=64
 srt:b.t.waits.Pairwise (fun x y=>x.Release<=y.Release)
 stage:a.stage=b.stage
 stg:b.stage=1 \/b.stage=2 \/b.stage=3
 pin:a.pin=b.pin
 pinb: -1<=b.pin/\ b.pin<m
 last:a.last=b.last
 lastb: -1<=b.last/\ b.last<m
 since:a.since=b.since
 nxt:b.stage=3->a.nE=b.nE/\ a.nP=b.nP/\ a.kept=b.kept/\ (0<=b.kept/\ b.kept<=64)/\ Wt b.nE b.nP
theorem TR.mono {m:Int} {K K':Nat} {a:Rnr} {b:Rts} (h:TR m K a b) (hK:K<=K'):TR m K' a b:=by
 obtain ⟨n,h1,h2,h3,h4,h5⟩:=h.st
 exact { h with dn:=⟨h.dn.1,by have:=h.dn.2;omega⟩,st:=⟨n,h1,by omega,h3,h4,h5⟩ }
theorem slot_eq {at1:Int}:taskSlot at1=(decide (at1>=0)&&decide (at1<=1099511627776)):=by
 unfold taskSlot
 cases decide (at1>=0)<;>rfl
theorem arrE_eq {at1 n:Int} {tc:Bool} {W:List Sub}:arrE at1 n tc W=raE at1 n tc W:=by
 unfold arrE raE
 rw [slot_eq]
 by_cases h0:at1<0
 ·rw [decide_eq_true h0,decide_eq_false (show ¬at1>=0 by omega)];rfl
 ·rw [decide_eq_false h0,decide_eq_true (show at1>=0 by omega)]
  by_cases h1:at1>1099511627776
  ·rw [decide_eq_true h1,decide_eq_false (show ¬at1<=1099511627776 by omega)];rfl
  ·rw [decide_eq_false h1,decide_eq_true (show at1<=1099511627776 by omega)];rfl
theorem ra_zero {at1 n:Int} {tc:Bool} {W:List Sub} (h:raE at1 n tc W=0):0<=at1/\ at1<=1099511627776/\ 1<=n/\ n<=64/\ tc=false/\ (W.length:Int)+n<=64:=by
 unfold raE at h
 by_cases h0:at1<0
 ·rw [decide_eq_true h0] at h;cases h
 rw [decide_eq_false h0] at h
 by_cases h1:at1>1099511627776
 ·rw [decide_eq_true h1] at h;cases h
 rw [decide_eq_false h1] at h
 by_cases h2:n<1
 ·rw [decide_eq_true h2] at h;cases h
 rw [decide_eq_false h2] at h
 by_cases h3:n>64
 ·rw [decide_eq_true h3] at h;cases h
 rw [decide_eq_false h3] at h
 cases tc
 ·by_cases h4:(W.length:Int)+n>64
  ·rw [decide_eq_true h4] at h;cases h
  ·exact ⟨by omega,by omega,by omega,by omega,rfl,by omega⟩
 ·cases h
theorem TR.steps {m:Int} {K:Nat} {a:Rnr} {b:Rts} (h:TR m K a b) (hK:K<=100000) {now:Int} (n0:0<=now) (n1:now<=1099511627776): ∀k:Nat,k<=64→
  ∃(n:Nat) (o:Int),1<=n/\ n+k<=65+64*K+64/\ n<=65+64*K/\ b.t.came=(n:Int)-1/\ StepOk b.t.E b.t.P o (n+k) (arrS now k a.t.st)/\ raS now b.t.E b.t.P k (b.t.off,b.t.came)=(o,(n:Int)-1+k)/\ (0<=o/\ o<=1099511627776)/\ arrL now k a.t.st=raL now b.t.E b.t.P k (b.t.off,b.t.came)∧
   AdvP (arr1 now (arrS now k a.t.st))/\ raP now b.t.E b.t.P (raS now b.t.E b.t.P k (b.t.off,b.t.came))/\ (b.t.waits++raL now b.t.E b.t.P k (b.t.off,b.t.came)).Pairwise (fun x y=>x.Release<=y.Release)/\ ∀x∈b.t.waits++raL now b.t.E b.t.P k (b.t.off,b.t.came),x.Release<=ref04Release b.t.E b.t.P ((n+k:Nat):Int)+o:=by
 obtain ⟨n,h1,h2,h3,h4,h5⟩:=h.st
 have key:=arr_eq h.wt n0 n1 h4 h1 h.off.1 h.off.2
 rw [←h3] at key
 intro k
 induction k with
 |zero=>
  intro _
  obtain ⟨o,c1,c2,⟨c3,c4,c5⟩,c6,c7,c8,c9,c10⟩:=key 0 (by omega)
  refine ⟨n,o,h1,by omega,h2,h3,c1,by rw [h3] at c2 ⊢;exact c2,⟨c3,c4⟩,c6,c7,c8, ?_, ?_⟩
  ·simp only [raL,List.append_nil];exact h.srt
  ·simp only [raL,List.append_nil]
   intro x hx
   have:=h5 x hx
   simp only [Nat.add_zero]
   omega
 |succ k ih=>
  intro hk
  obtain ⟨n',o,d1,d2,d3,d4,d5,d6,d7,d8,d9,d10,d11,d12⟩:=ih (by omega)
  have hn':n'=n:=by omega
  subst hn'
  obtain ⟨o',c1,c2,⟨c3,c4,c5⟩,c6,c7,c8,c9,c10⟩:=key (k+1) (by omega)
  obtain ⟨p,q1,q2,⟨q3,q4,q5⟩,q6,q7,q8,q9,q10⟩:=key k (by omega)
  have hpo:p=o:=congrArg Prod.fst (q2.symm.trans d6)
  subst hpo
  have hi:Num ((n'+k:Nat):Int):=⟨by omega,by omega⟩
  obtain ⟨w0,w1,w2,w3⟩:=offN_bound h.wt hi q3 q4 n1 (at1:=now)
  have ho':o'=offN b.t.E b.t.P now p ((n'+k:Nat):Int):=by
   have:raS now b.t.E b.t.P (k+1) (b.t.off,b.t.came)=(raOff now b.t.E b.t.P (raS now b.t.E b.t.P k (b.t.off,b.t.came)),IntKind.i64.wrap ((raS now b.t.E b.t.P k (b.t.off,b.t.came)).2+1)):=rfl
   rw [this] at c2
   have c2:=congrArg Prod.fst c2
   dsimp only at c2
   rw [←c2]
   have e:=congrArg Sub.Release q10
   unfold raX at e
   have r0:=release_bound h.wt hi
   obtain ⟨p1,p2⟩:=of_off h.wt hi w0 (by omega) (off:=offN b.t.E b.t.P now p ((n'+k:Nat):Int))
   rw [q2] at e ⊢
   dsimp only at e ⊢
   rw [show b.t.came+(k:Int)+1=((n'+k:Nat):Int) by omega,wrap_id (by omega) (by omega)] at e
   have e2: ∀of:Int,0<=of->of<=1152921504606846976->(ofS b.t.E b.t.P ((n'+k:Nat):Int) of).Release=ref04Release b.t.E b.t.P ((n'+k:Nat):Int)+of:=fun of a1 a2=>by
    rw [(of_off h.wt hi a1 a2).2];rfl
   have hb:0<=raOff now b.t.E b.t.P (p,b.t.came+k)/\ raOff now b.t.E b.t.P (p,b.t.came+k)<=1099511627776:=by rw [←q2,c2];exact ⟨c3,c4⟩
   rw [e2 _ hb.1 (by omega)] at e
   unfold offS at e
   dsimp only at e
   omega
  have hm:=release_mono h.wt (n:=n'+k) (by omega) (by omega)
  have hx:raL now b.t.E b.t.P (k+1) (b.t.off,b.t.came)=raL now b.t.E b.t.P k (b.t.off,b.t.came)++[offS b.t.E b.t.P ((n'+k:Nat):Int) o']:=by
   simp only [raL]
   rw [q10,ho']
  have e3:(n'+(k+1):Nat)=n'+k+1:=by omega
  refine ⟨n',o',d1,by omega,d3,d4,c1, ?_,⟨c3,c4⟩,c6,c7,c8, ?_, ?_⟩
  ·rw [c2,h3]
  ·rw [hx,←List.append_assoc,List.pairwise_append]
   refine ⟨d11,List.pairwise_singleton _ _,fun x hx1 y hy=> ?_⟩
   rw [List.mem_singleton] at hy
   subst hy
   have:=d12 x hx1
   unfold offS
   dsimp only
   omega
  ·intro x hx1
   rw [hx,←List.append_assoc,List.mem_append] at hx1
   rw [e3]
   rcases hx1 with hx1|hx1
   ·have:=d12 x hx1;omega
   ·rw [List.mem_singleton] at hx1
    subst hx1
    unfold offS
    dsimp only
    omega
theorem TR.arr {m:Int} {K:Nat} {a:Rnr} {b:Rts} (h:TR m K a b) (hK:K<=100000) {now n:Int} (n0:0<=now) (n1:now<=1099511627776):ArrTP now n a/\ ArrRP now n b.t/\ TR m (K+1) (arrT now n a) (arrT1 now n b):=by
 have hE:arrE now n a.t.cut a.t.waits=raE now n b.t.cut b.t.waits:=by rw [arrE_eq,h.cut,h.waits]
 refine ⟨⟨by rw [h.waits];exact h.len,fun he k hk=> ?_⟩,⟨h.len,fun he k hk=> ?_⟩, ?_⟩
 ·rw [hE] at he
  have:=ra_zero he
  obtain ⟨_,_,_,_,_,_,_,_,_,_,q,_⟩:=h.steps hK n0 n1 k (by omega)
  exact q
 ·have:=ra_zero he
  obtain ⟨_,_,_,_,_,_,_,_,_,_,_,q,_⟩:=h.steps hK n0 n1 k (by omega)
  exact q
 unfold arrT arrT1 arrRT
 rw [hE]
 cases hz:raE now n b.t.cut b.t.waits==0
 ·exact h.mono (Nat.le_succ _)
 ·have he:raE now n b.t.cut b.t.waits=0:=by simpa using hz
  obtain ⟨z0,z1,z2,z3,z4,z5⟩:=ra_zero he
  obtain ⟨j,o,c1,c2,c3,c4,c5,c6,c7,c8,c9,c10,c11,c12⟩:=h.steps hK n0 n1 n.toNat (by omega)
  simp only [cond_true]
  have hd:=h.dn
  refine { wt:=h.wt,E:=h.E,P:=h.P,ea:=h.ea,eb:=h.eb,cut:=h.cut,waits:= ?_,ran:=h.ran,done:=h.done,dn:=⟨hd.1,by have:=hd.2;dsimp only;omega⟩,st:= ?_,off:= ?_,len:= ?_,srt:= ?_,stage:=h.stage,stg:=h.stg,pin:=h.pin,pinb:=h.pinb,last:=h.last,lastb:=h.lastb,since:=h.since,nxt:=h.nxt }
  ·dsimp only
   rw [h.waits,c8]
  ·refine ⟨j+n.toNat,by omega,by omega, ?_, ?_, ?_⟩
   ·dsimp only;rw [c6];dsimp only;omega
   ·dsimp only;rw [c6];exact c5
   ·dsimp only;rw [c6];exact c12
  ·dsimp only;rw [c6];exact c7
  ·dsimp only
   rw [List.length_append,raL_len]
   omega
  ·exact c11
theorem TR.new {m:Int} {E P now:Int} {early:Bool} {pin last:Int} (h:Wt E P) (n0:0<=now) (n1:now<=1099511627776) (hp: -1<=pin/\ pin<m) (hl: -1<=last/\ last<m):TR m 0 { newRnr E P now early pin with last:=last } (newRt E P now early pin last):=by
 unfold newRnr newRt
 refine { wt:=h,E:=rfl,P:=rfl,ea:=rfl,eb:=rfl,cut:=rfl,waits:=rfl,ran:=rfl,done:=rfl,dn:=⟨Int.le_refl _,Int.le_refl _⟩,st:=⟨1,Nat.le_refl _,by omega,rfl,newSt_ok h,fun x hx=>by cases hx⟩,off:=⟨n0,n1⟩,len:=by simp,srt:=List.Pairwise.nil,stage:=rfl,stg:= .inl rfl,pin:=rfl,pinb:=hp,last:=rfl,lastb:=hl,since:=rfl,nxt:=fun h=>by cases h }
theorem TR.rew {m:Int} {K:Nat} {a:Rnr} {b:Rts} (h:TR m K a b) (h3:b.stage=3) {now:Int} (n0:0<=now) (n1:now<=1099511627776):
  windowCheck a.nE a.nP=true/\ ArrTP now a.kept (newRnr a.nE a.nP now a.early a.pin)/\ ArrRP now b.kept (newRt b.nE b.nP now b.t.early b.pin b.last).t/\ TR m 1 (rewT now a) (rewRT now b):=by
 obtain ⟨q1,q2,q3,q4,q5⟩:=h.nxt h3
 have hn:=TR.new (m:=m) (early:=b.t.early) q5 n0 n1 h.pinb h.lastb
 have hA:=hn.arr (by omega) (n:=b.kept) n0 n1
 rw [q1,q2,q3,h.eb,h.pin]
 refine ⟨wcheck_of q5,hA.1,hA.2.1, ?_⟩
 unfold rewT rewRT
 rw [q1,q2,q3,h.eb,h.pin,h.last]
 cases decide (b.kept>0)
 ·exact hn.mono (by omega)
 ·exact hA.2.2
theorem atO_set {α:Type} {L:List (Option α)} {id j:Int} (h0:0<=id) (h1:id<L.length) (hj:0<=j) (a:Option α):atO (L.set id.toNat a) j=if j=id then a else atO L j:=by
 unfold atO List.getD
 rw [List.getElem?_set]
 by_cases e:j=id
 ·subst e
  rw [if_pos rfl,if_pos rfl,if_pos (by omega)];rfl
 ·rw [if_neg (by omega),if_neg e]
def Dom (id:Int):Prop:=id<=9 \/id=63
def canS (r:RG) (id:Int):Bool:=(atO r.ts id).isSome&&canR r.now (rtAt r.ts id)
def ruleF (r:RG) (id:Int):Option Ev:=bif (atO r.ts id).isSome&&decide (2<=(rtAt r.ts id).stage) then some ⟨if (rtAt r.ts id).time>r.now then (rtAt r.ts id).time else r.now+1,id,1⟩ else none
theorem canR_iff {now:Int} {t:Rts}:canR now t=true↔2<=t.stage/\ t.time<=now/\ t.t.waits=[]:=by
 unfold canR
 rw [Bool.not_eq_true',Bool.or_eq_false_iff,Bool.or_eq_false_iff,decide_eq_false_iff_not,decide_eq_false_iff_not,decide_eq_false_iff_not]
 constructor
 ·rintro ⟨a,b,c⟩
  exact ⟨by omega,by omega,List.eq_nil_of_length_eq_zero (by omega)⟩
 ·rintro ⟨a,b,c⟩
  rw [c]
  exact ⟨by omega,by omega,by simp⟩
structure EGB (K X:Nat) (g:EG) (r:RG):Prop where
 kb:K<=10000
 m:g.m=r.m
 mr:1<=r.m/\ r.m<=4
 now:g.now=r.now
 nowr:0<=r.now/\ r.now<=1099511627776
 ev:g.ev=r.ev
 evl:r.ev.length<=64*K+X
 nt:g.nt=r.nt
 ntl:r.nt.length<=8*K
 lg:g.ts.length=64
 lr:r.ts.length=64
 no: ∀id,0<=id->id<64->(atO g.ts id).isSome=(atO r.ts id).isSome
 tr: ∀id,0<=id->id<64->(atO r.ts id).isSome=true->TR r.m K (rnAt g.ts id) (rtAt r.ts id)
 dom: ∀id,0<=id->id<64->(atO r.ts id).isSome=true->Dom id
 pins: ∀i j,0<=i->i<64->0<=j->j<64->(atO r.ts i).isSome=true->(atO r.ts j).isSome=true->(rtAt r.ts i).pin=(rtAt r.ts j).pin->i=j \/(rtAt r.ts i).pin= -1
theorem EGB.mono {K X K' X':Nat} {g:EG} {r:RG} (h:EGB K X g r) (hK:K<=K') (hb:K'<=10000) (hX:64*K+X<=64*K'+X'):EGB K' X' g r:=
 { h with kb:=hb,evl:=by have:=h.evl;omega,ntl:=by have:=h.ntl;omega,tr:=fun id a b c=>(h.tr id a b c).mono hK }
theorem rnAt_set {ts:List (Option Rnr)} {id j:Int} (h0:0<=id) (h1:id<ts.length) (hj:0<=j) (a:Rnr):rnAt (ts.set id.toNat (some a)) j=if j=id then a else rnAt ts j:=by
 unfold rnAt
 rw [atO_set h0 h1 hj]
 split<;>rfl
theorem rtAt_set {ts:List (Option Rts)} {id j:Int} (h0:0<=id) (h1:id<ts.length) (hj:0<=j) (a:Rts):rtAt (ts.set id.toNat (some a)) j=if j=id then a else rtAt ts j:=by
 unfold rtAt
 rw [atO_set h0 h1 hj]
 split<;>rfl
theorem rnAt_of {ts ts':List (Option Rnr)} {id:Int} (h:atO ts id=atO ts' id):rnAt ts id=rnAt ts' id:=by unfold rnAt;rw [h]
theorem rtAt_of {ts ts':List (Option Rts)} {id:Int} (h:atO ts id=atO ts' id):rtAt ts id=rtAt ts' id:=by unfold rtAt;rw [h]
theorem EGB.put {K X:Nat} {g:EG} {r:RG} (h:EGB K X g r) {id:Int} (h0:0<=id) (h1:id<64) {a:Rnr} {b:Rts} (ht:TR r.m K a b) (hd:Dom id) (hp:b.pin= -1 \/ ∀j,0<=j->j<64->j≠id->(atO r.ts j).isSome=true->(rtAt r.ts j).pin≠b.pin):
  EGB K X { g with ts:=g.ts.set id.toNat (some a) } { r with ts:=r.ts.set id.toNat (some b) }:=by
 have l1:id<(g.ts.length:Int):=by rw [h.lg];exact h1
 have l2:id<(r.ts.length:Int):=by rw [h.lr];exact h1
 refine { h with lg:=by simp [h.lg],lr:=by simp [h.lr],no:= ?_,tr:= ?_,dom:= ?_,pins:= ?_ }
 ·intro j j0 j1
  dsimp only
  rw [atO_set h0 l1 j0,atO_set h0 l2 j0]
  split
  ·rfl
  ·exact h.no j j0 j1
 ·intro j j0 j1 hs
  dsimp only at hs ⊢
  rw [rnAt_set h0 l1 j0,rtAt_set h0 l2 j0]
  by_cases e:j=id
  ·rw [if_pos e,if_pos e];exact ht
  ·rw [if_neg e,if_neg e]
   rw [atO_set h0 l2 j0,if_neg e] at hs
   exact h.tr j j0 j1 hs
 ·intro j j0 j1 hs
  dsimp only at hs
  by_cases e:j=id
  ·rw [e];exact hd
  ·rw [atO_set h0 l2 j0,if_neg e] at hs
   exact h.dom j j0 j1 hs
 ·intro i j i0 i1 j0 j1 hi hj hij
  dsimp only at hi hj hij ⊢
  rw [rtAt_set h0 l2 i0,rtAt_set h0 l2 j0] at hij
  rw [rtAt_set h0 l2 i0]
  rw [atO_set h0 l2 i0] at hi
  rw [atO_set h0 l2 j0] at hj
  by_cases e:i=id
  ·rw [if_pos e] at hij ⊢
   by_cases e':j=id
   ·exact .inl (by omega)
   ·rw [if_neg e'] at hij hj
    rcases hp with hp|hp
    ·exact .inr hp
    ·exact absurd hij.symm (hp j j0 j1 e' hj)
  ·rw [if_neg e] at hij hi ⊢
   by_cases e':j=id
   ·rw [if_pos e'] at hij
    rcases hp with hp|hp
    ·exact .inr (by rw [hij];exact hp)
    ·exact absurd hij (hp i i0 i1 e hi)
   ·rw [if_neg e'] at hij hj
    exact h.pins i j i0 i1 j0 j1 hi hj hij
theorem EGB.del {K X:Nat} {g:EG} {r:RG} (h:EGB K X g r) {id:Int} (h0:0<=id) (h1:id<64):
  EGB K X { g with ts:=g.ts.set id.toNat none } { r with ts:=r.ts.set id.toNat none }:=by
 have l1:id<(g.ts.length:Int):=by rw [h.lg];exact h1
 have l2:id<(r.ts.length:Int):=by rw [h.lr];exact h1
 have k1: ∀j,0<=j->(atO (r.ts.set id.toNat none) j).isSome=true->j≠id/\ atO (r.ts.set id.toNat none) j=atO r.ts j/\ atO (g.ts.set id.toNat none) j=atO g.ts j:=by
  intro j j0 hs
  rw [atO_set h0 l2 j0] at hs
  by_cases e:j=id
  ·rw [if_pos e] at hs;cases hs
  ·exact ⟨e,by rw [atO_set h0 l2 j0,if_neg e],by rw [atO_set h0 l1 j0,if_neg e]⟩
 refine { h with lg:=by simp [h.lg],lr:=by simp [h.lr],no:= ?_,tr:= ?_,dom:= ?_,pins:= ?_ }
 ·intro j j0 j1
  dsimp only
  rw [atO_set h0 l1 j0,atO_set h0 l2 j0]
  split
  ·rfl
  ·exact h.no j j0 j1
 ·intro j j0 j1 hs
  dsimp only at hs ⊢
  obtain ⟨e,e1,e2⟩:=k1 j j0 hs
  rw [rnAt_of e2,rtAt_of e1]
  rw [e1] at hs
  exact h.tr j j0 j1 hs
 ·intro j j0 j1 hs
  dsimp only at hs
  obtain ⟨e,e1,e2⟩:=k1 j j0 hs
  rw [e1] at hs
  exact h.dom j j0 j1 hs
 ·intro i j i0 i1 j0 j1 hi hj hij
  dsimp only at hi hj hij ⊢
  obtain ⟨e,e1,e2⟩:=k1 i i0 hi
  obtain ⟨e',e1',e2'⟩:=k1 j j0 hj
  rw [rtAt_of e1,rtAt_of e1'] at hij
  rw [rtAt_of e1]
  rw [e1] at hi
  rw [e1'] at hj
  exact h.pins i j i0 i1 j0 j1 hi hj hij
theorem EGB.lv {K X:Nat} {g:EG} {r:RG} (h:EGB K X g r) {id:Int} (h0:0<=id) (h1:id<64):isLv g.ts id=(atO r.ts id).isSome:=by
 unfold isLv
 rw [decide_eq_true h0,decide_eq_true h1,h.no id h0 h1];rfl
structure EGP (K X:Nat) (g:EG) (r:RG):Prop where
 b:EGB K X g r
 q: ∃f f0 f1,RqV g.rq f/\ DQ g.dq f0 f1/\ (∀id,¬(0<=id/\ id<64)->f id=none)/\ ∀id,0<=id->id<64→
  ((f id=rdyF g.ts g.now id/\ f0 id=waitF g.ts g.now id) \/(∃e,f0 id=some e/\ e.ID=id/\ e.Kind=0/\ e.At<=r.now))/\ (∀e,f0 id=some e->e.ID=id/\ e.Kind=0)∧
  ((f1 id=ruleF r id/\ canS r id=false) \/(∃e,f1 id=some e/\ e.At<=r.now))/\ (∀e,f1 id=some e->e.ID=id/\ e.Kind=1/\ (atO r.ts id).isSome=true/\ 2<=(rtAt r.ts id).stage/\ (e.At<=r.now->(rtAt r.ts id).time<=r.now))
structure EGR (K X:Nat) (g:EG) (r:RG):Prop where
 b:EGB K X g r
 rq:RqV g.rq (rdyF g.ts g.now)
 dq:DQ g.dq (waitF g.ts g.now) (ruleF r)
 set: ∀id,0<=id->id<64->canS r id=false
structure DInv (K X:Nat) (g:EG) (r:RG) (D:List Ev) (q:EG×List Int):Prop where
 same:q.1= { g with rq:=q.1.rq,dq:=q.1.dq }
 mem: ∀e∈D,0<=e.ID/\ e.ID<64/\ (e.Kind=0 \/(e.Kind=1/\ (atO r.ts e.ID).isSome=true/\ 2<=(rtAt r.ts e.ID).stage/\ (rtAt r.ts e.ID).time<=r.now))
 nd:(D.map evKey).Nodup
 ex: ∃f f0 f1,RqV q.1.rq f/\ DQ q.1.dq f0 f1/\ (∀id,¬(0<=id/\ id<64)->f id=none)/\ ∀id,0<=id->id<64→
  (id*8∉D.map evKey->f id=rdyF g.ts g.now id/\ f0 id=waitF g.ts g.now id)/\ (id*8+1∈D.map evKey->f1 id=none)/\ (id∈q.2->f1 id=none)/\ (id*8+1∉D.map evKey->id∉q.2->f1 id=ruleF r id/\ canS r id=false)
 ids:q.2.Nodup/\ ∀id∈q.2,0<=id/\ id<64/\ canS r id=true/\ id*8+1∉D.map evKey
theorem DInv.step {K X:Nat} {g:EG} {r:RG} (hb:EGB K X g r) {e:Ev} {D:List Ev} {q:EG×List Int} (h:DInv K X g r (e::D) q):DueP e q/\ DInv K X g r D (stepD e q):=by
 obtain ⟨f,f0,f1,hr,hd,hf,hids⟩:=h.ex
 obtain ⟨e0,e1,ek⟩:=h.mem e (by simp)
 have hts:q.1.ts=g.ts:=by rw [h.same]
 have hnow:q.1.now=g.now:=by rw [h.same]
 have hlen:q.1.ts.length=64:=by rw [hts];exact hb.lg
 have hn0:0<=q.1.now:=by rw [hnow,hb.now];exact hb.nowr.1
 have nd:=h.nd
 rw [List.map_cons,List.nodup_cons] at nd
 obtain ⟨F1,q',d',F2,F3,F4⟩:=files_ok hr hd hf e0 e1 hlen hn0
 have hmem': ∀x∈D,0<=x.ID/\ x.ID<64/\ (x.Kind=0 \/(x.Kind=1/\ (atO r.ts x.ID).isSome=true/\ 2<=(rtAt r.ts x.ID).stage/\ (rtAt r.ts x.ID).time<=r.now)):=fun x hx=>h.mem x (List.mem_cons_of_mem _ hx)
 rcases ek with ek|⟨ek,es,est,etm⟩
 ·refine ⟨⟨fun _=>F1,fun hk=>absurd ek hk⟩, ?_⟩
  have hkey:evKey e=e.ID*8:=by unfold evKey;omega
  have hs:stepD e q=(filesG q.1 e.ID,q.2):=by unfold stepD;rw [show (e.Kind==0)=true from beq_iff_eq.2 ek];rfl
  rw [hs,F2]
  refine ⟨by dsimp only;rw [h.same],hmem',nd.2,⟨_,_,_,F3,F4,upd_out hf e0 e1 _,fun id i0 i1=> ?_⟩,h.ids.1,fun id hi=> ?_⟩
  ·obtain ⟨a1,a2,a3,a4⟩:=hids id i0 i1
   refine ⟨fun hn=> ?_,fun hm=>a2 (by rw [List.map_cons];exact List.mem_cons_of_mem _ hm),a3,fun hn hi=>a4 (fun hm=> ?_) hi⟩
   ·by_cases c:id=e.ID
    ·subst c
     rw [updF_eq,updF_eq,hts,hnow]
     exact ⟨rfl,rfl⟩
    ·rw [updF_ne _ _ c,updF_ne _ _ c]
     refine a1 fun hm=> ?_
     rw [List.map_cons,List.mem_cons,hkey] at hm
     rcases hm with hm|hm
     ·omega
     ·exact hn hm
   ·rw [List.map_cons,List.mem_cons,hkey] at hm
    rcases hm with hm|hm
    ·omega
    ·exact hn hm
  ·obtain ⟨b1,b2,b3,b4⟩:=h.ids.2 id hi
   exact ⟨b1,b2,b3,fun hm=>b4 (by rw [List.map_cons];exact List.mem_cons_of_mem _ hm)⟩
 ·have hkey:evKey e=e.ID*8+1:=by unfold evKey;omega
  have hgs:(atO g.ts e.ID).isSome=true:=by rw [hb.no _ e0 e1];exact es
  obtain ⟨a1,a2,a3,a4⟩:=hids e.ID e0 e1
  have hf1:f1 e.ID=none:=a2 (by rw [List.map_cons,hkey];simp)
  refine ⟨⟨fun hk=>by omega,fun _=>⟨idOk_iff.2 ⟨e0,e1⟩,hlen,by rw [hts];exact hgs,by have:=hd.len;omega⟩⟩, ?_⟩
  have hwt:(rnAt g.ts e.ID).t.waits=(rtAt r.ts e.ID).t.waits:=(hb.tr e.ID e0 e1 es).waits
  have hs:stepD e q=bif decide (((rnAt q.1.ts e.ID).t.waits.length:Int)>0) then ({ q.1 with dq:=putU q.1.dq ⟨IntKind.i64.wrap (q.1.now+1),e.ID,1⟩ },q.2) else (q.1,q.2++[e.ID]):=by
   unfold stepD;rw [show (e.Kind==0)=false from beq_eq_false_iff_ne.2 (by omega)];rfl
  have hnotin:e.ID∉q.2:=fun hi=>(h.ids.2 _ hi).2.2.2 (by rw [List.map_cons,hkey];simp)
  rw [hs,hts,hwt,hnow,hb.now]
  have hnr:=hb.nowr
  have hkb:=hb.kb
  rw [wrap_id (n:=r.now+1) (by omega) (by omega)]
  by_cases hw:((rtAt r.ts e.ID).t.waits.length:Int)>0
  ·rw [decide_eq_true hw]
   simp only [cond_true]
   have hd':=hd.put1 e0 e1 (at1:=r.now+1) (by omega) hf1
   have hrule:some (⟨r.now+1,e.ID,1⟩:Ev)=ruleF r e.ID:=by
    unfold ruleF
    rw [es,decide_eq_true est]
    simp only [Bool.and_self,cond_true]
    rw [if_neg (by omega)]
   have hcan:canS r e.ID=false:=by
    cases hc:canS r e.ID
    ·rfl
    ·unfold canS at hc
     rw [Bool.and_eq_true,canR_iff] at hc
     rw [hc.2.2.2] at hw
     simp at hw
   refine ⟨by dsimp only;rw [h.same],hmem',nd.2,⟨_,_,_,hr,hd',hf,fun id i0 i1=> ?_⟩,h.ids.1,fun id hi=> ?_⟩
   ·obtain ⟨b1,b2,b3,b4⟩:=hids id i0 i1
    refine ⟨fun hn=>b1 fun hm=> ?_,fun hm=> ?_,fun hi=> ?_,fun hn hi=> ?_⟩
    ·rw [List.map_cons,List.mem_cons,hkey] at hm
     rcases hm with hm|hm
     ·omega
     ·exact hn hm
    ·by_cases c:id=e.ID
     ·subst c;rw [←hkey] at hm;exact absurd hm nd.1
     ·rw [updF_ne _ _ c]
      exact b2 (by rw [List.map_cons];exact List.mem_cons_of_mem _ hm)
    ·by_cases c:id=e.ID
     ·subst c;exact absurd hi hnotin
     ·rw [updF_ne _ _ c];exact b3 hi
    ·by_cases c:id=e.ID
     ·subst c
      rw [updF_eq]
      exact ⟨hrule,hcan⟩
     ·rw [updF_ne _ _ c]
      refine b4 (fun hm=> ?_) hi
      rw [List.map_cons,List.mem_cons,hkey] at hm
      rcases hm with hm|hm
      ·omega
      ·exact hn hm
   ·obtain ⟨b1,b2,b3,b4⟩:=h.ids.2 id hi
    exact ⟨b1,b2,b3,fun hm=>b4 (by rw [List.map_cons];exact List.mem_cons_of_mem _ hm)⟩
  ·rw [decide_eq_false hw]
   simp only [cond_false]
   have hcan:canS r e.ID=true:=by
    unfold canS
    rw [es,Bool.true_and,canR_iff]
    exact ⟨est,etm,List.eq_nil_of_length_eq_zero (by omega)⟩
   refine ⟨h.same,hmem',nd.2,⟨_,_,_,hr,hd,hf,fun id i0 i1=> ?_⟩, ?_,fun id hi=> ?_⟩
   ·obtain ⟨b1,b2,b3,b4⟩:=hids id i0 i1
    refine ⟨fun hn=>b1 fun hm=> ?_,fun hm=>b2 (by rw [List.map_cons];exact List.mem_cons_of_mem _ hm),fun hi=> ?_,fun hn hi=> ?_⟩
    ·rw [List.map_cons,List.mem_cons,hkey] at hm
     rcases hm with hm|hm
     ·omega
     ·exact hn hm
    ·dsimp only at hi
     rw [List.mem_append,List.mem_singleton] at hi
     rcases hi with hi|hi
     ·exact b3 hi
     ·subst hi;exact hf1
    ·dsimp only at hi
     rw [List.mem_append,List.mem_singleton] at hi
     refine b4 (fun hm=> ?_) (fun hx=>hi (.inl hx))
     rw [List.map_cons,List.mem_cons,hkey] at hm
     rcases hm with hm|hm
     ·exact hi (.inr (by omega))
     ·exact hn hm
   ·dsimp only
    rw [List.nodup_append]
    exact ⟨h.ids.1,by simp,fun a ha b hb'=>by
     rw [List.mem_singleton] at hb'
     subst hb'
     exact fun hab=>hnotin (by rw [←hab];exact ha)⟩
   ·dsimp only at hi
    rw [List.mem_append,List.mem_singleton] at hi
    rcases hi with hi|hi
    ·obtain ⟨b1,b2,b3,b4⟩:=h.ids.2 id hi
     exact ⟨b1,b2,b3,fun hm=>b4 (by rw [List.map_cons];exact List.mem_cons_of_mem _ hm)⟩
    ·subst hi
     exact ⟨e0,e1,hcan,by rw [←hkey];exact nd.1⟩
theorem DInv.all {K X:Nat} {g:EG} {r:RG} (hb:EGB K X g r) {D:List Ev} {q:EG×List Int} (h:DInv K X g r D q): ∀x,x<=D.length->DInv K X g r (D.drop x) (setS D x q)/\ (x<D.length->DueP (at' evz D (x:Int)) (setS D x q))
 |0,_=>⟨by simpa [setS] using h,fun hx=>by
  have:D.drop 0=D[0]::D.drop 1:=List.drop_eq_getElem_cons hx
  have h':DInv K X g r (D[0]::D.drop 1) q:=by rw [←this];simpa using h
  have:=(h'.step hb).1
  rw [show at' evz D ((0:Nat):Int)=D[0] from at_nat hx]
  exact this⟩
 |x+1,hx=>by
  have hx':x<D.length:=hx
  have ih:=(DInv.all hb h x (by omega)).1
  rw [List.drop_eq_getElem_cons hx'] at ih
  have hs:setS D (x+1) q=stepD D[x] (setS D x q):=by
   simp only [setS];rw [at_nat hx']
  have h1:=(ih.step hb).2
  rw [←hs] at h1
  refine ⟨h1,fun hx2=> ?_⟩
  rw [List.drop_eq_getElem_cons hx2] at h1
  rw [at_nat hx2]
  exact (h1.step hb).1
theorem EGP.due {K X:Nat} {g:EG} {r:RG} (h:EGP K X g r):g.dq.1.length<=512/\ DInv K X g r (dueL g) (due0 g):=by
 obtain ⟨f,f0,f1,hr,hd,hf,hq⟩:=h.q
 have hk: ∀k e,dqf f0 f1 k=some e->evKey e=k:=fun k e he=>by
  obtain ⟨id,i0,i1,c⟩:=dqf_some he
  obtain ⟨_,a2,_,a4⟩:=hq id i0 i1
  unfold evKey
  rcases c with ⟨c1,c2⟩|⟨c1,c2⟩
  ·obtain ⟨b1,b2⟩:=a2 e c2;omega
  ·obtain ⟨b1,b2,_⟩:=a4 e c2;omega
 obtain ⟨i1,i2,i3⟩:=due_all g.now g.dq.1.length g.dq _ (Nat.le_refl _) hd hk
 have hnow:=h.b.now
 refine ⟨hd.len,⟨rfl, ?_,i3,⟨f,(fun id=>match f0 id with
   |some e=>if e.At<=g.now then none else some e
   |none=>none),(fun id=>match f1 id with
   |some e=>if e.At<=g.now then none else some e
   |none=>none),hr, ?_,hf, ?_⟩,List.nodup_nil,fun id hi=>by cases hi⟩⟩
 ·intro e he
  obtain ⟨k,k1,k2⟩:=(i2 e).1 he
  obtain ⟨id,j0,j1,c⟩:=dqf_some k1
  obtain ⟨_,a2,_,a4⟩:=hq id j0 j1
  rcases c with ⟨c1,c2⟩|⟨c1,c2⟩
  ·obtain ⟨b1,b2⟩:=a2 e c2
   exact ⟨by omega,by omega, .inl b2⟩
  ·obtain ⟨b1,b2,b3,b4,b5⟩:=a4 e c2
   subst b1
   exact ⟨j0,j1, .inr ⟨b2,b3,b4,b5 (by omega)⟩⟩
 ·show DqV _ _
  have:dqf (fun id=>match f0 id with
   |some e=>if e.At<=g.now then none else some e
   |none=>none) (fun id=>match f1 id with
   |some e=>if e.At<=g.now then none else some e
   |none=>none)=(fun k=>match dqf f0 f1 k with
   |some e=>if e.At<=g.now then none else some e
   |none=>none):=by
   funext k
   unfold dqf
   by_cases r0:0<=k/\ k<512
   ·simp only [if_pos r0]
    by_cases r1:k%8=0
    ·simp only [if_pos r1]
    ·simp only [if_neg r1]
     by_cases r2:k%8=1
     ·simp only [if_pos r2]
     ·simp only [if_neg r2]
   ·simp only [if_neg r0]
  rw [this]
  exact i1
 ·intro id j0 j1
  obtain ⟨a1,a2,a3,a4⟩:=hq id j0 j1
  have m0: ∀e,f0 id=some e->e.At<=r.now->id*8∈(dueL g).map evKey:=fun e he ha=>by
   refine List.mem_map.2 ⟨e,(i2 e).2 ⟨id*8+0,by rw [dqf_0 j0 j1];exact he,by omega⟩, ?_⟩
   obtain ⟨b1,b2⟩:=a2 e he
   unfold evKey;omega
  have m1: ∀e,f1 id=some e->e.At<=r.now->id*8+1∈(dueL g).map evKey:=fun e he ha=>by
   refine List.mem_map.2 ⟨e,(i2 e).2 ⟨id*8+1,by rw [dqf_1 j0 j1];exact he,by omega⟩, ?_⟩
   obtain ⟨b1,b2,_⟩:=a4 e he
   unfold evKey;omega
  dsimp only
  refine ⟨fun hn=> ?_,fun hm=> ?_,fun hi=>(by cases hi),fun hn _=> ?_⟩
  ·rcases a1 with ⟨c1,c2⟩|⟨e,c1,c2,c3,c4⟩
   ·refine ⟨c1, ?_⟩
    rw [c2]
    cases hw:waitF g.ts g.now id with
    |none=>rfl
    |some e=>
     dsimp only
     rw [if_neg]
     intro ha
     exact hn (m0 e (by rw [c2];exact hw) (by omega))
   ·exact absurd (m0 e c1 c4) hn
  ·obtain ⟨e,he1,he2⟩:=List.mem_map.1 hm
   obtain ⟨k,k1,k2⟩:=(i2 e).1 he1
   have:=hk k e k1
   have hk1:k=id*8+1:=by omega
   subst hk1
   rw [dqf_1 j0 j1] at k1
   rw [k1]
   dsimp only
   rw [if_pos k2]
  ·rcases a3 with ⟨c1,c2⟩|⟨e,c1,c2⟩
   ·refine ⟨?_,c2⟩
    rw [c1]
    cases hw:ruleF r id with
    |none=>rfl
    |some e=>
     dsimp only
     rw [if_neg]
     intro ha
     exact hn (m1 e (by rw [c1];exact hw) (by omega))
   ·exact absurd (m1 e c1 c2) hn
def canL (r:RG):Nat->List Int
 |0=>[]
 |x+1=>bif canS r (x:Int) then canL r x++[(x:Int)] else canL r x
theorem canL_mem {r:RG}: ∀ {x:Nat} {id:Int},id∈canL r x↔0<=id/\ id<x/\ canS r id=true
 |0,id=>⟨fun h=>(by cases h),fun ⟨a,b,_⟩=>by omega⟩
 |x+1,id=>by
  unfold canL
  by_cases e:id=x
  ·subst e
   cases hc:canS r (x:Int)
   ·simp only [cond_false]
    rw [canL_mem]
    exact ⟨fun ⟨a,b,_⟩=>by omega,fun ⟨_,_,c⟩=>by cases c⟩
   ·simp only [cond_true,List.mem_append,List.mem_singleton,or_true,true_iff]
    exact ⟨by omega,by omega,trivial⟩
  ·have:id∈(bif canS r (x:Int) then canL r x++[(x:Int)] else canL r x)↔id∈canL r x:=by
    cases canS r (x:Int)
    ·exact Iff.rfl
    ·simp only [cond_true,List.mem_append,List.mem_singleton]
     exact ⟨fun h=>h.resolve_right e, .inl⟩
   rw [this,canL_mem]
   exact ⟨fun ⟨a,b,c⟩=>⟨a,by omega,c⟩,fun ⟨a,b,c⟩=>⟨a,by omega,c⟩⟩
theorem canL_sorted {r:RG}: ∀x:Nat,(canL r x).Pairwise (fun a b=>id a<id b)
 |0=>List.Pairwise.nil
 |x+1=>by
  unfold canL
  cases canS r (x:Int)
  ·exact canL_sorted x
  ·simp only [cond_true]
   rw [List.pairwise_append]
   refine ⟨canL_sorted x,List.pairwise_singleton _ _,fun a ha b hb=> ?_⟩
   rw [List.mem_singleton] at hb
   subst hb
   exact (canL_mem.1 ha).2.1
theorem canL_pre {r:RG} {x:Nat}: ∀y:Nat,x<=y-> ∃t,canL r y=canL r x++t
 |0,h=>⟨[],by rw [show x=0 by omega];simp⟩
 |y+1,h=>by
  by_cases e:x=y+1
  ·exact ⟨[],by rw [e];simp⟩
  ·obtain ⟨t,ht⟩:=canL_pre (r:=r) (x:=x) y (by omega)
   have e2:canL r (y+1)=bif canS r (y:Int) then canL r y++[(y:Int)] else canL r y:=rfl
   rw [e2]
   cases canS r (y:Int)
   ·exact ⟨t,ht⟩
   ·exact ⟨t++[(y:Int)],by simp only [cond_true];rw [ht,List.append_assoc]⟩
theorem canL_at {r:RG} {x y:Nat} (hx:x<y) (hc:canS r (x:Int)=true):at' (0:Int) (canL r y) ((canL r x).length:Int)=x:=by
 obtain ⟨t,ht⟩:=canL_pre (r:=r) (x:=x+1) y hx
 have:canL r (x+1)=canL r x++[(x:Int)]:=by rw [canL,hc];rfl
 rw [ht,this,List.append_assoc,List.singleton_append]
 exact at_mid' (0:Int) (canL r x) x t rfl
theorem rdyF_congr {ts ts':List (Option Rnr)} {now j:Int} (h:0<=j->atO ts j=atO ts' j):rdyF ts now j=rdyF ts' now j:=by
 by_cases hj:0<=j
 ·unfold rdyF isLv
  rw [h hj,rnAt_of (h hj)]
 ·rw [rdyF_out (by omega),rdyF_out (by omega)]
theorem waitF_congr {ts ts':List (Option Rnr)} {now j:Int} (h:0<=j->atO ts j=atO ts' j):waitF ts now j=waitF ts' now j:=by
 by_cases hj:0<=j
 ·unfold waitF isLv
  rw [h hj,rnAt_of (h hj)]
 ·unfold waitF isLv
  rw [decide_eq_false hj];rfl
theorem rdyF_set {ts:List (Option Rnr)} {now id:Int} (h0:0<=id) (h1:id<ts.length) (a:Option Rnr):updF (rdyF ts now) id (rdyF (ts.set id.toNat a) now id)=rdyF (ts.set id.toNat a) now:=by
 funext j
 by_cases e:j=id
 ·subst e;rw [updF_eq]
 ·rw [updF_ne _ _ e]
  exact rdyF_congr fun hj=>by rw [atO_set h0 h1 hj,if_neg e]
theorem waitF_set {ts:List (Option Rnr)} {now id:Int} (h0:0<=id) (h1:id<ts.length) (a:Option Rnr):updF (waitF ts now) id (waitF (ts.set id.toNat a) now id)=waitF (ts.set id.toNat a) now:=by
 funext j
 by_cases e:j=id
 ·subst e;rw [updF_eq]
 ·rw [updF_ne _ _ e]
  exact waitF_congr fun hj=>by rw [atO_set h0 h1 hj,if_neg e]
theorem ruleF_congr {r r':RG} {id:Int} (h:atO r.ts id=atO r'.ts id) (hn:r.now=r'.now):ruleF r id=ruleF r' id/\ canS r id=canS r' id:=by
 unfold ruleF canS
 rw [h,rtAt_of h,hn]
 exact ⟨rfl,rfl⟩
structure SRel (K X:Nat) (r:RG) (x:Nat) (g':EG) (r':RG):Prop where
 b:EGB K (X+x) g' r'
 now:r'.now=r.now
 keep: ∀id,(x:Int)<=id->id<64->atO r'.ts id=atO r.ts id
 rq:RqV g'.rq (rdyF g'.ts g'.now)
 dq: ∃f1,DQ g'.dq (waitF g'.ts g'.now) f1/\ ∀id,0<=id->id<64->((x:Int)<=id->canS r id=true->f1 id=none)/\ (id<x \/canS r id=false->f1 id=ruleF r' id/\ canS r' id=false)
theorem SRel.one {K X:Nat} {r:RG} {x:Nat} {g':EG} {r':RG} (h:SRel K X r x g' r') (hx:x<64) {a:Option Rnr} {b:Option Rts} {e:Ev}
  (hb:EGB K (X+x) { g' with ts:=g'.ts.set (x:Int).toNat a } { r' with ts:=r'.ts.set (x:Int).toNat b }) (hs:canS r (x:Int)=true) (hn: ∀t,b=some t->t.stage=1):
  FilesP { g' with ts:=g'.ts.set (x:Int).toNat a,ev:=g'.ev++[e] } (x:Int)/\ SRel K X r (x+1) (filesG { g' with ts:=g'.ts.set (x:Int).toNat a,ev:=g'.ev++[e] } (x:Int)) { r' with ts:=r'.ts.set (x:Int).toNat b,ev:=r'.ev++[e] }:=by
 obtain ⟨f1,hd,hq⟩:=h.dq
 have x0:(0:Int)<=(x:Int):=by omega
 have x1:(x:Int)<64:=by omega
 have lg:(x:Int)<(g'.ts.length:Int):=by rw [h.b.lg];exact x1
 have lr:(x:Int)<(r'.ts.length:Int):=by rw [h.b.lr];exact x1
 obtain ⟨F1,q',d',F2,F3,F4⟩:=files_ok (g:= { g' with ts:=g'.ts.set (x:Int).toNat a,ev:=g'.ev++[e] }) h.rq hd (fun id hi=>rdyF_out hi) x0 x1 (by simp [h.b.lg]) (by show 0<=g'.now;rw [h.b.now];exact h.b.nowr.1)
 dsimp only at F3 F4
 rw [rdyF_set x0 lg] at F3
 rw [waitF_set x0 lg] at F4
 refine ⟨F1, ?_⟩
 rw [F2]
 have hev:=h.b.evl
 refine ⟨{ hb with ev:= ?_,evl:= ?_ },h.now, ?_,F3,⟨f1,F4,fun id i0 i1=> ?_⟩⟩
 ·dsimp only;rw [h.b.ev]
 ·dsimp only;rw [List.length_append,List.length_singleton];omega
 ·intro id i0 i1
  dsimp only
  rw [atO_set x0 lr (by omega),if_neg (by omega)]
  exact h.keep id (by omega) i1
 ·obtain ⟨a1,a2⟩:=hq id i0 i1
  refine ⟨fun c=>a1 (by omega),fun c=> ?_⟩
  by_cases ex:id=x
  ·subst ex
   rw [a1 (Int.le_refl _) hs]
   unfold ruleF canS
   dsimp only
   rw [atO_set x0 lr x0,if_pos rfl]
   cases b with
   |none=>exact ⟨rfl,rfl⟩
   |some t=>
    have ht:=hn t rfl
    have:rtAt (r'.ts.set (x:Int).toNat (some t)) (x:Int)=t:=by rw [rtAt_set x0 lr x0,if_pos rfl]
    rw [this,ht]
    refine ⟨rfl, ?_⟩
    cases hc:canR r'.now t
    ·rfl
    ·rw [canR_iff] at hc;omega
  ·have h2:=a2 (by rcases c with c|c;exact .inl (by omega);exact .inr c)
   have h3:=ruleF_congr (r:=r') (r':= { r' with ts:=r'.ts.set (x:Int).toNat b,ev:=r'.ev++[e] }) (id:=id) (by dsimp only;rw [atO_set x0 lr i0,if_neg ex]) rfl
   rw [←h3.1,←h3.2]
   exact h2
theorem SRel.step {K X:Nat} {r:RG} {x:Nat} {g':EG} {r':RG} (h:SRel K X r x g' r') (hx:x<64) (hK:1<=K) (hX:X<=1000):
  SetR1P r' (x:Int)/\ (canS r (x:Int)=false->SRel K X r (x+1) g' (setR1 r' (x:Int)))/\ (canS r (x:Int)=true->SetP (x:Int) g'/\ SRel K X r (x+1) (settle1 (x:Int) g') (setR1 r' (x:Int))):=by
 have x0:(0:Int)<=(x:Int):=by omega
 have x1:(x:Int)<64:=by omega
 have hat:=h.keep (x:Int) (Int.le_refl _) x1
 have hcan:canS r' (x:Int)=canS r (x:Int):=(ruleF_congr hat h.now).2
 have hnr:=h.b.nowr
 have hkb:=h.b.kb
 have hevl:=h.b.evl
 refine ⟨⟨h.b.lr,by omega,fun h1 h2 h3 h4=> ?_⟩,fun hc=> ?_,fun hc=> ?_⟩
 ·have ht:=h.b.tr _ x0 x1 h1
  have:=(canR_iff.1 h2).1
  exact (ht.rew (by have:=ht.stg;omega) hnr.1 (by omega)).2.2.1
 ·rw [←hcan] at hc
  unfold setR1
  unfold canS at hc
  rw [hc]
  simp only [cond_false]
  obtain ⟨f1,hd,hq⟩:=h.dq
  refine ⟨h.b.mono (Nat.le_refl _) hkb (by omega),h.now,fun id i0 i1=>h.keep id (by omega) i1,h.rq,⟨f1,hd,fun id i0 i1=> ?_⟩⟩
  obtain ⟨a1,a2⟩:=hq id i0 i1
  refine ⟨fun c=>a1 (by omega),fun c=>a2 ?_⟩
  by_cases e:id=x
  ·subst e;exact .inr (by rw [←hcan];unfold canS;exact hc)
  ·rcases c with c|c
   ·exact .inl (by omega)
   ·exact .inr c
 ·have hc':=hc
  rw [←hcan] at hc'
  unfold canS at hc'
  have hsome:(atO r'.ts (x:Int)).isSome=true:=by rw [Bool.and_eq_true] at hc';exact hc'.1
  have hcR:canR r'.now (rtAt r'.ts (x:Int))=true:=by rw [Bool.and_eq_true] at hc';exact hc'.2
  obtain ⟨c1,c2,c3⟩:=canR_iff.1 hcR
  have ht:=h.b.tr _ x0 x1 hsome
  have hgs:(atO g'.ts (x:Int)).isSome=true:=by rw [h.b.no _ x0 x1];exact hsome
  have hdom:=h.b.dom _ x0 x1 hsome
  have hev:g'.ev.length<=1000000:=by rw [h.b.ev];omega
  unfold settle1 settle0
  unfold setR1
  rw [hc',ht.stage]
  simp only [cond_true]
  rcases ht.stg with q|q|q
  ·omega
  ·rw [show ((rtAt r'.ts (x:Int)).stage==2)=true from beq_iff_eq.2 q]
   simp only [cond_true]
   have hl:=h.one hx (e:=⟨g'.now,(x:Int),2⟩) (h.b.del x0 x1) hc (fun t e=>by cases e)
   have hE:leavesG g' (x:Int)= { g' with ts:=g'.ts.set (x:Int).toNat none,ev:=g'.ev++[⟨g'.now,(x:Int),2⟩] }:=rfl
   have hR:evR (putR r' (x:Int) none) (x:Int) 2= { r' with ts:=r'.ts.set (x:Int).toNat none,ev:=r'.ev++[⟨g'.now,(x:Int),2⟩] }:=by unfold evR putR;rw [h.b.now]
   refine ⟨⟨idOk_iff.2 ⟨x0,x1⟩,h.b.lg,hev,hgs,fun hn=>absurd (by rw [ht.stage];exact q) hn, ?_⟩, ?_⟩
   ·unfold settle0
    rw [ht.stage,show ((rtAt r'.ts (x:Int)).stage==2)=true from beq_iff_eq.2 q]
    simp only [cond_true]
    rw [hE];exact hl.1
   ·rw [hE,hR];exact hl.2
  ·rw [show ((rtAt r'.ts (x:Int)).stage==2)=false from beq_eq_false_iff_ne.2 (by omega)]
   simp only [cond_false]
   obtain ⟨w1,w2,w3,w4⟩:=ht.rew q hnr.1 (by omega)
   have hgn:=h.b.now
   have hpin:(rewRT r'.now (rtAt r'.ts (x:Int))).pin=(rtAt r'.ts (x:Int)).pin:=by
    unfold rewRT;cases decide ((rtAt r'.ts (x:Int)).kept>0)<;>rfl
   have hstg:(rewRT r'.now (rtAt r'.ts (x:Int))).stage=1:=by
    unfold rewRT;cases decide ((rtAt r'.ts (x:Int)).kept>0)<;>rfl
   have hput:=h.b.put x0 x1 (w4.mono hK) hdom (by
    rw [hpin]
    by_cases e:(rtAt r'.ts (x:Int)).pin= -1
    ·exact .inl e
    ·refine .inr fun j j0 j1 hj hs hp=> ?_
     rcases h.b.pins j (x:Int) j0 j1 x0 x1 hs hsome hp with e'|e'
     ·exact hj e'
     ·rw [hp] at e';exact e e')
   have hl:=h.one hx (e:=⟨g'.now,(x:Int),3⟩) hput hc (fun t e=>by cases e;exact hstg)
   have hE:reweightsG g' (x:Int)= { g' with ts:=g'.ts.set (x:Int).toNat (some (rewT r'.now (rnAt g'.ts (x:Int)))),ev:=g'.ev++[⟨g'.now,(x:Int),3⟩] }:=by
    unfold reweightsG setT' tellsG;rw [hgn]
   have hR:evR (putR r' (x:Int) (some (rewRT r'.now (rtAt r'.ts (x:Int))))) (x:Int) 3= { r' with ts:=r'.ts.set (x:Int).toNat (some (rewRT r'.now (rtAt r'.ts (x:Int)))),ev:=r'.ev++[⟨g'.now,(x:Int),3⟩] }:=by unfold evR putR;rw [hgn]
   refine ⟨⟨idOk_iff.2 ⟨x0,x1⟩,h.b.lg,hev,hgs,fun _=>⟨w1,by rw [hgn];exact hnr.1,by rw [hgn];omega,by rw [hgn];exact w2⟩, ?_⟩, ?_⟩
   ·unfold settle0
    rw [ht.stage,show ((rtAt r'.ts (x:Int)).stage==2)=false from beq_eq_false_iff_ne.2 (by omega)]
    simp only [cond_false]
    rw [hE];exact hl.1
   ·rw [hE,hR];exact hl.2
theorem setN_succ {ids:List Int} {n:Nat} {g:EG}:setN ids (n+1) g=settle1 (at' (0:Int) ids (n:Int)) (setN ids n g):=rfl
theorem SRel.all {K X:Nat} {g1:EG} {r:RG} (h:SRel K X r 0 g1 r) (hK:1<=K) (hX:X<=1000): ∀x:Nat,x<=64→
  SRel K X r x (setN (canL r 64) (canL r x).length g1) (setR x r)/\ (∀k,k<(canL r x).length->SetP (at' (0:Int) (canL r 64) (k:Int)) (setN (canL r 64) k g1))/\ ∀y:Nat,y<x->SetR1P (setR y r) (y:Int)
 |0,_=>⟨h,fun k hk=>absurd hk (Nat.not_lt_zero _),fun y hy=>absurd hy (Nat.not_lt_zero _)⟩
 |x+1,hx=>by
  obtain ⟨i1,i2,i3⟩:=SRel.all h hK hX x (by omega)
  obtain ⟨s1,s2,s3⟩:=i1.step (by omega) hK hX
  have hy: ∀y:Nat,y<x+1->SetR1P (setR y r) (y:Int):=fun y hy=>by
   by_cases e:y=x
   ·subst e;exact s1
   ·exact i3 y (by omega)
  cases hc:canS r (x:Int)
  ·have e:canL r (x+1)=canL r x:=by rw [canL,hc];rfl
   rw [e]
   exact ⟨s2 hc,i2,hy⟩
  ·have e:canL r (x+1)=canL r x++[(x:Int)]:=by rw [canL,hc];rfl
   have hat:=canL_at (r:=r) (x:=x) (y:=64) (by omega) hc
   obtain ⟨p1,p2⟩:=s3 hc
   rw [e,List.length_append,List.length_singleton]
   refine ⟨?_,fun k hk=> ?_,hy⟩
   ·rw [setN_succ,hat];exact p2
   ·by_cases ek:k=(canL r x).length
    ·subst ek
     rw [hat];exact p1
    ·exact i2 k (by omega)
theorem dom_len {l:List Int} (hn:l.Nodup) (h: ∀id∈l,0<=id/\ id<64/\ Dom id):l.length<=11:=by
 have h1:(l.map fun id=>if id=63 then (10:Int) else id).Nodup:=by
  rw [List.Nodup,List.pairwise_map]
  refine List.Pairwise.imp_of_mem ?_ hn
  intro a b ha hb hab
  obtain ⟨a0,a1,a2⟩:=h a ha
  obtain ⟨b0,b1,b2⟩:=h b hb
  unfold Dom at a2 b2
  split<;>split<;>omega
 have:=nodup_bound 11 h1 (fun a ha=>by
  obtain ⟨b,hb,rfl⟩:=List.mem_map.1 ha
  obtain ⟨b0,b1,b2⟩:=h b hb
  unfold Dom at b2
  split<;>omega)
 simpa using this
theorem EGP.settle {K X:Nat} {g:EG} {r:RG} (h:EGP K X g r) (hK:1<=K) (hX:X<=1000):SettleP g/\ SetRP r/\ EGR K (X+64) (settlesG g) (setR 64 r):=by
 obtain ⟨hdl,hD⟩:=h.due
 have hall:=hD.all h.b
 obtain ⟨hE,_⟩:=hall (dueL g).length (Nat.le_refl _)
 rw [List.drop_length] at hE
 have hE:DInv K X g r [] (due1 g):=hE
 have hDl:(dueL g).length<=512:=by
  have:=nodup_bound 512 hD.nd (fun a ha=>by
   obtain ⟨e,he,rfl⟩:=List.mem_map.1 ha
   obtain ⟨e0,e1,ek⟩:=hD.mem e he
   unfold evKey
   omega)
  simpa using this
 obtain ⟨f,f0,f1,hr,hd,hf,hids⟩:=hE.ex
 have hmem: ∀id,id∈(due1 g).2↔id∈canL r 64:=fun id=>by
  rw [canL_mem]
  constructor
  ·intro hi
   obtain ⟨a,b,c,_⟩:=hE.ids.2 id hi
   exact ⟨a,by omega,c⟩
  ·rintro ⟨a,b,c⟩
   refine Classical.byContradiction fun hn=> ?_
   have:=((hids id a (by omega)).2.2.2 (by simp) hn).2
   rw [this] at c;cases c
 have hsrt:srtI (due1 g).2=canL r 64:=by
  refine sorted_ext (key:=id) (srt_strict zI (fun a b=>ltI_dec a b) (by simpa using hE.ids.1)) (canL_sorted 64) fun a=> ?_
  exact (srt_mem zI a).trans (hmem a)
 have hlen:(due1 g).2.length=(canL r 64).length:=by
  rw [←hsrt];exact (isrtZ_length _ _ _ _).symm
 have hsame:=hE.same
 have hts:(due1 g).1.ts=g.ts:=by rw [hsame]
 have hnow:(due1 g).1.now=g.now:=by rw [hsame]
 have h0:SRel K X r 0 (due1 g).1 r:=by
  have hb1:EGB K X (due1 g).1 r:=by
   rw [hsame]
   exact { h.b with }
  refine ⟨hb1,rfl,fun _ _ _=>rfl, ?_,⟨f1, ?_,fun id i0 i1=> ?_⟩⟩
  ·have:f=rdyF (due1 g).1.ts (due1 g).1.now:=by
    funext id
    rw [hts,hnow]
    by_cases c:0<=id/\ id<64
    ·exact ((hids id c.1 c.2).1 (by simp)).1
    ·rw [hf id c,rdyF_out c]
   rw [←this];exact hr
  ·have:dqf f0 f1=dqf (waitF (due1 g).1.ts (due1 g).1.now) f1:=dqf_congr fun id i0 i1=>⟨by rw [hts,hnow];exact ((hids id i0 i1).1 (by simp)).2,rfl⟩
   unfold DQ
   rw [←this];exact hd
  ·obtain ⟨a1,a2,a3,a4⟩:=hids id i0 i1
   refine ⟨fun _ hc=>a3 ((hmem id).2 (canL_mem.2 ⟨i0,by omega,hc⟩)),fun c=> ?_⟩
   have hc:canS r id=false:=by
    rcases c with c|c
    ·omega
    ·exact c
   refine a4 (by simp) fun hi=> ?_
   have:=(canL_mem.1 ((hmem id).1 hi)).2.2
   rw [hc] at this;cases this
 obtain ⟨s1,s2,s3⟩:=h0.all hK hX 64 (Nat.le_refl _)
 refine ⟨⟨by omega,by omega,fun x hx=>(hall x (by omega)).2 hx, ?_, ?_⟩,s3, ?_⟩
 ·have:=dom_len hE.ids.1 (fun id hi=>by
   obtain ⟨a,b,c,_⟩:=hE.ids.2 id hi
   unfold canS at c
   rw [Bool.and_eq_true] at c
   exact ⟨a,b,h.b.dom id a b c.1⟩)
  omega
 ·intro x hx
  rw [hsrt]
  exact s2 x (by omega)
 ·have hG:settlesG g=setN (canL r 64) (canL r 64).length (due1 g).1:=by
   unfold settlesG
   rw [hsrt,hlen]
  rw [hG]
  obtain ⟨f1',hd',hq'⟩:=s1.dq
  refine ⟨s1.b,s1.rq, ?_,fun id i0 i1=>((hq' id i0 i1).2 (.inl (by omega))).2⟩
  have:dqf (waitF (setN (canL r 64) (canL r 64).length (due1 g).1).ts (setN (canL r 64) (canL r 64).length (due1 g).1).now) f1'=dqf (waitF (setN (canL r 64) (canL r 64).length (due1 g).1).ts (setN (canL r 64) (canL r 64).length (due1 g).1).now) (ruleF (setR 64 r)):=dqf_congr fun id i0 i1=>⟨rfl,((hq' id i0 i1).2 (.inl (by omega))).1⟩
  unfold DQ
  rw [←this];exact hd'
noncomputable def tab58:Tab T O:=tab57
theorem tabOk58:TabOk R Tryz.prog tab58:=tabOk57
end Go.Proofs.YtlfjbnflfdnoaaaGreat
namespace Go.Proofs.YtlfjbnflfdnoaaaGreat
open Go.Sx Go.Proofs Classical
theorem insE_perm (x:Entry): ∀l:List Entry,(insE x l).Perm (x::l)
 |[]=>List.Perm.refl _
 |y::l=>by
  simp only [insE]
  cases prioLess x y
  ·exact ((insE_perm x l).cons y).trans (List.Perm.swap x y l)
  ·exact List.Perm.refl _
theorem srtE_perm (L:List Entry):(srtE L).Perm L:=by
 have: ∀(L acc:List Entry),(L.foldl (fun acc x=>insE x acc) acc).Perm (acc++L):=by
  intro L
  induction L with
  |nil=>intro acc;simp
  |cons a L ih=>
   intro acc
   rw [List.foldl_cons]
   exact (ih _).trans (((insE_perm a acc).append_right L).trans (by simpa using (List.perm_middle (a:=a) (l₁:=acc) (l₂:=L)).symm))
 simpa [srtE] using this L []
theorem rdyN_mem {r:RG} {e:Entry}: ∀ {n:Nat},e∈rdyN r n↔ ∃id:Nat,id<n/\ (atO r.ts (id:Int)).isSome=true/\ rdyR (rtAt r.ts (id:Int)).t.early r.now (rtAt r.ts (id:Int)).t.waits=true/\ e=entS (id:Int) (headT (rtAt r.ts (id:Int)).t.waits)
 |0=>⟨fun h=>(by cases h),fun ⟨_,h,_⟩=>absurd h (Nat.not_lt_zero _)⟩
 |n+1=>by
  unfold rdyN
  cases hb:(atO r.ts (n:Int)).isSome&&rdyR (rtAt r.ts (n:Int)).t.early r.now (rtAt r.ts (n:Int)).t.waits
  ·simp only [cond_false]
   rw [rdyN_mem]
   constructor
   ·rintro ⟨id,a,b⟩;exact ⟨id,by omega,b⟩
   ·rintro ⟨id,a,b,c,d⟩
    by_cases e':id=n
    ·subst e';rw [b,c] at hb;cases hb
    ·exact ⟨id,by omega,b,c,d⟩
  ·simp only [cond_true,List.mem_append,List.mem_singleton]
   rw [rdyN_mem]
   rw [Bool.and_eq_true] at hb
   constructor
   ·rintro (⟨id,a,b⟩|rfl)
    ·exact ⟨id,by omega,b⟩
    ·exact ⟨n,by omega,hb.1,hb.2,rfl⟩
   ·rintro ⟨id,a,b,c,d⟩
    by_cases e':id=n
    ·subst e';exact .inr d
    ·exact .inl ⟨id,by omega,b,c,d⟩
theorem rdyN_ids (r:RG): ∀n,(rdyN r n).Pairwise (fun a b=>a.ID<b.ID)
 |0=>List.Pairwise.nil
 |n+1=>by
  unfold rdyN
  cases hb:(atO r.ts (n:Int)).isSome&&rdyR (rtAt r.ts (n:Int)).t.early r.now (rtAt r.ts (n:Int)).t.waits
  ·exact rdyN_ids r n
  ·simp only [cond_true]
   rw [List.pairwise_append]
   refine ⟨rdyN_ids r n,List.pairwise_singleton _ _,fun a ha b hb=> ?_⟩
   rw [List.mem_singleton] at hb
   subst hb
   obtain ⟨id,h1,_,_,h4⟩:=rdyN_mem.1 ha
   subst h4
   unfold entS
   dsimp only
   omega
theorem rdy_when {te:Bool} {now:Int} {W:List Sub} (h0:0<=now):rdyR te now W=(someT W&&decide (whenT te W<=now)):=by
 unfold rdyR whenT
 cases someT W
 ·rfl
 ·cases te
  ·simp only [Bool.true_and,Bool.false_or,Bool.not_true,cond_false]
   by_cases c:(headT W).Release>now
   ·rw [decide_eq_true c,decide_eq_false (by omega)];rfl
   ·rw [decide_eq_false c,decide_eq_true (by omega)];rfl
  ·simp only [Bool.true_and,Bool.true_or,Bool.not_true,Bool.or_true,cond_true]
   rw [decide_eq_true h0]
theorem EGB.rdy {K X:Nat} {g:EG} {r:RG} (h:EGB K X g r) (id:Int) (e:Entry):rdyF g.ts g.now id=some e↔e∈rdyN r 64/\ e.ID=id:=by
 rw [rdyN_mem]
 by_cases c:0<=id/\ id<64
 ·have hlv:=h.lv c.1 c.2
  unfold rdyF
  rw [hlv]
  constructor
  ·intro he
   cases hb:(atO r.ts id).isSome&&someT (rnAt g.ts id).t.waits&&decide (whenT (rnAt g.ts id).t.early (rnAt g.ts id).t.waits<=g.now)
   ·rw [hb] at he;cases he
   ·rw [hb] at he
    simp only [cond_true,Option.some.injEq] at he
    rw [Bool.and_eq_true,Bool.and_eq_true] at hb
    have ht:=h.tr id c.1 c.2 hb.1.1
    refine ⟨⟨id.toNat,by omega, ?_, ?_, ?_⟩,by rw [←he];rfl⟩
    ·rw [show ((id.toNat:Nat):Int)=id by omega];exact hb.1.1
    ·rw [show ((id.toNat:Nat):Int)=id by omega,rdy_when h.nowr.1,←ht.waits,←ht.ea,←h.now,hb.1.2,hb.2];rfl
    ·rw [show ((id.toNat:Nat):Int)=id by omega,←ht.waits];exact he.symm
  ·rintro ⟨⟨j,j1,j2,j3,j4⟩,hid⟩
   have hj:(j:Int)=id:=by rw [←hid,j4];rfl
   rw [hj] at j2 j3 j4
   have ht:=h.tr id c.1 c.2 j2
   rw [rdy_when h.nowr.1,←ht.waits,←ht.ea,←h.now] at j3
   rw [j2,Bool.true_and,j3,j4,←ht.waits]
   rfl
 ·rw [rdyF_out c]
  constructor
  ·intro he;cases he
  ·rintro ⟨⟨j,j1,j2,j3,j4⟩,hid⟩
   have hj:(j:Int)=id:=by rw [←hid,j4];rfl
   omega
theorem entT_ething (k:Int) (x:Entry):entT (ething k x)=x:=rfl
theorem ele_lt {x y:Entry} (h:ele' (ething x.ID x) (ething y.ID y)): ¬lt6 y x:=by
 unfold ele' ething at h
 unfold ekB ekG at h
 dsimp only at h
 unfold lt6
 by_cases h1:x.SubBit=1<;>by_cases h2:y.SubBit=1<;>simp only [h1,h2,if_true,if_false] at h<;>omega
theorem pk_sorted {s:eHS} {f:Int->Option Entry} {L:List Entry} (h:RqV s f) (hL:L.Pairwise (fun a b=> ¬lt6 b a)) (hid:(L.map fun e=>e.ID).Nodup) (hf: ∀id e,f id=some e↔e∈L/\ e.ID=id): ∀n,n<=L.length→
  (pk n s).1=L.take n/\ RqV (pk n s).2 (fun id=>if (L.take n).any (fun e=>e.ID==id) then none else f id)
 |0,_=>⟨by simp [pk],by simpa [pk] using h⟩
 |n+1,hn=>by
  have hn':n<L.length:=hn
  obtain ⟨i1,i2⟩:=pk_sorted h hL hid hf n (by omega)
  have hany: ∀e∈L.drop n,(L.take n).any (fun x=>x.ID==e.ID)=false:=by
   intro e he
   rw [Bool.eq_false_iff]
   intro hh
   obtain ⟨x,hx,hxe⟩:=List.any_eq_true.1 hh
   rw [←List.take_append_drop n L,List.map_append,List.nodup_append] at hid
   exact hid.2.2 x.ID (List.mem_map_of_mem hx) e.ID (List.mem_map_of_mem he) (by simpa using hxe)
  have hmem:L[n]∈L.drop n:=by rw [List.drop_eq_getElem_cons hn'];exact List.mem_cons_self
  have hfn:(if (L.take n).any (fun e=>e.ID==L[n].ID)=true then none else f L[n].ID)=some L[n]:=by
   rw [hany _ hmem]
   exact (hf _ _).2 ⟨List.getElem_mem hn',rfl⟩
  have hp:0<(pk n s).2.1.length:=by
   refine Nat.pos_of_ne_zero fun e=> ?_
   have:=i2.empty.1 e L[n].ID
   rw [hfn] at this;cases this
  obtain ⟨x,hx,he,hmin⟩:=i2.min hp
  have hx':x=L[n]:=by
   by_cases ha:(L.take n).any (fun e=>e.ID==(egN (pk n s).2.1 0).Id)=true
   ·rw [if_pos ha] at hx;cases hx
   ·rw [if_neg ha] at hx
    obtain ⟨hxL,hxid⟩:=(hf _ _).1 hx
    have hxd:x∈L.drop n:=by
     rw [←List.take_append_drop n L] at hxL
     rcases List.mem_append.1 hxL with q|q
     ·exfalso
      refine ha (List.any_eq_true.2 ⟨x,q, ?_⟩)
      rw [beq_iff_eq];exact hxid
     ·exact q
    have h1:=hmin _ _ hfn
    rw [he,←hxid] at h1
    have h1:=ele_lt h1
    rw [List.drop_eq_getElem_cons hn'] at hxd
    rcases List.mem_cons.1 hxd with q|q
    ·exact q
    ·have hs: ¬lt6 x L[n]:=by
      have:=List.pairwise_iff_getElem.1 hL
      obtain ⟨j,hj,rfl⟩:=List.getElem_of_mem q
      rw [List.getElem_drop]
      exact this n (n+1+j) hn' (by rw [List.length_drop] at hj;omega) (by omega)
     have hne:x.ID≠L[n].ID:=by
      intro e
      obtain ⟨j,hj,rfl⟩:=List.getElem_of_mem q
      rw [List.getElem_drop] at e
      have hnd:=List.pairwise_iff_getElem.1 hid n (n+1+j) (by simpa using hn') (by rw [List.length_drop] at hj;simp;omega) (by omega)
      simp only [List.getElem_map] at hnd
      exact hnd e.symm
     rcases lt6_total hne with q1|q1
     ·exact absurd q1 hs
     ·exact absurd q1 h1
  have hat:at' etZ (pk n s).2.1 0=egN (pk n s).2.1 0:=rfl
  have ht:=(i2.take hp).1
  have hid0:(egN (pk n s).2.1 0).Id=L[n].ID:=by
   by_cases ha:(L.take n).any (fun e=>e.ID==(egN (pk n s).2.1 0).Id)=true
   ·rw [if_pos ha] at hx;cases hx
   ·rw [if_neg ha] at hx
    rw [←hx'];exact ((hf _ _).1 hx).2.symm
  refine ⟨?_, ?_⟩
  ·simp only [pk]
   rw [i1,hat,he,entT_ething,hx',take_at hn']
  ·simp only [pk]
   rw [hid0] at ht
   have e:updF (fun id=>if (L.take n).any (fun e=>e.ID==id) then none else f id) L[n].ID none=(fun id=>if (L.take (n+1)).any (fun e=>e.ID==id) then none else f id):=by
    funext id
    rw [take_at hn',List.any_append]
    by_cases c:id=L[n].ID
    ·subst c
     rw [updF_eq]
     simp
    ·rw [updF_ne _ _ c]
     have:(L[n].ID==id)=false:=beq_eq_false_iff_ne.2 (fun q=>c q.symm)
     simp [this]
   rw [←e]
   exact ht
theorem pickR_ids (r:RG):((pickR r).map fun e=>e.ID).Nodup:=by
 have h1:((rdyN r 64).map fun e=>e.ID).Nodup:=by
  rw [List.Nodup,List.pairwise_map]
  exact List.Pairwise.imp (fun h=>by omega) (rdyN_ids r 64)
 have h2:((srtE (rdyN r 64)).map fun e=>e.ID).Nodup:=(((srtE_perm _).map _).nodup_iff).2 h1
 exact h2.sublist ((List.take_sublist _ _).map _)
theorem EGB.pick {K X:Nat} {g:EG} {r:RG} (h:EGB K X g r) (hq:RqV g.rq (rdyF g.ts g.now)):pickL g=pickR r/\ RqV (pickG g).rq (fun id=>if (pickR r).any (fun e=>e.ID==id) then none else rdyF g.ts g.now id)/\ (pickR r).length<=r.m.toNat/\ g.rq.1.length<=64:=by
 have hs:(srtE (rdyN r 64)).Pairwise (fun a b=> ¬lt6 b a):=srtE_sorted _
 have h1:((rdyN r 64).map fun e=>e.ID).Nodup:=by
  rw [List.Nodup,List.pairwise_map]
  exact List.Pairwise.imp (fun h=>by omega) (rdyN_ids r 64)
 have h2:((srtE (rdyN r 64)).map fun e=>e.ID).Nodup:=(((srtE_perm _).map _).nodup_iff).2 h1
 have hf: ∀id e,rdyF g.ts g.now id=some e↔e∈srtE (rdyN r 64)/\ e.ID=id:=fun id e=>by
  rw [h.rdy id e,(srtE_perm _).mem_iff]
 have key:=pk_sorted hq hs h2 hf
 have hlen:g.rq.1.length=(srtE (rdyN r 64)).length:=by
  obtain ⟨_,k2⟩:=key _ (Nat.le_refl _)
  have e1:=pk_len2 g.rq (srtE (rdyN r 64)).length
  have e2:=k2.empty.2 (fun id=>by
   rw [List.take_length]
   cases hr:rdyF g.ts g.now id with
   |none=>split<;>rfl
   |some e=>
    rw [if_pos]
    obtain ⟨a,b⟩:=(hf id e).1 hr
    exact List.any_eq_true.2 ⟨e,a,beq_iff_eq.2 b⟩)
  refine Nat.le_antisymm (by omega) (Nat.not_lt.1 fun hlt=> ?_)
  obtain ⟨_,k3⟩:=key g.rq.1.length (by omega)
  have e3:=pk_len2 g.rq g.rq.1.length
  have e4:=k3.empty.1 (by omega) (srtE (rdyN r 64))[g.rq.1.length].ID
  have hmem:=List.getElem_mem hlt
  rw [(hf _ _).2 ⟨hmem,rfl⟩] at e4
  by_cases ha:((srtE (rdyN r 64)).take g.rq.1.length).any (fun e=>e.ID==(srtE (rdyN r 64))[g.rq.1.length].ID)=true
  ·obtain ⟨x,hx,hxe⟩:=List.any_eq_true.1 ha
   rw [←List.take_append_drop g.rq.1.length (srtE (rdyN r 64)),List.map_append,List.nodup_append] at h2
   refine h2.2.2 x.ID (List.mem_map_of_mem hx) (srtE (rdyN r 64))[g.rq.1.length].ID (List.mem_map_of_mem ?_) (by simpa using hxe)
   rw [List.drop_eq_getElem_cons hlt];exact List.mem_cons_self
  ·rw [if_neg ha] at e4;cases e4
 have hpn:pkN g<=(srtE (rdyN r 64)).length:=by unfold pkN;omega
 obtain ⟨k1,k2⟩:=key (pkN g) hpn
 have htk:(srtE (rdyN r 64)).take (pkN g)=pickR r:=by
  unfold pickR pkN
  rw [hlen,h.m]
  rcases Nat.le_total r.m.toNat (srtE (rdyN r 64)).length with c|c
  ·rw [Nat.min_eq_left c]
  ·rw [Nat.min_eq_right c,List.take_of_length_le (Nat.le_refl _),List.take_of_length_le c]
 rw [htk] at k1 k2
 refine ⟨k1,k2, ?_, ?_⟩
 ·unfold pickR;rw [List.length_take];omega
 ·rw [hlen,srtE_length];exact rdyN_len r 64
theorem TR.run {m:Int} {K:Nat} {a:Rnr} {b:Rts} (h:TR m K a b) (hK:K<=100000) {c:Int} (hc:0<=c/\ c<m):TR m (K+1) (runT a c) (runRT b c):=by
 obtain ⟨n,h1,h2,h3,h4,h5⟩:=h.st
 have hd:=h.dn
 have hw:IntKind.i64.wrap (b.t.done+1)=b.t.done+1:=wrap_id (by omega) (by omega)
 have hsub: ∀x∈b.t.waits.drop 1,x∈b.t.waits:=fun x hx=>List.mem_of_mem_drop hx
 unfold runT runRT
 exact { wt:=h.wt,E:=h.E,P:=h.P,ea:=h.ea,eb:=h.eb,cut:=h.cut,waits:=by dsimp only;rw [h.waits],ran:=by dsimp only;rw [h.waits],done:=by dsimp only;rw [h.done],dn:=by dsimp only;rw [hw];omega,st:=⟨n,h1,by omega,h3,h4,fun x hx=>h5 x (hsub x hx)⟩,off:=h.off,len:=by dsimp only;rw [List.length_drop];have:=h.len;omega,srt:=h.srt.sublist (List.drop_sublist _ _),stage:=h.stage,stg:=h.stg,pin:=h.pin,pinb:=h.pinb,last:=rfl,lastb:=by dsimp only;omega,since:=h.since,nxt:=h.nxt }
theorem note_eq {m:Int} {K:Nat} {a:Rnr} {b:Rts} (h:TR m K a b) (now id c:Int):noteT now id c a=noteRT now id c b:=by
 unfold noteT noteRT
 rw [h.waits,h.since,h.eb]
 cases b.t.early
 ·simp only [Bool.not_false,Bool.true_and,cond_false]
  by_cases q:(headT b.t.waits).Release>b.since
  ·rw [if_pos q,decide_eq_true q];rfl
  ·rw [if_neg q,decide_eq_false q];rfl
 ·rfl
def visR1 (l:List Entry) (co:List Int) (c i:Int) (v:List Run):List Run:=bif at' (0:Int) co i==c then v++[⟨(at' zEn l i).ID,c,0⟩] else v
def visI (l:List Entry) (co:List Int) (c:Nat):Nat->List Run->List Run
 |0,v=>v
 |n+1,v=>visR1 l co (c:Int) (n:Int) (visI l co c n v)
def visO (l:List Entry) (co:List Int):Nat->List Run
 |0=>[]
 |n+1=>visI l co n l.length (visO l co n)
def goOne (q:RG×List Run) (u:Run):RG×List Run:=(runRG q.1 u.ID u.Core,q.2++[⟨u.ID,u.Core,(headT (rtAt q.1.ts u.ID).t.waits).Index⟩])
theorem inR_vis {l:List Entry} {co:List Int} {c:Nat} {q0:RG×List Run}: ∀ {n:Nat} {q:RG×List Run} {v:List Run},q=v.foldl goOne q0->inR l co c n q=(visI l co c n v).foldl goOne q0
 |0,q,v,h=>h
 |n+1,q,v,h=>by
  simp only [inR,visI]
  have ih:=inR_vis (l:=l) (co:=co) (c:=c) (n:=n) h
  unfold inR1 visR1
  cases at' (0:Int) co (n:Int)==(c:Int)
  ·exact ih
  ·simp only [cond_true]
   rw [List.foldl_append,←ih]
   rfl
theorem outR_vis {l:List Entry} {co:List Int} {q0:RG×List Run}: ∀n,outR l co n q0=(visO l co n).foldl goOne q0
 |0=>rfl
 |n+1=>by
  simp only [outR,visO]
  exact inR_vis (outR_vis n)
theorem visI_mem {l:List Entry} {co:List Int} {c:Nat} {u:Run} {v:List Run}: ∀n,u∈visI l co c n v↔u∈v \/ ∃i:Nat,i<n/\ at' (0:Int) co (i:Int)=c/\ u=⟨(at' zEn l (i:Int)).ID,c,0⟩
 |0=>⟨fun h=> .inl h,fun h=>by rcases h with h|⟨i,hi,_⟩;exact h;exact absurd hi (Nat.not_lt_zero _)⟩
 |n+1=>by
  simp only [visI]
  unfold visR1
  cases hb:at' (0:Int) co (n:Int)==(c:Int)
  ·simp only [cond_false]
   rw [visI_mem n]
   constructor
   ·rintro (h|⟨i,a,b⟩)
    ·exact .inl h
    ·exact .inr ⟨i,by omega,b⟩
   ·rintro (h|⟨i,a,b,d⟩)
    ·exact .inl h
    ·refine .inr ⟨i, ?_,b,d⟩
     have:i≠n:=by rintro rfl;rw [b] at hb;simp at hb
     omega
  ·simp only [cond_true,List.mem_append,List.mem_singleton]
   rw [visI_mem n]
   have hb:at' (0:Int) co (n:Int)=c:=by simpa using hb
   constructor
   ·rintro ((h|⟨i,a,b⟩)|rfl)
    ·exact .inl h
    ·exact .inr ⟨i,by omega,b⟩
    ·exact .inr ⟨n,by omega,hb,rfl⟩
   ·rintro (h|⟨i,a,b,d⟩)
    ·exact .inl (.inl h)
    ·by_cases e:i=n
     ·subst e;exact .inr d
     ·exact .inl (.inr ⟨i,by omega,b,d⟩)
theorem visO_mem {l:List Entry} {co:List Int} {u:Run}: ∀n,u∈visO l co n↔ ∃i c:Nat,i<l.length/\ c<n/\ at' (0:Int) co (i:Int)=c/\ u=⟨(at' zEn l (i:Int)).ID,c,0⟩
 |0=>⟨fun h=>(by cases h),fun ⟨_,c,_,h,_⟩=>absurd h (Nat.not_lt_zero _)⟩
 |n+1=>by
  simp only [visO]
  rw [visI_mem,visO_mem n]
  constructor
  ·rintro (⟨i,c,a,b,d⟩|⟨i,a,b,d⟩)
   ·exact ⟨i,c,a,by omega,d⟩
   ·exact ⟨i,n,a,by omega,b,d⟩
  ·rintro ⟨i,c,a,b,d,e⟩
   by_cases q:c=n
   ·subst q;exact .inr ⟨i,a,d,e⟩
   ·exact .inl ⟨i,c,a,by omega,d,e⟩
theorem visI_sorted {l:List Entry} {co:List Int} {c:Nat} {v:List Run} (hco: ∀i j:Nat,i<l.length->j<l.length->at' (0:Int) co (i:Int)=at' (0:Int) co (j:Int)->i=j) (hv:v.Pairwise (fun a b=>a.Core<b.Core)) (hc: ∀u∈v,u.Core<c): ∀n,n<=l.length->(visI l co c n v).Pairwise (fun a b=>a.Core<b.Core)
 |0,_=>hv
 |n+1,hn=>by
  simp only [visI]
  have ih:=visI_sorted hco hv hc n (by omega)
  unfold visR1
  cases hb:at' (0:Int) co (n:Int)==(c:Int)
  ·exact ih
  ·simp only [cond_true]
   rw [List.pairwise_append]
   refine ⟨ih,List.pairwise_singleton _ _,fun a ha b hb'=> ?_⟩
   rw [List.mem_singleton] at hb'
   subst hb'
   have hb:at' (0:Int) co (n:Int)=c:=by simpa using hb
   rcases (visI_mem n).1 ha with h|⟨i,i1,i2,i3⟩
   ·exact hc a h
   ·have:=hco i n (by omega) (by omega) (by rw [i2,hb])
    omega
theorem visO_sorted {l:List Entry} {co:List Int} (hco: ∀i j:Nat,i<l.length->j<l.length->at' (0:Int) co (i:Int)=at' (0:Int) co (j:Int)->i=j): ∀n,(visO l co n).Pairwise (fun a b=>a.Core<b.Core)
 |0=>List.Pairwise.nil
 |n+1=>by
  simp only [visO]
  refine visI_sorted hco (visO_sorted hco n) (fun u hu=> ?_) _ (Nat.le_refl _)
  obtain ⟨i,c,_,h2,_,h4⟩:=(visO_mem n).1 hu
  subst h4
  dsimp only
  omega
theorem runs0_mem {l:List Entry} {co:List Int} {u:Run}: ∀n,u∈runs0 l co n↔ ∃i:Nat,i<n/\ u=⟨(at' zEnt l (i:Int)).ID,at' (0:Int) co (i:Int),0⟩
 |0=>⟨fun h=>(by cases h),fun ⟨_,h,_⟩=>absurd h (Nat.not_lt_zero _)⟩
 |n+1=>by
  simp only [runs0,List.mem_append,List.mem_singleton]
  rw [runs0_mem n]
  constructor
  ·rintro (⟨i,a,b⟩|rfl)
   ·exact ⟨i,by omega,b⟩
   ·exact ⟨n,by omega,rfl⟩
  ·rintro ⟨i,a,b⟩
   by_cases e:i=n
   ·subst e;exact .inr b
   ·exact .inl ⟨i,by omega,b⟩
theorem runs0_core {l:List Entry} {co:List Int} (hco: ∀i j:Nat,i<l.length->j<l.length->at' (0:Int) co (i:Int)=at' (0:Int) co (j:Int)->i=j): ∀n,n<=l.length->((runs0 l co n).map fun u=>u.Core).Nodup
 |0,_=>List.nodup_nil
 |n+1,hn=>by
  simp only [runs0,List.map_append,List.map_cons,List.map_nil]
  rw [List.nodup_append]
  refine ⟨runs0_core hco n (by omega),by simp,fun a ha b hb=> ?_⟩
  rw [List.mem_singleton] at hb
  subst hb
  obtain ⟨u,hu,rfl⟩:=List.mem_map.1 ha
  obtain ⟨i,i1,rfl⟩:=(runs0_mem n).1 hu
  dsimp only
  intro e
  have:=hco i n (by omega) (by omega) e
  omega
theorem cmpI_lt (a b:Int):decide (cmpI a b<0)=decide (a<b):=by
 unfold cmpI nanI
 by_cases h:a<b
 ·simp [h]
 ·by_cases h2:a>b
  ·simp [h,h2]
  ·simp [h,h2]
theorem ltRun_dec (a b:Run):ltRun a b=decide (a.Core<b.Core):=cmpI_lt _ _
theorem vis_eq {l:List Entry} {co:List Int} {m:Int} (hr: ∀i:Nat,i<l.length->0<=at' (0:Int) co (i:Int)/\ at' (0:Int) co (i:Int)<m) (hco: ∀i j:Nat,i<l.length->j<l.length->at' (0:Int) co (i:Int)=at' (0:Int) co (j:Int)->i=j):srtRun (runs0 l co l.length)=visO l co m.toNat:=by
 refine sorted_ext (key:=fun u:Run=>u.Core) (srt_strict zRun (fun a b=>ltRun_dec a b) (runs0_core hco _ (Nat.le_refl _))) (visO_sorted hco _) fun u=> ?_
 refine Iff.trans (srt_mem zRun u) ?_
 rw [runs0_mem,visO_mem]
 constructor
 ·rintro ⟨i,i1,rfl⟩
  obtain ⟨a,b⟩:=hr i i1
  exact ⟨i,(at' (0:Int) co (i:Int)).toNat,i1,by omega,by omega,by rw [show (((at' (0:Int) co (i:Int)).toNat:Nat):Int)=at' (0:Int) co (i:Int) by omega]⟩
 ·rintro ⟨i,c,i1,_,i2,rfl⟩
  exact ⟨i,i1,by rw [i2]⟩
structure FRel (K:Nat) (g0:EG) (r0:RG) (V:List Run) (n:Nat) (g:EG) (r:RG):Prop where
 b:EGB (K+1) 0 { g with nt:=[] } { r with nt:=[] }
 nt:g.nt=r.nt
 ntl:r.nt.length=r0.nt.length+n
 same:g= { g0 with ts:=g.ts,nt:=g.nt }
 sam2:r= { r0 with ts:=r.ts,nt:=r.nt }
 keep: ∀id,0<=id->id<64->(∀u∈V.take n,u.ID≠id)->atO g.ts id=atO g0.ts id/\ atO r.ts id=atO r0.ts id
 pres: ∀id,0<=id->id<64->(atO r.ts id).isSome=(atO r0.ts id).isSome/\ (rtAt r.ts id).stage=(rtAt r0.ts id).stage/\ (rtAt r.ts id).time=(rtAt r0.ts id).time
theorem FRel.step {K:Nat} {g0:EG} {r0:RG} {V:List Run} {n:Nat} {g:EG} {r:RG} (h:FRel K g0 r0 V n g r) (hn:n<V.length) (hb0:EGB K 0 g0 r0) (hids:(V.map fun u=>u.ID).Nodup) (h0:0<=V[n].ID/\ V[n].ID<64) (hl:(atO r0.ts V[n].ID).isSome=true) (hw:someT (rtAt r0.ts V[n].ID).t.waits=true) (hc:0<=V[n].Core/\ V[n].Core<r0.m) (hV:V.length<=100):
  RunsP g V[n].ID/\ RunRP r V[n].ID/\ (headT (rnAt g.ts V[n].ID).t.waits).Index=(headT (rtAt r.ts V[n].ID).t.waits).Index/\ FRel K g0 r0 V (n+1) (runsG g V[n].ID V[n].Core) (runRG r V[n].ID V[n].Core):=by
 obtain ⟨i0,i1⟩:=h0
 have hnot: ∀u∈V.take n,u.ID≠V[n].ID:=fun u hu e=>by
  rw [←List.take_append_drop n V,List.map_append,List.nodup_append] at hids
  refine hids.2.2 u.ID (List.mem_map_of_mem hu) V[n].ID (List.mem_map_of_mem ?_) e
  rw [List.drop_eq_getElem_cons hn];exact List.mem_cons_self
 obtain ⟨k1,k2⟩:=h.keep _ i0 i1 hnot
 have hs:(atO r.ts V[n].ID).isSome=true:=by rw [k2];exact hl
 have hrt:rtAt r.ts V[n].ID=rtAt r0.ts V[n].ID:=rtAt_of k2
 have hrn:rnAt g.ts V[n].ID=rnAt g0.ts V[n].ID:=rnAt_of k1
 have ht0:=hb0.tr _ i0 i1 hl
 have hgs:(atO g.ts V[n].ID).isSome=true:=by rw [h.b.no _ i0 i1];exact hs
 have hntl:=h.ntl
 have hn0:=hb0.ntl
 have hkb:=hb0.kb
 have hm:r.m=r0.m:=by rw [h.sam2]
 have hnow:g.now=r.now:=h.b.now
 have hwl:=ht0.len
 have l1:V[n].ID<(g.ts.length:Int):=by rw [show g.ts.length=64 from h.b.lg];exact i1
 have l2:V[n].ID<(r.ts.length:Int):=by rw [show r.ts.length=64 from h.b.lr];exact i1
 have hkb1:=h.b.kb
 refine ⟨⟨idOk_iff.2 ⟨i0,i1⟩,h.b.lg,hgs,by rw [hrn,ht0.waits];omega,by rw [hrn,ht0.waits];exact hw,by rw [h.nt];omega⟩,⟨?_,h.b.lr,hs,by rw [hrt];omega,by rw [hrt];exact hw,by omega⟩,by rw [hrn,hrt,ht0.waits], ?_⟩
 ·unfold badR
  rw [decide_eq_false (by omega),decide_eq_false (by omega)];rfl
 have htn:TR r.m (K+1) (runT (rnAt g.ts V[n].ID) V[n].Core) (runRT (rtAt r.ts V[n].ID) V[n].Core):=by
  rw [hrn,hrt,hm];exact ht0.run (by omega) hc
 have hput:=h.b.put i0 i1 (a:=runT (rnAt g.ts V[n].ID) V[n].Core) (b:=runRT (rtAt r.ts V[n].ID) V[n].Core) htn (hb0.dom _ i0 i1 hl) (by
  show (rtAt r.ts V[n].ID).pin= -1 \/_
  by_cases e:(rtAt r.ts V[n].ID).pin= -1
  ·exact .inl e
  ·refine .inr fun j j0 j1 hj hsj hp=> ?_
   rcases h.b.pins j V[n].ID j0 j1 i0 i1 hsj hs hp with e'|e'
   ·exact hj e'
   ·have hp:(rtAt r.ts j).pin=(rtAt r.ts V[n].ID).pin:=hp
    have e':(rtAt r.ts j).pin= -1:=e'
    rw [hp] at e';exact e e')
 have htr:TR r0.m K (rnAt g.ts V[n].ID) (rtAt r.ts V[n].ID):=by rw [hrn,hrt];exact ht0
 refine ⟨hput, ?_, ?_, ?_, ?_, ?_, ?_⟩
 ·unfold runsG runRG
  dsimp only
  rw [h.nt,note_eq htr,hnow]
 ·unfold runRG
  dsimp only
  rw [List.length_append,List.length_singleton];omega
 ·unfold runsG
  dsimp only
  rw [h.same]
 ·unfold runRG
  dsimp only
  rw [h.sam2]
 ·intro id a0 a1 hid
  have hne:id≠V[n].ID:=fun e=>hid V[n] (by rw [take_at hn];exact List.mem_append_right _ (List.mem_singleton.2 rfl)) e.symm
  unfold runsG runRG
  dsimp only
  rw [atO_set i0 l1 a0,atO_set i0 l2 a0,if_neg hne,if_neg hne]
  exact h.keep id a0 a1 fun u hu=>hid u (by rw [take_at hn];exact List.mem_append_left _ hu)
 ·intro id a0 a1
  unfold runRG
  dsimp only
  by_cases e:id=V[n].ID
  ·subst e
   rw [atO_set i0 l2 a0,if_pos rfl,rtAt_set i0 l2 a0,if_pos rfl,hl]
   unfold runRT
   dsimp only
   rw [hrt]
   exact ⟨rfl,rfl,rfl⟩
  ·rw [atO_set i0 l2 a0,if_neg e,rtAt_set i0 l2 a0,if_neg e]
   exact h.pres id a0 a1
def goP (q:EG×List Run) (u:Run):EG×List Run:=(runsG q.1 u.ID u.Core,q.2++[⟨u.ID,u.Core,(headT (rnAt q.1.ts u.ID).t.waits).Index⟩])
theorem goP_len: ∀(V:List Run) (q:EG×List Run),(V.foldl goP q).2.length=q.2.length+V.length
 |[],q=>rfl
 |u::V,q=>by
  rw [List.foldl_cons,goP_len V]
  unfold goP
  simp only [List.length_append,List.length_cons,List.length_nil]
  omega
theorem goP_ids: ∀(V:List Run) (q:EG×List Run),((V.foldl goP q).2.map fun u=>u.ID)=(q.2.map fun u=>u.ID)++V.map fun u=>u.ID
 |[],q=>by simp
 |u::V,q=>by
  rw [List.foldl_cons,goP_ids V]
  unfold goP
  simp
theorem tkR_eq {g:EG}: ∀n,n<=(tick0 g).length->tkR g n=((((tick0 g).take n).foldl goP (pickG g,[])).1,(((tick0 g).take n).foldl goP (pickG g,[])).2++(tick0 g).drop n)
 |0,_=>by simp [tkR]
 |n+1,hn=>by
  have hn':n<(tick0 g).length:=hn
  have ih:=tkR_eq (g:=g) n (by omega)
  have hl:=goP_len ((tick0 g).take n) (pickG g,[])
  rw [List.length_take,Nat.min_eq_left (by omega)] at hl
  simp only [List.length_nil,Nat.zero_add] at hl
  simp only [tkR]
  rw [ih]
  dsimp only
  rw [List.drop_eq_getElem_cons hn']
  have hat:at' zRun ((((tick0 g).take n).foldl goP (pickG g,[])).2++(tick0 g)[n]::(tick0 g).drop (n+1)) (n:Int)=(tick0 g)[n]:=at_mid' zRun _ _ _ hl.symm
  rw [hat,set_mid _ _ _ _ hl.symm,take_at hn',List.foldl_append]
  simp only [List.foldl_cons,List.foldl_nil,goP,List.append_assoc,List.singleton_append]
structure VOk (r0:RG) (V:List Run):Prop where
 ids:(V.map fun u=>u.ID).Nodup
 len:V.length<=4
 u: ∀u∈V,(0<=u.ID/\ u.ID<64)/\ (atO r0.ts u.ID).isSome=true/\ someT (rtAt r0.ts u.ID).t.waits=true/\ (0<=u.Core/\ u.Core<r0.m)
theorem FRel.all {K:Nat} {g0:EG} {r0:RG} {V:List Run} (hb0:EGB K 0 g0 r0) (hK:K<10000) (hV:VOk r0 V): ∀n,n<=V.length→
  FRel K g0 r0 V n ((V.take n).foldl goP (g0,[])).1 ((V.take n).foldl goOne (r0,[])).1/\ ((V.take n).foldl goP (g0,[])).2=((V.take n).foldl goOne (r0,[])).2∧
   ((hn:n<V.length)->RunsP ((V.take n).foldl goP (g0,[])).1 V[n].ID/\ RunRP ((V.take n).foldl goOne (r0,[])).1 V[n].ID)
 |n,hn=>by
  have step: ∀n (hn:n<V.length) {g:EG} {r:RG},FRel K g0 r0 V n g r->RunsP g V[n].ID/\ RunRP r V[n].ID/\ (headT (rnAt g.ts V[n].ID).t.waits).Index=(headT (rtAt r.ts V[n].ID).t.waits).Index/\ FRel K g0 r0 V (n+1) (runsG g V[n].ID V[n].Core) (runRG r V[n].ID V[n].Core):=by
   intro n hn g r h
   obtain ⟨a,b,c,d⟩:=hV.u _ (List.getElem_mem hn)
   exact h.step hn hb0 hV.ids a b c d (by have:=hV.len;omega)
  have all: ∀n,n<=V.length->FRel K g0 r0 V n ((V.take n).foldl goP (g0,[])).1 ((V.take n).foldl goOne (r0,[])).1/\ ((V.take n).foldl goP (g0,[])).2=((V.take n).foldl goOne (r0,[])).2:=by
   intro n
   induction n with
   |zero=>
    intro _
    have h0:EGB K 0 { g0 with nt:=[] } { r0 with nt:=[] }:= { hb0 with nt:=rfl,ntl:=by simp }
    exact ⟨⟨h0.mono (Nat.le_succ _) (by omega) (by omega),hb0.nt,rfl,rfl,rfl,fun _ _ _ _=>⟨rfl,rfl⟩,fun _ _ _=>⟨rfl,rfl,rfl⟩⟩,rfl⟩
   |succ n ih=>
    intro hn
    have hn':n<V.length:=hn
    obtain ⟨i1,i2⟩:=ih (by omega)
    obtain ⟨_,_,s3,s4⟩:=step n hn' i1
    rw [take_at hn',List.foldl_append,List.foldl_append]
    refine ⟨s4, ?_⟩
    simp only [List.foldl_cons,List.foldl_nil,goP,goOne]
    rw [i2,s3]
  obtain ⟨a,b⟩:=all n hn
  exact ⟨a,b,fun hn'=>⟨(step n hn' a).1,(step n hn' a).2.1⟩⟩
theorem visI_pre {l:List Entry} {co:List Int} {c:Nat} {v:List Run} {n:Nat}: ∀k,∃t,visI l co c (n+k) v=visI l co c n v++t
 |0=>⟨[],by simp⟩
 |k+1=>by
  obtain ⟨t,ht⟩:=visI_pre (l:=l) (co:=co) (c:=c) (v:=v) (n:=n) k
  show ∃t,visR1 l co (c:Int) ((n+k:Nat):Int) (visI l co c (n+k) v)=_
  unfold visR1
  cases at' (0:Int) co ((n+k:Nat):Int)==(c:Int)
  ·exact ⟨t,ht⟩
  ·exact ⟨t++[⟨(at' zEn l ((n+k:Nat):Int)).ID,c,0⟩],by simp only [cond_true];rw [ht,List.append_assoc]⟩
theorem visO_pre {l:List Entry} {co:List Int} {n:Nat}: ∀k,∃t,visO l co (n+k)=visO l co n++t
 |0=>⟨[],by simp⟩
 |k+1=>by
  obtain ⟨t,ht⟩:=visO_pre (l:=l) (co:=co) (n:=n) k
  obtain ⟨s,hs⟩:=visI_pre (l:=l) (co:=co) (c:=n+k) (v:=visO l co (n+k)) (n:=0) l.length
  rw [Nat.zero_add] at hs
  refine ⟨t++s, ?_⟩
  show visI l co (n+k) l.length (visO l co (n+k))=_
  rw [hs]
  simp only [visI]
  rw [ht,List.append_assoc]
theorem vis_at {l:List Entry} {co:List Int} {c x m:Nat} (hc:c<m) (hx:x<l.length) (hco:(at' (0:Int) co (x:Int)==(c:Int))=true):
  ∃n,∃h:n<(visO l co m).length,visI l co c x (visO l co c)=(visO l co m).take n/\ (visO l co m)[n]=⟨(at' zEn l (x:Int)).ID,c,0⟩:=by
 obtain ⟨t,ht⟩:=visI_pre (l:=l) (co:=co) (c:=c) (v:=visO l co c) (n:=x+1) (l.length-(x+1))
 rw [show x+1+(l.length-(x+1))=l.length by omega] at ht
 obtain ⟨s,hs⟩:=visO_pre (l:=l) (co:=co) (n:=c+1) (m-(c+1))
 rw [show c+1+(m-(c+1))=m by omega] at hs
 have e1:visO l co (c+1)=visI l co c l.length (visO l co c):=rfl
 have e2:visI l co c (x+1) (visO l co c)=visI l co c x (visO l co c)++[⟨(at' zEn l (x:Int)).ID,c,0⟩]:=by
  simp only [visI]
  unfold visR1
  rw [hco];rfl
 have e3:visO l co m=visI l co c x (visO l co c)++⟨(at' zEn l (x:Int)).ID,c,0⟩::(t++s):=by
  rw [hs,e1,ht,e2];simp
 refine ⟨(visI l co c x (visO l co c)).length,by rw [e3];simp, ?_, ?_⟩
 ·rw [e3,List.take_left]
 ·simp only [e3]
  rw [List.getElem_append_right (Nat.le_refl _)]
  simp
theorem filN_ok {L:List Run} {b:EG} {f:Int->Option Entry} {f0 f1:Int->Option Ev} (hr:RqV b.rq f) (hd:DQ b.dq f0 f1) (hf: ∀id,¬(0<=id/\ id<64)->f id=none) (hL: ∀u∈L,0<=u.ID/\ u.ID<64) (hl:b.ts.length=64) (hn:0<=b.now): ∀n,n<=L.length→
  (∀x:Nat,x<n->FilesP (filN L b x) (at' zRun L (x:Int)).ID)/\ ∃q d f' f0',filN L b n= { b with rq:=q,dq:=d }/\ RqV q f'/\ DQ d f0' f1/\ (∀id,¬(0<=id/\ id<64)->f' id=none)∧
   ∀id,((∃u∈L.take n,u.ID=id)->f' id=rdyF b.ts b.now id/\ f0' id=waitF b.ts b.now id)/\ ((∀u∈L.take n,u.ID≠id)->f' id=f id/\ f0' id=f0 id)
 |0,_=>⟨fun x hx=>absurd hx (Nat.not_lt_zero _),b.rq,b.dq,f,f0,rfl,hr,hd,hf,fun id=>⟨fun ⟨u,hu,_⟩=>(by simp at hu),fun _=>⟨rfl,rfl⟩⟩⟩
 |n+1,hn'=>by
  have hlt:n<L.length:=hn'
  obtain ⟨i1,q,d,f',f0',j1,j2,j3,j4,j5⟩:=filN_ok hr hd hf hL hl hn n (by omega)
  obtain ⟨u0,u1⟩:=hL _ (List.getElem_mem hlt)
  obtain ⟨F1,q',d',F2,F3,F4⟩:=files_ok (g:= { b with rq:=q,dq:=d }) j2 j3 j4 u0 u1 hl hn
  have hat:at' zRun L (n:Int)=L[n]:=at_nat hlt
  refine ⟨fun x hx=> ?_,q',d',_,_, ?_,F3,F4,upd_out j4 u0 u1 _,fun id=> ?_⟩
  ·by_cases e:x=n
   ·subst e
    rw [j1,hat];exact F1
   ·exact i1 x (by omega)
  ·simp only [filN]
   rw [j1,hat];exact F2
  ·rw [take_at hlt]
   by_cases c:id=L[n].ID
   ·subst c
    rw [updF_eq,updF_eq]
    exact ⟨fun _=>⟨rfl,rfl⟩,fun h=>absurd rfl (h L[n] (List.mem_append_right _ (List.mem_singleton.2 rfl)))⟩
   ·rw [updF_ne _ _ c,updF_ne _ _ c]
    refine ⟨fun ⟨u,hu,he⟩=>(j5 id).1 ?_,fun h=>(j5 id).2 fun u hu=>h u (List.mem_append_left _ hu)⟩
    rcases List.mem_append.1 hu with hu|hu
    ·exact ⟨u,hu,he⟩
    ·rw [List.mem_singleton] at hu
     subst hu
     exact absurd he.symm c
theorem pickR_mem {r:RG} {e:Entry} (h:e∈pickR r): ∃id:Nat,id<64/\ (atO r.ts (id:Int)).isSome=true/\ rdyR (rtAt r.ts (id:Int)).t.early r.now (rtAt r.ts (id:Int)).t.waits=true/\ e=entS (id:Int) (headT (rtAt r.ts (id:Int)).t.waits):=by
 unfold pickR at h
 exact rdyN_mem.1 ((srtE_perm _).mem_iff.1 (List.mem_of_mem_take h))
theorem EGB.chk {K X:Nat} {g:EG} {r:RG} (h:EGB K X g r) (hl:(pickR r).length<=r.m.toNat):rnrsOf g.ts (pickR r)=rtsOf r.ts (pickR r)/\ chkA (rtsOf r.ts (pickR r)) r.m=true:=by
 have hmr:=h.mr
 have hlen:(rtsOf r.ts (pickR r)).length=(pickR r).length:=by unfold rtsOf;simp
 refine ⟨?_, ?_⟩
 ·unfold rnrsOf rtsOf
  refine List.map_congr_left fun e he=> ?_
  obtain ⟨id,i1,i2,i3,i4⟩:=pickR_mem he
  have ht:=h.tr (id:Int) (by omega) (by omega) i2
  have hid:e.ID=id:=by rw [i4];rfl
  unfold rnrOf rtOf
  rw [hid,ht.pin,ht.last]
 ·unfold chkA
  rw [decide_eq_true hmr.1,decide_eq_true (show r.m<=1024 by omega),decide_eq_true (show ((rtsOf r.ts (pickR r)).length:Int)<=r.m by rw [hlen];omega)]
  simp only [Bool.true_and]
  have hget: ∀(n:Nat) (hn:n<(pickR r).length),at' rz (rtsOf r.ts (pickR r)) (n:Int)=rtOf r.ts (pickR r)[n]:=fun n hn=>by
   rw [at_nat (by rw [hlen];exact hn)]
   unfold rtsOf
   rw [List.getElem_map]
  have: ∀n,n<=(pickR r).length->okN r.m (rtsOf r.ts (pickR r)) n=true:=by
   intro n
   induction n with
   |zero=>intro _;rfl
   |succ n ih=>
    intro hn
    have hn':n<(pickR r).length:=hn
    simp only [okN]
    rw [ih (by omega),hget n hn',Bool.true_and,Bool.and_eq_true]
    obtain ⟨id,i1,i2,i3,i4⟩:=pickR_mem (List.getElem_mem hn')
    have ht:=h.tr (id:Int) (by omega) (by omega) i2
    have hid:(pickR r)[n].ID=id:=by rw [i4];rfl
    have hpb:=ht.pinb
    have hlb:=ht.lastb
    refine ⟨?_, ?_⟩
    ·unfold rnOk rtOf
     rw [hid]
     dsimp only
     rw [decide_eq_true hpb.1,decide_eq_true hpb.2,decide_eq_true hlb.1,decide_eq_true hlb.2];rfl
    ·rw [Bool.not_eq_true',Bool.eq_false_iff]
     intro ha
     obtain ⟨a,ha1,ha2⟩:=List.any_eq_true.1 ha
     obtain ⟨j,hj,rfl⟩:=List.getElem_of_mem ha1
     rw [List.length_take,hlen] at hj
     have hjn:j<n:=by omega
     have hjl:j<(pickR r).length:=by omega
     have e1:((rtsOf r.ts (pickR r)).take n)[j]=rtOf r.ts (pickR r)[j]:=by
      rw [List.getElem_take]
      unfold rtsOf
      rw [List.getElem_map]
     rw [e1] at ha2
     obtain ⟨jd,j1,j2,j3,j4⟩:=pickR_mem (List.getElem_mem hjl)
     have hjd:(pickR r)[j].ID=jd:=by rw [j4];rfl
     have hne:(jd:Int)≠id:=by
      rw [←hid,←hjd]
      have:=List.pairwise_iff_getElem.1 (pickR_ids r) j n (by simpa using hjl) (by simpa using hn') hjn
      simpa using this
     unfold clash rtOf at ha2
     rw [hid,hjd] at ha2
     dsimp only at ha2
     rw [show ((jd:Int)==(id:Int))=false from beq_eq_false_iff_ne.2 hne,Bool.false_or,Bool.and_eq_true] at ha2
     have hp:(rtAt r.ts (jd:Int)).pin=(rtAt r.ts (id:Int)).pin:=by simpa using ha2.1
     have hp0:0<=(rtAt r.ts (id:Int)).pin:=of_decide_eq_true ha2.2
     rcases h.pins (jd:Int) (id:Int) (by omega) (by omega) (by omega) (by omega) j2 i2 hp with e|e
     ·exact hne e
     ·omega
  rw [hlen]
  exact this _ (Nat.le_refl _)
theorem EGB.queues {K X:Nat} {g:EG} {r:RG} (h:EGB K X g r) (q:eHS) (d:vHS):EGB K X { g with rq:=q,dq:=d } r:= { h with }
theorem EGR.tick {K:Nat} {g:EG} {r:RG} (h:EGR K 0 g r) (hK:K<10000) (hnw:r.now<1099511627776):TickP g/\ TickRP r/\ tickL g=(tkR0 r).2/\ (tkR0 r).2.map (fun u=>(u.ID,u.Core))=(visO (pickR r) (coR r) r.m.toNat).map (fun u=>(u.ID,u.Core))/\ EGR (K+1) 64 (tickG g) (tickRG r):=by
 obtain ⟨hpl,hpq,hpm,hql⟩:=h.b.pick h.rq
 obtain ⟨hrn,hchk⟩:=h.b.chk hpm
 have hmr:=h.b.mr
 have hnr:=h.b.nowr
 have hm:=h.b.m
 have hlen:(rtsOf r.ts (pickR r)).length=(pickR r).length:=by unfold rtsOf;simp
 obtain ⟨a1,a2,a3,_⟩:=asg_ok hchk
 rw [hlen] at a1 a2 a3
 have hco:coR r=asgP (rtsOf r.ts (pickR r)):=asg_eq hchk
 have hV:tick0 g=visO (pickR r) (coR r) r.m.toNat:=by
  unfold tick0
  rw [hpl,hrn,←hco]
  exact vis_eq (m:=r.m) (by rw [hco];exact a2) (by rw [hco];exact a3)
 have hpmem: ∀i:Nat,i<(pickR r).length->(0<=(at' zEn (pickR r) (i:Int)).ID/\ (at' zEn (pickR r) (i:Int)).ID<64)/\ (atO r.ts (at' zEn (pickR r) (i:Int)).ID).isSome=true/\ someT (rtAt r.ts (at' zEn (pickR r) (i:Int)).ID).t.waits=true:=by
  intro i hi
  rw [at_nat hi]
  obtain ⟨id,i1,i2,i3,i4⟩:=pickR_mem (List.getElem_mem hi)
  have hid:(pickR r)[i].ID=id:=by rw [i4];rfl
  rw [hid]
  refine ⟨⟨by omega,by omega⟩,i2, ?_⟩
  unfold rdyR at i3
  rw [Bool.and_eq_true] at i3
  exact i3.1
 have hids:((visO (pickR r) (coR r) r.m.toNat).map fun u=>u.ID).Nodup:=by
  rw [List.Nodup,List.pairwise_map]
  have hs:=visO_sorted (l:=pickR r) (co:=coR r) (by rw [hco];exact a3) r.m.toNat
  refine List.Pairwise.imp_of_mem ?_ hs
  intro a b ha hb hab e
  obtain ⟨i,c,i1,i2,i3,rfl⟩:=(visO_mem _).1 ha
  obtain ⟨j,d,j1,j2,j3,rfl⟩:=(visO_mem _).1 hb
  dsimp only at hab e
  rw [at_nat i1,at_nat j1] at e
  have:i=j:=by
   refine Classical.byContradiction fun hne=> ?_
   have hnd:=List.pairwise_iff_getElem.1 (pickR_ids r)
   rcases Nat.lt_or_gt_of_ne hne with q|q
   ·have:=hnd i j (by simpa using i1) (by simpa using j1) q
    simp only [List.getElem_map] at this
    exact this e
   ·have:=hnd j i (by simpa using j1) (by simpa using i1) q
    simp only [List.getElem_map] at this
    exact this e.symm
  subst this
  rw [i3] at j3
  omega
 have hVlen:(visO (pickR r) (coR r) r.m.toNat).length<=4:=by
  have h1:(tick0 g).length=(pickL g).length:=by
   unfold tick0 srtRun
   rw [isrtZ_length,runs0_len]
  rw [←hV,h1,hpl]
  omega
 have hVok:VOk r (visO (pickR r) (coR r) r.m.toNat):=⟨hids,hVlen,fun u hu=>by
  obtain ⟨i,c,i1,i2,i3,rfl⟩:=(visO_mem _).1 hu
  obtain ⟨p1,p2,p3⟩:=hpmem i i1
  exact ⟨p1,p2,p3,by dsimp only;omega⟩⟩
 have hb1:EGB K 0 (pickG g) r:= { h.b with }
 have all:=FRel.all hb1 hK hVok
 generalize hVe:visO (pickR r) (coR r) r.m.toNat=V at*
 have hR0:tkR0 r=V.foldl goOne (r,[]):=by
  unfold tkR0
  rw [outR_vis,hVe]
 have hP: ∀n,n<=V.length->tkR g n=(((V.take n).foldl goP (pickG g,[])).1,((V.take n).foldl goP (pickG g,[])).2++V.drop n):=fun n hn=>by
  have:=tkR_eq (g:=g) n (by rw [hV];exact hn)
  rw [hV] at this
  exact this
 have hlen0:(tick0 g).length=V.length:=by rw [hV]
 have hat: ∀n (hn:n<V.length),at' zRun (tkR g n).2 (n:Int)=V[n]:=fun n hn=>by
  rw [hP n (by omega)]
  dsimp only
  rw [List.drop_eq_getElem_cons hn]
  refine at_mid' zRun _ _ _ ?_
  rw [goP_len,List.length_take]
  simp only [List.length_nil]
  omega
 obtain ⟨f1,f2,_⟩:=all V.length (Nat.le_refl _)
 rw [List.take_length] at f1 f2
 have hT1:tick1 g=V.foldl goP (pickG g,[]):=by
  unfold tick1
  rw [hlen0,hP _ (Nat.le_refl _),List.take_length,List.drop_length,List.append_nil]
 have hTL:tickL g=(V.foldl goP (pickG g,[])).2:=by unfold tickL;rw [hT1]
 have hTLids:(tickL g).map (fun u=>u.ID)=V.map fun u=>u.ID:=by
  rw [hTL,goP_ids];simp
 have hTLlen:(tickL g).length=V.length:=by rw [hTL,goP_len];simp
 have hTLu: ∀u∈tickL g,0<=u.ID/\ u.ID<64:=fun u hu=>by
  have:u.ID∈V.map fun u=>u.ID:=by rw [←hTLids];exact List.mem_map_of_mem hu
  obtain ⟨w,hw,he⟩:=List.mem_map.1 this
  rw [←he]
  exact (hVok.u w hw).1
 --the state behind the runs
 have hgn:(V.foldl goP (pickG g,[])).1.now=r.now:=by rw [f1.same];exact h.b.now
 have hrn':(V.foldl goOne (r,[])).1.now=r.now:=by rw [f1.sam2]
 have hkb:=h.b.kb
 have hw1:IntKind.i64.wrap (r.now+1)=r.now+1:=wrap_id (by omega) (by omega)
 have hb2:EGB (K+1) 0 (trimG (tick1 g).1) (trimR (tkR0 r).1):=by
  rw [hT1,hR0]
  unfold trimG trimR
  refine { f1.b with now:= ?_,nowr:= ?_,nt:= ?_,ntl:= ?_ }
  ·dsimp only;rw [hgn,hrn']
  ·dsimp only;rw [hrn',hw1];omega
  ·dsimp only;rw [f1.nt]
  ·dsimp only
   rw [List.length_drop]
   have:=f1.ntl
   have:=h.b.ntl
   omega
 have hts2:(trimG (tick1 g).1).ts=(V.foldl goP (pickG g,[])).1.ts:=by rw [hT1];rfl
 have hnow2:(trimG (tick1 g).1).now=r.now+1:=by
  rw [hT1];unfold trimG;dsimp only;rw [hgn,hw1]
 have hq2:(trimG (tick1 g).1).rq=(pickG g).rq/\ (trimG (tick1 g).1).dq=g.dq:=by
  rw [hT1]
  unfold trimG
  dsimp only
  rw [f1.same]
  exact ⟨rfl,rfl⟩
 have hRq:RqV (trimG (tick1 g).1).rq (fun id=>if (pickR r).any (fun e=>e.ID==id) then none else rdyF g.ts g.now id):=by rw [hq2.1];exact hpq
 have hDq:DQ (trimG (tick1 g).1).dq (waitF g.ts g.now) (ruleF r):=by rw [hq2.2];exact h.dq
 obtain ⟨n1,q,d,f',f0',n2,n3,n4,n5,n6⟩:=filN_ok hRq hDq (fun id hi=>by
  split
  ·rfl
  ·exact rdyF_out hi) hTLu hb2.lg (by rw [hnow2];omega) (tickL g).length (Nat.le_refl _)
 rw [List.take_length] at n6
 have hE:EGP (K+1) 0 (tick2 g) (trimR (tkR0 r).1):=by
  have ht2:tick2 g= { trimG (tick1 g).1 with rq:=q,dq:=d }:=n2
  rw [ht2]
  refine ⟨hb2.queues q d,f',f0',ruleF r,n3,n4,n5,fun id i0 i1=> ?_⟩
  dsimp only
  have hrnow:(trimR (tkR0 r).1).now=r.now+1:=by rw [hR0];unfold trimR;dsimp only;rw [hrn',hw1]
  obtain ⟨p1,p2,p3⟩:=f1.pres id i0 i1
  have hrts:(trimR (tkR0 r).1).ts=(V.foldl goOne (r,[])).1.ts:=by rw [hR0];rfl
  have hwK: ∀(ts:List (Option Rnr)) (now:Int) (e:Ev),waitF ts now id=some e->e.ID=id/\ e.Kind=0:=fun ts now e he=>by
   unfold waitF at he
   cases hb:isLv ts id&&someT (rnAt ts id).t.waits&& !decide (whenT (rnAt ts id).t.early (rnAt ts id).t.waits<=now)
   ·rw [hb] at he;cases he
   ·rw [hb] at he
    simp only [cond_true,Option.some.injEq] at he
    rw [←he];exact ⟨rfl,rfl⟩
  refine ⟨?_, ?_, ?_, ?_⟩
  ·by_cases hin: ∃u∈tickL g,u.ID=id
   ·exact .inl ((n6 id).1 hin)
   ·have hno: ∀u∈tickL g,u.ID≠id:=fun u hu e=>hin ⟨u,hu,e⟩
    obtain ⟨e1,e2⟩:=(n6 id).2 hno
    have hnoV: ∀u∈V,u.ID≠id:=fun u hu e=>by
     have:id∈(tickL g).map fun u=>u.ID:=by rw [hTLids,←e];exact List.mem_map_of_mem hu
     obtain ⟨w,hw,he⟩:=List.mem_map.1 this
     exact hno w hw he
    have hnp:(pickR r).any (fun e=>e.ID==id)=false:=by
     rw [Bool.eq_false_iff]
     intro ha
     obtain ⟨e,he,hee⟩:=List.any_eq_true.1 ha
     obtain ⟨i,hi,rfl⟩:=List.getElem_of_mem he
     have hid:(pickR r)[i].ID=id:=by simpa using hee
     obtain ⟨c1,c2⟩:=a2 i hi
     refine hnoV ⟨(at' zEn (pickR r) (i:Int)).ID,((at' (0:Int) (coR r) (i:Int)).toNat:Int),0⟩ ?_ (by dsimp only;rw [at_nat hi];exact hid)
     rw [←hVe,visO_mem]
     rw [hco]
     exact ⟨i,(at' (0:Int) (asgP (rtsOf r.ts (pickR r))) (i:Int)).toNat,hi,by omega,by omega,rfl⟩
    obtain ⟨k1,k2⟩:=f1.keep id i0 i1 (by rw [List.take_length];exact hnoV)
    have k1:atO (trimG (tick1 g).1).ts id=atO g.ts id:=by rw [hts2];exact k1
    rw [hnp] at e1
    have e1:f' id=rdyF g.ts g.now id:=e1
    rw [e1,e2]
    have r1:rdyF (trimG (tick1 g).1).ts (trimG (tick1 g).1).now id=rdyF g.ts (r.now+1) id:=by rw [hnow2];exact rdyF_congr fun _=>k1
    have r2:waitF (trimG (tick1 g).1).ts (trimG (tick1 g).1).now id=waitF g.ts (r.now+1) id:=by rw [hnow2];exact waitF_congr fun _=>k1
    rw [r1,r2,h.b.now,hrnow]
    unfold rdyF waitF
    cases hb:isLv g.ts id&&someT (rnAt g.ts id).t.waits
    ·exact .inl ⟨rfl,rfl⟩
    ·by_cases w1:whenT (rnAt g.ts id).t.early (rnAt g.ts id).t.waits<=r.now
     ·rw [decide_eq_true w1,decide_eq_true (show whenT (rnAt g.ts id).t.early (rnAt g.ts id).t.waits<=r.now+1 by omega)]
      exact .inl ⟨rfl,rfl⟩
     ·by_cases w2:whenT (rnAt g.ts id).t.early (rnAt g.ts id).t.waits<=r.now+1
      ·rw [decide_eq_false w1,decide_eq_true w2]
       exact .inr ⟨_,rfl,rfl,rfl,w2⟩
      ·rw [decide_eq_false w1,decide_eq_false w2]
       exact .inl ⟨rfl,rfl⟩
  ·intro e he
   by_cases hin: ∃u∈tickL g,u.ID=id
   ·rw [((n6 id).1 hin).2] at he
    exact hwK _ _ e he
   ·rw [((n6 id).2 fun u hu q=>hin ⟨u,hu,q⟩).2] at he
    exact hwK _ _ e he
  ·cases hs:(atO r.ts id).isSome&&decide (2<=(rtAt r.ts id).stage)
   ·left
    unfold ruleF canS canR
    rw [hrts,p1,p2,hs]
    refine ⟨rfl, ?_⟩
    rw [Bool.and_eq_false_iff] at hs
    rcases hs with hs|hs
    ·rw [hs];rfl
    ·have:decide ((rtAt r.ts id).stage<2)=true:=decide_eq_true (by have:=of_decide_eq_false hs;omega)
     rw [this];simp
   ·by_cases w1:(rtAt r.ts id).time>r.now+1
    ·left
     unfold ruleF canS canR
     rw [hrts,p1,p2,p3,hs,hrnow,if_pos (show (rtAt r.ts id).time>r.now by omega),if_pos w1]
     refine ⟨rfl, ?_⟩
     rw [decide_eq_true w1];simp
    ·right
     unfold ruleF
     rw [hs,hrnow]
     refine ⟨_,rfl, ?_⟩
     dsimp only
     split<;>omega
  ·intro e he
   unfold ruleF at he
   cases hs:(atO r.ts id).isSome&&decide (2<=(rtAt r.ts id).stage)
   ·rw [hs] at he;cases he
   ·rw [hs] at he
    simp only [cond_true,Option.some.injEq] at he
    rw [Bool.and_eq_true] at hs
    rw [hrts,p1,p2,p3,hrnow,←he]
    refine ⟨rfl,rfl,hs.1,of_decide_eq_true hs.2, ?_⟩
    dsimp only
    split<;>omega
 obtain ⟨S1,S2,S3⟩:=hE.settle (by omega) (by omega)
 have hppl: ∀x:Nat,x<(pickR r).length->at' zEnt (pickR r) (x:Int)=at' zEn (pickR r) (x:Int):=fun x hx=>rfl
 refine ⟨⟨by omega,by omega,by omega,h.b.lg,by rw [hpl];omega, ?_, ?_, ?_,by rw [hlen0];omega, ?_, ?_, ?_,S1⟩,⟨h.b.lr,by omega,by omega,hchk, ?_, ?_, ?_, ?_,S2⟩, ?_, ?_,S3⟩
 ·intro x hx
  rw [hpl] at hx ⊢
  obtain ⟨p1,p2,p3⟩:=hpmem x hx
  exact ⟨idOk_iff.2 p1,by rw [h.b.no _ p1.1 p1.2];exact p2⟩
 ·rw [hpl,hrn,hm];exact hchk
 ·rw [hpl,hrn];exact a1
 ·intro x hx
  rw [hlen0] at hx
  rw [hat x hx,hP x (by omega)]
  exact ((all x (by omega)).2.2 hx).1
 ·rw [hT1,f1.nt,f1.ntl]
  have:=h.b.ntl
  omega
 ·exact n1
 ·rw [hco];exact a1
 ·intro x hx
  obtain ⟨p1,p2,p3⟩:=hpmem x hx
  refine ⟨?_,p2⟩
  unfold badR
  rw [decide_eq_false (by omega),decide_eq_false (by omega)];rfl
 ·intro c x hc hx hcx
  obtain ⟨n,hn,e1,e2⟩:=vis_at hc hx hcx
  rw [inR_vis (outR_vis c),e1]
  simp only [hVe] at hn e2 ⊢
  have:=(all n (by omega)).2.2 hn
  rw [e2] at this
  refine ⟨this.2, ?_⟩
  rw [←(all n (by omega)).2.1,goP_len,List.length_take]
  simp only [List.length_nil]
  omega
 ·rw [hR0,f1.ntl]
  have:=h.b.ntl
  omega
 ·rw [hTL,hR0,f2]
 ·rw [hR0,←f2]
  have: ∀(V:List Run) (q:EG×List Run),((V.foldl goP q).2.map fun u=>(u.ID,u.Core))=(q.2.map fun u=>(u.ID,u.Core))++V.map fun u=>(u.ID,u.Core):=by
   intro V
   induction V with
   |nil=>intro q;simp
   |cons u V ih=>
    intro q
    rw [List.foldl_cons,ih]
    unfold goP
    simp
  rw [this];simp
theorem EGR.norm {K:Nat} {g:EG} {r:RG} {X:Nat} (h:EGR K X g r) (hX:X<=64) (hK:K<10000):EGR (K+1) 0 g r:=⟨h.b.mono (Nat.le_succ _) (by omega) (by omega),h.rq,h.dq,h.set⟩
noncomputable def tab59:Tab T O:=tab58
theorem tabOk59:TabOk R Tryz.prog tab59:=tabOk58
end Go.Proofs.YtlfjbnflfdnoaaaGreat
namespace Go.Proofs.YtlfjbnflfdnoaaaGreat
open Go.Sx Go.Proofs Classical
theorem setR_id {r:RG} (h: ∀id,0<=id->id<64->canS r id=false) (hl:r.ts.length=64) (he:r.ev.length<=1000000):(∀x:Nat,x<=64->setR x r=r)/\ SetRP r:=by
 have hall: ∀x:Nat,x<=64->setR x r=r:=by
  intro x
  induction x with
  |zero=>intro _;rfl
  |succ x ih=>
   intro hx
   simp only [setR]
   rw [ih (by omega)]
   unfold setR1
   have:=h (x:Int) (by omega) (by omega)
   unfold canS at this
   rw [this];rfl
 refine ⟨hall,fun x hx=> ?_⟩
 rw [hall x (by omega)]
 refine ⟨hl,he,fun h1 h2=> ?_⟩
 have:=h (x:Int) (by omega) (by omega)
 unfold canS at this
 rw [h1,h2] at this;cases this
theorem any_ts {α:Type} {p:Option α->Bool} (_:p none=false) {ts:List (Option α)} (hl:ts.length=64):ts.any p=true↔ ∃id:Int,0<=id/\ id<64/\ p (atO ts id)=true:=by
 rw [List.any_eq_true]
 constructor
 ·rintro ⟨x,hx,hpx⟩
  obtain ⟨i,hi,rfl⟩:=List.getElem_of_mem hx
  exact ⟨(i:Int),by omega,by omega,by rw [atO_get hi];exact hpx⟩
 ·rintro ⟨id,a,b,c⟩
  have hi:id.toNat<ts.length:=by omega
  refine ⟨ts[id.toNat],List.getElem_mem hi, ?_⟩
  rw [←atO_get hi,show ((id.toNat:Nat):Int)=id by omega]
  exact c
theorem badR_idOk {id:Int}:badR id= !idOk id:=by
 unfold badR
 by_cases h0:id<0
 ·rw [decide_eq_true h0]
  have:idOk id=false:=by
   rw [Bool.eq_false_iff];intro e;have:=idOk_iff.1 e;omega
  rw [this];rfl
 ·rw [decide_eq_false h0]
  by_cases h1:id>63
  ·rw [decide_eq_true h1]
   have:idOk id=false:=by
    rw [Bool.eq_false_iff];intro e;have:=idOk_iff.1 e;omega
   rw [this];rfl
  ·rw [decide_eq_false h1,idOk_iff.2 ⟨by omega,by omega⟩];rfl
theorem EGB.pinIn {K X:Nat} {g:EG} {r:RG} (h:EGB K X g r) {pin:Int} (hp: -1<=pin):Go.Proofs.YtlfjbnflfdnoaaaGreat.pinIn g.ts pin=r.ts.any (pinRB pin):=by
 rw [Bool.eq_iff_iff]
 unfold Go.Proofs.YtlfjbnflfdnoaaaGreat.pinIn
 rw [any_ts rfl h.lg,any_ts rfl h.lr]
 have key: ∀id,0<=id->id<64->pinB pin (atO g.ts id)=pinRB pin (atO r.ts id):=by
  intro id a b
  have hno:=h.no id a b
  cases hr:atO r.ts id with
  |none=>
   cases hg:atO g.ts id with
   |none=>rfl
   |some t=>rw [hr,hg] at hno;cases hno
  |some t=>
   have ht:=h.tr id a b (by rw [hr];rfl)
   have e1:rtAt r.ts id=t:=by unfold rtAt;rw [hr];rfl
   cases hg:atO g.ts id with
   |none=>rw [hr,hg] at hno;cases hno
   |some s=>
    have e2:rnAt g.ts id=s:=by unfold rnAt;rw [hg];rfl
    have hpp:=ht.pin
    rw [e1,e2] at hpp
    unfold pinB pinRB
    dsimp only
    rw [hpp]
    congr 1
    by_cases c:pin= -1
    ·subst c;rfl
    ·rw [show (pin != -1)=true from bne_iff_ne.2 c,decide_eq_true (show pin>=0 by omega)]
 constructor
 ·rintro ⟨id,a,b,c⟩;exact ⟨id,a,b,by rw [←key id a b];exact c⟩
 ·rintro ⟨id,a,b,c⟩;exact ⟨id,a,b,by rw [key id a b];exact c⟩
theorem EGR.same {K X:Nat} {g:EG} {r:RG} (h:EGR K X g r) {id:Int} (h0:0<=id) (h1:id<64) {K':Nat} {a:Rnr} {b:Rts} (hb:EGB K' X { g with ts:=g.ts.set id.toNat (some a) } { r with ts:=r.ts.set id.toNat (some b) })
  (hr:rdyF (g.ts.set id.toNat (some a)) g.now id=rdyF g.ts g.now id) (hw:waitF (g.ts.set id.toNat (some a)) g.now id=waitF g.ts g.now id) (hu:ruleF { r with ts:=r.ts.set id.toNat (some b) } id=ruleF r id) (hc:canR r.now b=false):
  EGR K' X { g with ts:=g.ts.set id.toNat (some a) } { r with ts:=r.ts.set id.toNat (some b) }:=by
 have l1:id<(g.ts.length:Int):=by rw [h.b.lg];exact h1
 have l2:id<(r.ts.length:Int):=by rw [h.b.lr];exact h1
 have e1:rdyF (g.ts.set id.toNat (some a)) g.now=rdyF g.ts g.now:=by
  rw [←rdyF_set h0 l1,hr]
  funext j
  by_cases e:j=id
  ·subst e;rw [updF_eq]
  ·rw [updF_ne _ _ e]
 have e2:waitF (g.ts.set id.toNat (some a)) g.now=waitF g.ts g.now:=by
  rw [←waitF_set h0 l1,hw]
  funext j
  by_cases e:j=id
  ·subst e;rw [updF_eq]
  ·rw [updF_ne _ _ e]
 refine ⟨hb,by dsimp only;rw [e1];exact h.rq, ?_,fun j j0 j1=> ?_⟩
 ·dsimp only
  rw [e2]
  have:dqf (waitF g.ts g.now) (ruleF { r with ts:=r.ts.set id.toNat (some b) })=dqf (waitF g.ts g.now) (ruleF r):=dqf_congr fun j j0 j1=>⟨rfl,by
   by_cases e:j=id
   ·subst e;exact hu
   ·exact (ruleF_congr (r:= { r with ts:=r.ts.set id.toNat (some b) }) (r':=r) (id:=j) (by dsimp only;rw [atO_set h0 l2 j0,if_neg e]) rfl).1⟩
  unfold DQ
  rw [this];exact h.dq
 ·by_cases e:j=id
  ·subst e
   unfold canS
   dsimp only
   rw [rtAt_set h0 l2 j0,if_pos rfl,hc,Bool.and_false]
  ·rw [(ruleF_congr (r:= { r with ts:=r.ts.set id.toNat (some b) }) (r':=r) (id:=j) (by dsimp only;rw [atO_set h0 l2 j0,if_neg e]) rfl).2]
   exact h.set j j0 j1
theorem EGR.putOp {K X:Nat} {g:EG} {r:RG} (h:EGR K X g r) (hX:X<=1000) {id E P pin:Int} {early:Bool} (hid:0<=id/\ id<64/\ Dom id) (hw:Wt E P) (hp: -1<=pin):
  (g.ts.length=64/\ 0<=g.now/\ g.now<=1099511627776)/\ (r.ts.length=64/\ (putRE r id E P pin=0->SetRP (putR r id (some (newRt E P r.now early pin (-1))))))/\ putE g id E P pin=putRE r id E P pin/\ EGR K X (putG g id E P early pin) (putRG r id E P early pin):=by
 obtain ⟨h0,h1,hd⟩:=hid
 have hnr:=h.b.nowr
 have hkb:=h.b.kb
 have hmr:=h.b.mr
 have hnow:=h.b.now
 have hE:putE g id E P pin=putRE r id E P pin:=by
  unfold putE putRE
  rw [badR_idOk,idOk_iff.2 ⟨h0,h1⟩,wcheck_of hw,check_of hw,h.b.m,h.b.no id h0 h1,h.b.pinIn hp]
 have main:putRE r id E P pin=0->EGR K X { g with ts:=g.ts.set id.toNat (some (newRnr E P g.now early pin)) } (putR r id (some (newRt E P r.now early pin (-1)))):=by
  intro he
  unfold putRE at he
  rw [badR_idOk,idOk_iff.2 ⟨h0,h1⟩,check_of hw] at he
  simp only [Bool.not_true,Bool.false_or] at he
  have hpm:pin<r.m:=by
   refine Classical.byContradiction fun c=> ?_
   rw [decide_eq_true (show pin>=r.m by omega)] at he
   simp at he
  rw [decide_eq_false (show ¬pin< -1 by omega),decide_eq_false (show ¬pin>=r.m by omega)] at he
  simp only [Bool.or_self,cond_false] at he
  have hnone:(atO r.ts id).isSome=false:=by
   cases hs:(atO r.ts id).isSome
   ·rfl
   ·rw [hs] at he;cases he
  rw [hnone] at he
  simp only [cond_false] at he
  have hpin:r.ts.any (pinRB pin)=false:=by
   cases hs:r.ts.any (pinRB pin)
   ·rfl
   ·rw [hs] at he;cases he
  have hg:(atO g.ts id).isSome=false:=by rw [h.b.no id h0 h1];exact hnone
  have hnew:TR r.m 0 { newRnr E P r.now early pin with last:= -1 } (newRt E P r.now early pin (-1)):=TR.new hw hnr.1 (by omega) ⟨hp,hpm⟩ ⟨by omega,by omega⟩
  have hput:=h.b.put h0 h1 (hnew.mono (Nat.zero_le _)) hd (by
   show pin= -1 \/_
   by_cases c:pin= -1
   ·exact .inl c
   ·refine .inr fun j j0 j1 hj hs hpj=> ?_
    have hpj:(rtAt r.ts j).pin=pin:=hpj
    have:r.ts.any (pinRB pin)=true:=(any_ts rfl h.b.lr).2 ⟨j,j0,j1,by
     cases ha:atO r.ts j with
     |none=>rw [ha] at hs;cases hs
     |some t=>
      have e1:rtAt r.ts j=t:=by unfold rtAt;rw [ha];rfl
      rw [e1] at hpj
      unfold pinRB
      dsimp only
      rw [hpj,decide_eq_true (show pin>=0 by omega)];simp⟩
    rw [hpin] at this;cases this)
  have l1:id<(g.ts.length:Int):=by rw [h.b.lg];exact h1
  have l2:id<(r.ts.length:Int):=by rw [h.b.lr];exact h1
  have hnn:newRnr E P g.now early pin=newRnr E P r.now early pin:=by rw [hnow]
  rw [hnn]
  refine h.same h0 h1 hput ?_ ?_ ?_ ?_
  ·unfold rdyF isLv
   rw [hg,atO_set h0 l1 h0,if_pos rfl,rnAt_set h0 l1 h0,if_pos rfl]
   simp only [Bool.and_false,Bool.false_and,cond_false]
   rw [show someT ({ newRnr E P r.now early pin with last:= -1 }:Rnr).t.waits=false from rfl]
   simp
  ·unfold waitF isLv
   rw [hg,atO_set h0 l1 h0,if_pos rfl,rnAt_set h0 l1 h0,if_pos rfl]
   simp only [Bool.and_false,Bool.false_and,cond_false]
   rw [show someT ({ newRnr E P r.now early pin with last:= -1 }:Rnr).t.waits=false from rfl]
   simp
  ·unfold ruleF
   dsimp only
   rw [hnone,rtAt_set h0 l2 h0,if_pos rfl]
   unfold newRt
   simp
  ·rfl
 have hset:putRE r id E P pin=0->(∀x:Nat,x<=64->setR x (putR r id (some (newRt E P r.now early pin (-1))))=putR r id (some (newRt E P r.now early pin (-1))))/\ SetRP (putR r id (some (newRt E P r.now early pin (-1)))):=fun he=>
  setR_id (main he).set (main he).b.lr (by have:=(main he).b.evl;omega)
 refine ⟨⟨h.b.lg,by omega,by omega⟩,⟨h.b.lr,fun he=>(hset he).2⟩,hE, ?_⟩
 unfold putG putRG
 rw [hE]
 by_cases he:putRE r id E P pin=0
 ·rw [show (putRE r id E P pin==0)=true from beq_iff_eq.2 he]
  simp only [cond_true]
  rw [(hset he).1 64 (Nat.le_refl _)]
  exact main he
 ·rw [show (putRE r id E P pin==0)=false from beq_eq_false_iff_ne.2 he]
  exact h
theorem EGR.arrOp {K X:Nat} {g:EG} {r:RG} (h:EGR K X g r) (hK:K<10000) (hX:X<=1000) (id n:Int):
  (g.ts.length=64/\ (idOk id=true->(atO g.ts id).isSome=true->((rnAt g.ts id).stage=3->0<=(rnAt g.ts id).kept/\ (rnAt g.ts id).kept<=1000)/\ ArrTP g.now n (rnAt g.ts id)/\ FilesP (setT' g id (arrT g.now n (rnAt g.ts id))) id))∧
  (r.ts.length=64/\ (badR id=false->(atO r.ts id).isSome=true->((rtAt r.ts id).stage=3->0<=(rtAt r.ts id).kept/\ (rtAt r.ts id).kept<=1000)/\ ArrRP r.now n (rtAt r.ts id).t/\ SetRP (putR r id (some (arrT1 r.now n (rtAt r.ts id))))))∧
  arrEG g id n=arrRE r id n/\ EGR (K+1) X (arrG g id n) (arrRG r id n):=by
 have hnr:=h.b.nowr
 have hkb:=h.b.kb
 have hnow:=h.b.now
 have hm1:EGR (K+1) X g r:=⟨h.b.mono (Nat.le_succ _) (by omega) (by omega),h.rq,h.dq,h.set⟩
 by_cases hid:idOk id=true
 case neg=>
  have hid:idOk id=false:=by simpa using hid
  have hbad:badR id=true:=by rw [badR_idOk,hid];rfl
  refine ⟨⟨h.b.lg,fun e=>by rw [hid] at e;cases e⟩,⟨h.b.lr,fun e=>by rw [hbad] at e;cases e⟩, ?_, ?_⟩
  ·unfold arrEG arrRE
   rw [hbad,hid];rfl
  ·unfold arrG arrRG
   rw [hbad,hid]
   exact hm1
 obtain ⟨h0,h1⟩:=idOk_iff.1 hid
 have hbad:badR id=false:=by rw [badR_idOk,hid];rfl
 have hno:=h.b.no id h0 h1
 cases hs:(atO r.ts id).isSome
 ·have hg:(atO g.ts id).isSome=false:=by rw [hno];exact hs
  refine ⟨⟨h.b.lg,fun _ e=>by rw [hg] at e;cases e⟩,⟨h.b.lr,fun _ e=>by cases e⟩, ?_, ?_⟩
  ·unfold arrEG arrRE
   rw [hbad,hid,hg,hs];rfl
  ·unfold arrG arrRG
   rw [hbad,hid,hg,hs]
   cases decide (n<1)<;>cases decide (n>64)<;>exact hm1
 have hg:(atO g.ts id).isSome=true:=by rw [hno];exact hs
 have ht:=h.b.tr id h0 h1 hs
 obtain ⟨hA,hR,hT⟩:=ht.arr (by omega) (n:=n) hnr.1 (by omega)
 have l1:id<(g.ts.length:Int):=by rw [h.b.lg];exact h1
 have l2:id<(r.ts.length:Int):=by rw [h.b.lr];exact h1
 have hpin: ∀b:Rts,b.pin=(rtAt r.ts id).pin->b.pin= -1 \/ ∀j,0<=j->j<64->j≠id->(atO r.ts j).isSome=true->(rtAt r.ts j).pin≠b.pin:=fun b hb=>by
  rw [hb]
  by_cases e:(rtAt r.ts id).pin= -1
  ·exact .inl e
  ·refine .inr fun j j0 j1 hj hsj hp=> ?_
   rcases h.b.pins j id j0 j1 h0 h1 hsj hs hp with e'|e'
   ·exact hj e'
   ·rw [hp] at e';exact e e'
 have hk:(rtAt r.ts id).stage=3->0<=(rtAt r.ts id).kept/\ (rtAt r.ts id).kept<=64:=fun e=>(ht.nxt e).2.2.2.1
 have hkg:(rnAt g.ts id).stage=3->(rnAt g.ts id).kept=(rtAt r.ts id).kept:=fun e=>(ht.nxt (by rw [←ht.stage];exact e)).2.2.1
 have hb1:=hm1.b
 have hput:=hb1.put h0 h1 hT (h.b.dom id h0 h1 hs) (hpin _ (by unfold arrT1;rfl))
 obtain ⟨F1,q',d',F2,F3,F4⟩:=files_ok (g:=setT' g id (arrT g.now n (rnAt g.ts id))) h.rq h.dq (fun id hi=>rdyF_out hi) h0 h1 (by unfold setT';simp [h.b.lg]) (by unfold setT';dsimp only;omega)
 rw [hnow] at F1 F2
 have F3':RqV q' (rdyF (g.ts.set id.toNat (some (arrT g.now n (rnAt g.ts id)))) g.now):=by
  have:=F3
  unfold setT' at this
  dsimp only at this
  rw [rdyF_set h0 l1] at this
  exact this
 have F4':DQ d' (waitF (g.ts.set id.toNat (some (arrT g.now n (rnAt g.ts id)))) g.now) (ruleF r):=by
  have:=F4
  unfold setT' at this
  dsimp only at this
  rw [waitF_set h0 l1] at this
  exact this
 rw [hnow] at F3' F4'
 have hst1:(arrT1 r.now n (rtAt r.ts id)).stage=(rtAt r.ts id).stage/\ (arrT1 r.now n (rtAt r.ts id)).time=(rtAt r.ts id).time:=⟨rfl,rfl⟩
 --what settles:nothing,as nothing but what has quanta changes
 have hcan: ∀j,0<=j->j<64->canS (putR r id (some (arrT1 r.now n (rtAt r.ts id)))) j=false:=fun j j0 j1=>by
  by_cases e:j=id
  ·subst e
   have hc:=h.set j j0 j1
   unfold canS at hc ⊢
   unfold putR
   dsimp only
   rw [atO_set h0 l2 j0,if_pos rfl,rtAt_set h0 l2 j0,if_pos rfl]
   rw [hs,Bool.true_and] at hc
   show (true&&canR r.now (arrT1 r.now n (rtAt r.ts j)))=false
   rw [Bool.true_and,Bool.eq_false_iff]
   intro q
   obtain ⟨q1,q2,q3⟩:=canR_iff.1 q
   have:(rtAt r.ts j).t.waits=[]:=by
    unfold arrT1 arrRT at q3
    cases hz:raE r.now n (rtAt r.ts j).t.cut (rtAt r.ts j).t.waits==0
    ·rw [hz] at q3;exact q3
    ·rw [hz] at q3
     simp only [cond_true] at q3
     exact (List.append_eq_nil_iff.1 q3).1
   have hcc:canR r.now (rtAt r.ts j)=true:=canR_iff.2 ⟨q1,q2,this⟩
   rw [hcc] at hc;cases hc
  ·rw [(ruleF_congr (r:=putR r id (some (arrT1 r.now n (rtAt r.ts id)))) (r':=r) (id:=j) (by unfold putR;dsimp only;rw [atO_set h0 l2 j0,if_neg e]) rfl).2]
   exact h.set j j0 j1
 obtain ⟨s1,s2⟩:=setR_id hcan (by unfold putR;simp [h.b.lr]) (by unfold putR;dsimp only;have:=h.b.evl;omega)
 refine ⟨⟨h.b.lg,fun _ _=>⟨fun e=>by rw [hkg e];have:=hk (by rw [←ht.stage];exact e);omega,by rw [hnow];exact hA,by rw [hnow];exact F1⟩⟩,⟨h.b.lr,fun _ _=>⟨fun e=>by have:=hk e;omega,hR,s2⟩⟩, ?_, ?_⟩
 ·unfold arrEG arrRE
  rw [hbad,hid,hg,hs,ht.stage,hnow,ht.cut,ht.waits,arrE_eq]
  by_cases e3:(rtAt r.ts id).stage=3
  ·rw [hkg (by rw [ht.stage];exact e3)];rfl
  ·rw [show ((rtAt r.ts id).stage==3)=false from beq_eq_false_iff_ne.2 e3];rfl
 unfold arrG arrRG
 rw [hbad,hid,hg,hs,ht.stage]
 by_cases hn:1<=n
 case neg=>
  rw [decide_eq_true (show n<1 by omega)]
  exact hm1
 rw [decide_eq_false (show ¬n<1 by omega)]
 cases decide (n>64)
 case true=>exact hm1
 simp only [Bool.not_true,Bool.or_self,cond_false]
 by_cases e2:(rtAt r.ts id).stage=2
 ·rw [show ((rtAt r.ts id).stage==2)=true from beq_iff_eq.2 e2]
  exact hm1
 rw [show ((rtAt r.ts id).stage==2)=false from beq_eq_false_iff_ne.2 e2]
 simp only [cond_false]
 by_cases e3:(rtAt r.ts id).stage=3
 ·rw [show ((rtAt r.ts id).stage==3)=true from beq_iff_eq.2 e3,hkg (by rw [ht.stage];exact e3)]
  simp only [cond_true]
  by_cases e4:(rtAt r.ts id).kept+n>64
  ·rw [decide_eq_true e4];exact hm1
  ·rw [decide_eq_false e4]
   simp only [cond_false]
   have hT3:TR r.m (K+1) { rnAt g.ts id with kept:=(rtAt r.ts id).kept+n } { rtAt r.ts id with kept:=(rtAt r.ts id).kept+n }:=by
    have hx:=ht.mono (Nat.le_succ K)
    obtain ⟨w1,w2,w3,w4,w5⟩:=ht.nxt e3
    exact { wt:=hx.wt,E:=hx.E,P:=hx.P,ea:=hx.ea,eb:=hx.eb,cut:=hx.cut,waits:=hx.waits,ran:=hx.ran,done:=hx.done,dn:=hx.dn,st:=hx.st,off:=hx.off,len:=hx.len,srt:=hx.srt,stage:=hx.stage,stg:=hx.stg,pin:=hx.pin,pinb:=hx.pinb,last:=hx.last,lastb:=hx.lastb,since:=hx.since,nxt:=fun _=>⟨w1,w2,rfl,⟨by dsimp only;omega,by dsimp only;omega⟩,w5⟩ }
   have hput3:=hb1.put h0 h1 hT3 (h.b.dom id h0 h1 hs) (hpin _ rfl)
   refine hm1.same h0 h1 hput3 ?_ ?_ ?_ ?_
   ·unfold rdyF isLv
    rw [atO_set h0 l1 h0,if_pos rfl,rnAt_set h0 l1 h0,if_pos rfl,hg];rfl
   ·unfold waitF isLv
    rw [atO_set h0 l1 h0,if_pos rfl,rnAt_set h0 l1 h0,if_pos rfl,hg];rfl
   ·unfold ruleF
    dsimp only
    rw [atO_set h0 l2 h0,if_pos rfl,rtAt_set h0 l2 h0,if_pos rfl,hs];rfl
   ·have hc:=h.set id h0 h1
    unfold canS at hc
    rw [hs,Bool.true_and] at hc
    exact hc
 rw [show ((rtAt r.ts id).stage==3)=false from beq_eq_false_iff_ne.2 e3,s1 64 (Nat.le_refl _),hnow,F2]
 simp only [cond_false]
 refine ⟨{ hput with now:= ?_ }, ?_, ?_,hcan⟩
 ·exact hnow
 ·unfold setT'
  dsimp only
  rw [hnow];exact F3'
 ·unfold setT' putR
  dsimp only
  rw [hnow]
  have:dqf (waitF (g.ts.set id.toNat (some (arrT r.now n (rnAt g.ts id)))) r.now) (ruleF { r with ts:=r.ts.set id.toNat (some (arrT1 r.now n (rtAt r.ts id))) })=dqf (waitF (g.ts.set id.toNat (some (arrT r.now n (rnAt g.ts id)))) r.now) (ruleF r):=dqf_congr fun j j0 j1=>⟨rfl,by
   by_cases e:j=id
   ·subst e
    unfold ruleF
    dsimp only
    rw [atO_set h0 l2 j0,if_pos rfl,rtAt_set h0 l2 j0,if_pos rfl,hs];rfl
   ·exact (ruleF_congr (r:= { r with ts:=r.ts.set id.toNat (some (arrT1 r.now n (rtAt r.ts id))) }) (r':=r) (id:=j) (by dsimp only;rw [atO_set h0 l2 j0,if_neg e]) rfl).1⟩
  unfold DQ
  rw [this];exact F4'
noncomputable def tab60:Tab T O:=tab59
theorem tabOk60:TabOk R Tryz.prog tab60:=tabOk59
noncomputable def X60:Ctx T O:= { X0 with con:=conOf tab60 }
theorem X60Ok:TabOk R X60.P tab60:=tabOk60
end Go.Proofs.YtlfjbnflfdnoaaaGreat
namespace Go.Proofs.YtlfjbnflfdnoaaaGreat
open Go.Sx Go.Proofs Classical
def halfWC0:Int:=((1:Int))
def halfWC1:Int:=((2:Int))
noncomputable def halfWCon:Con T O:=fun args cs=>match args,cs with
 |[],[]=>retv (.agg [.raw (.int .i64 (halfWC0)), .raw (.int .i64 (halfWC1))])
 |_,_=> .fail
theorem halfWVc:fnX X60 noAnn Tryz.f34 [] [] (ends [] ⟨some (.agg [.raw (.int .i64 (halfWC0)), .raw (.int .i64 (halfWC1))]),[]⟩)=(((((halfWC0=((1:Int)))/\ ((halfWC1=((2:Int)))/\ True)))/\ True)/\ True):=by kernel_rfl
theorem halfWOk:ConOk R Tryz.prog 34 halfWCon:=con_of_fn R X60 (good (X60) rfl (TabOk.con R X60Ok)) mixed Tryz.call34 Tryz.func34 halfWCon (by
 intro args cs K h
 unfold halfWCon at h
 split at h
 ·
  refine ⟨noAnn,_,fun v S hv=>⟨_,h,hv⟩, ?_⟩
  rw [halfWVc]
  unfold halfWC0 halfWC1
  exact ⟨⟨⟨rfl,⟨rfl,trivial⟩⟩,trivial⟩,trivial⟩
 ·exact h.elim)
def eventsCK0Text:Prop:=(((Value.slice none (0:Nat) (0:Nat)=Value.slice none (0:Nat) (0:Nat))/\ True)/\ True)
theorem eventsCK0Vc:fnX X60 (noAnn) Tryz.f35 [.raw (.pointer none)] [] (ends [] ⟨some (.raw (.slice none 0 0)),[]⟩)=eventsCK0Text:=by kernel_rfl
theorem eventsCK0Holds:eventsCK0Text:=by
 unfold eventsCK0Text
 repeat' first|trivial|rfl|apply And.intro
noncomputable def eventsCK1E0 (m:Int) (now:Int) (ts:List (Option Rnr)) (RL:List EThing) (RM:List (Int×Int)) (DL:List VThing) (DM:List (Int×Int)) (ev:List Ev) (nt:List Note):Eff T O:=⟨some (.own 3),[(0,some (.tab [.raw (.int .i64 m), .raw (.int .i64 now)] 0 64 (ts) none [.ptr 1 0, .ptr 2 0, .own 10, .own 4] 105)),(3,some (.vec 4 ev 151)),(10,some (.vec 4 noEv 151)),(4,some (.que 7 nt 84)),(5,some (.vec 5 RL 200)),(6,some (.map 0 RM)),(8,some (.vec 6 DL 242)),(9,some (.map 0 DM))]⟩
def eventsCK1Text (m now:Int) (ts:List (Option Rnr)) (RL:List EThing) (RM:List (Int×Int)) (DL:List VThing) (DM:List (Int×Int)) (ev:List Ev) (nt:List Note):Prop:=let q0:=(True/\ (True/\ (True/\ True)));((True/\ True)/\ ((((m=m)/\ ((now=now)/\ True))/\ ((ts=ts)/\ ((True/\ q0)/\ True)))/\ (q0/\ ((True/\ True)/\ ((ev=ev)/\ ((nt=nt)/\ ((RL=RL)/\ ((RM=RM)/\ (q0/\ ((DL=DL)/\ ((DM=DM)/\ ((noEv=[])/\ True))))))))))))
theorem eventsCK1Vc (m now:Int) (ts:List (Option Rnr)) (RL:List EThing) (RM:List (Int×Int)) (DL:List VThing) (DM:List (Int×Int)) (ev:List Ev) (nt:List Note):fnX X60 (noAnn) Tryz.f35 [.ptr 0 0] (cs3 m now ts RL RM DL DM ev nt) (ends (cs3 m now ts RL RM DL DM ev nt) (eventsCK1E0 m now ts RL RM DL DM ev nt))=eventsCK1Text m now ts RL RM DL DM ev nt:=by kernel_rfl
theorem eventsCK1Holds (m now:Int) (ts:List (Option Rnr)) (RL:List EThing) (RM:List (Int×Int)) (DL:List VThing) (DM:List (Int×Int)) (ev:List Ev) (nt:List Note):eventsCK1Text m now ts RL RM DL DM ev nt:=by
 unfold eventsCK1Text
 conv=>zeta
 repeat' first|exact True.intro|with_reducible rfl|apply And.intro|exact rfl
set_option maxHeartbeats 4000000 in
noncomputable def eventsCCon:Con T O:=fun args cs=>match args,cs with
 |[.raw (.pointer none)],[]=> .ret ⟨some (.raw (.slice none 0 0)),[]⟩
 |[.ptr 0 0],[.tab [.raw (.int .i64 m), .raw (.int .i64 now)] 0 64 (ts) none [.ptr 1 0, .ptr 2 0, .own 3, .own 4] 105, .cells [.fn 40 [], .own 5, .own 6] 146, .cells [.ptr 7 0] 156, .vec 4 ev 151, .que 7 nt 84, .vec 5 RL 200, .map 0 RM, .cells [.fn 83 [], .own 8, .own 9] 198, .vec 6 DL 242, .map 0 DM]=> .ret (eventsCK1E0 m now ts RL RM DL DM ev nt)
 |_,_=> .fail
theorem eventsCOk:ConOk R Tryz.prog 35 eventsCCon:=con_of_fn R (X60) (good (X60) rfl (TabOk.con R X60Ok)) mixed Tryz.call35 Tryz.func35 eventsCCon (by
 intro args cs K h
 unfold eventsCCon at h
 split at h
 ·
  refine ⟨noAnn,_,fun v S hv=>⟨_,h,hv⟩, ?_⟩
  rw [eventsCK0Vc]
  exact eventsCK0Holds
 ·rename_i m now ts ev nt RL RM DL DM
  refine ⟨noAnn,_,fun v S hv=>⟨_,h,hv⟩, ?_⟩
  have hv:=eventsCK1Vc m now ts RL RM DL DM ev nt
  unfold cs3 at hv
  rw [hv]
  exact eventsCK1Holds m now ts RL RM DL DM ev nt
 ·exact h.elim)
def notesNText:Prop:=(((Value.slice none (0:Nat) (0:Nat)=Value.slice none (0:Nat) (0:Nat))/\ True)/\ True)
theorem notesNVc:fnX X60 (noAnn) Tryz.f32 [.raw (.pointer none)] [] (ends [] ⟨some (.raw (.slice none 0 0)),[]⟩)=notesNText:=by kernel_rfl
theorem notesNHolds:notesNText:=by
 unfold notesNText
 repeat' first|exact True.intro|with_reducible rfl|apply And.intro|exact rfl
set_option maxHeartbeats 4000000 in
noncomputable def notesNCon:Con T O:=fun args cs=>match args,cs with
 |[.raw (.pointer none)],[]=> .ret ⟨some (.raw (.slice none 0 0)),[]⟩
 |_,_=> .fail
theorem notesNOk:ConOk R Tryz.prog 32 notesNCon:=con_of_fn R (X60) (good (X60) rfl (TabOk.con R X60Ok)) mixed Tryz.call32 Tryz.func32 notesNCon (by
 intro args cs K h
 unfold notesNCon at h
 split at h
 ·
  refine ⟨noAnn,_,fun v S hv=>⟨_,h,hv⟩, ?_⟩
  rw [notesNVc]
  exact notesNHolds
 ·exact h.elim)
noncomputable def tab61:Tab T O:=(34,halfWCon)::(35,eventsCCon)::(32,notesNCon)::tab60
theorem tabOk61:TabOk R Tryz.prog tab61:=TabOk.cons R halfWOk<|TabOk.cons R eventsCOk<|TabOk.cons R notesNOk<|tabOk60
noncomputable def X61:Ctx T O:= { X0 with con:=conOf tab61 }
theorem X61Ok:TabOk R X61.P tab61:=tabOk61
end Go.Proofs.YtlfjbnflfdnoaaaGreat