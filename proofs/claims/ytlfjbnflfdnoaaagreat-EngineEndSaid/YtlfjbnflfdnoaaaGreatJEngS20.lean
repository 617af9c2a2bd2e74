/-
  Part of a proof over the seat YtlfjbnflfdnoaaaGreat: printed by a small program or typed by hand.
-/
import Derived.Test.YtlfjbnflfdnoaaaGreatSxKit
import Derived.Test.YtlfjbnflfdnoaaaGreatSxLay
import Derived.Test.YtlfjbnflfdnoaaaGreatChecked
import Derived.KernelRfl
namespace Go.Proofs.YtlfjbnflfdnoaaaGreat
open Go.Sx Go.Proofs Classical
def noEnc:Enc:= { α:=Unit,zero:=(),n:=0,agg:=true,enc:=fun _=>[],dec:=fun|[]=>some ()|_=>none,len:=fun _=>rfl,back:=by intro cs a h;cases cs<;>simp_all,cell:=by intro a c h;cases h }
abbrev intE:Enc:= { α:=Int,zero:=0,n:=1,agg:=false,enc:=fun a=>[.raw (.int .i64 a)],dec:=fun|[.raw (.int .i64 a)]=>some a|_=>none,len:=fun _=>rfl,back:=by intro cs a h;split at h<;>simp_all,cell:=by intro a c h;simp at h;exact ⟨_,h,rfl⟩ }
abbrev boolE:Enc:= { α:=Bool,zero:=false,n:=1,agg:=false,enc:=fun a=>[.raw (.bool a)],dec:=fun|[.raw (.bool a)]=>some a|_=>none,len:=fun _=>rfl,back:=by intro cs a h;split at h<;>simp_all,cell:=by intro a c h;simp at h;exact ⟨_,h,rfl⟩ }
structure Sub where
 Index:Int
 Release:Int
 Deadline:Int
 Bit:Int
 Group:Int
 deriving DecidableEq
abbrev subE:Enc:= { α:=Sub,zero:=⟨0,0,0,0,0⟩,n:=5,agg:=true,enc:=fun a=>[.raw (.int .i64 a.Index), .raw (.int .i64 a.Release), .raw (.int .i64 a.Deadline), .raw (.int .i64 a.Bit), .raw (.int .i64 a.Group)],dec:=fun|[.raw (.int .i64 x0), .raw (.int .i64 x1), .raw (.int .i64 x2), .raw (.int .i64 x3), .raw (.int .i64 x4)]=>some ⟨x0,x1,x2,x3,x4⟩|_=>none,len:=fun _=>rfl,back:=by intro cs a h;split at h<;>simp_all<;>(subst h;simp),cell:=by intro a c h;simp at h;rcases h with h|h|h|h|h<;>exact ⟨_,h,rfl⟩ }
structure Entry where
 ID:Int
 SubIndex:Int
 SubRelease:Int
 SubDeadline:Int
 SubBit:Int
 SubGroup:Int
 deriving DecidableEq
abbrev entryE:Enc:= { α:=Entry,zero:=⟨0,0,0,0,0,0⟩,n:=6,agg:=true,enc:=fun a=>[.raw (.int .i64 a.ID), .raw (.int .i64 a.SubIndex), .raw (.int .i64 a.SubRelease), .raw (.int .i64 a.SubDeadline), .raw (.int .i64 a.SubBit), .raw (.int .i64 a.SubGroup)],dec:=fun|[.raw (.int .i64 x0), .raw (.int .i64 x1), .raw (.int .i64 x2), .raw (.int .i64 x3), .raw (.int .i64 x4), .raw (.int .i64 x5)]=>some ⟨x0,x1,x2,x3,x4,x5⟩|_=>none,len:=fun _=>rfl,back:=by intro cs a h;split at h<;>simp_all<;>(subst h;simp),cell:=by intro a c h;simp at h;rcases h with h|h|h|h|h|h<;>exact ⟨_,h,rfl⟩ }
structure Ev where
 At:Int
 ID:Int
 Kind:Int
 deriving DecidableEq
abbrev evE:Enc:= { α:=Ev,zero:=⟨0,0,0⟩,n:=3,agg:=true,enc:=fun a=>[.raw (.int .i64 a.At), .raw (.int .i64 a.ID), .raw (.int .i64 a.Kind)],dec:=fun|[.raw (.int .i64 x0), .raw (.int .i64 x1), .raw (.int .i64 x2)]=>some ⟨x0,x1,x2⟩|_=>none,len:=fun _=>rfl,back:=by intro cs a h;split at h<;>simp_all<;>(subst h;simp),cell:=by intro a c h;simp at h;rcases h with h|h|h<;>exact ⟨_,h,rfl⟩ }
structure EThing where
 Id:Int
 XID:Int
 XSubIndex:Int
 XSubRelease:Int
 XSubDeadline:Int
 XSubBit:Int
 XSubGroup:Int
 deriving DecidableEq
abbrev eThingE:Enc:= { α:=EThing,zero:=⟨0,0,0,0,0,0,0⟩,n:=7,agg:=true,enc:=fun a=>[.raw (.int .i64 a.Id), .raw (.int .i64 a.XID), .raw (.int .i64 a.XSubIndex), .raw (.int .i64 a.XSubRelease), .raw (.int .i64 a.XSubDeadline), .raw (.int .i64 a.XSubBit), .raw (.int .i64 a.XSubGroup)],dec:=fun|[.raw (.int .i64 x0), .raw (.int .i64 x1), .raw (.int .i64 x2), .raw (.int .i64 x3), .raw (.int .i64 x4), .raw (.int .i64 x5), .raw (.int .i64 x6)]=>some ⟨x0,x1,x2,x3,x4,x5,x6⟩|_=>none,len:=fun _=>rfl,back:=by intro cs a h;split at h<;>simp_all<;>(subst h;simp),cell:=by intro a c h;simp at h;rcases h with h|h|h|h|h|h|h<;>exact ⟨_,h,rfl⟩ }
structure VThing where
 Id:Int
 XAt:Int
 XID:Int
 XKind:Int
 deriving DecidableEq
abbrev vThingE:Enc:= { α:=VThing,zero:=⟨0,0,0,0⟩,n:=4,agg:=true,enc:=fun a=>[.raw (.int .i64 a.Id), .raw (.int .i64 a.XAt), .raw (.int .i64 a.XID), .raw (.int .i64 a.XKind)],dec:=fun|[.raw (.int .i64 x0), .raw (.int .i64 x1), .raw (.int .i64 x2), .raw (.int .i64 x3)]=>some ⟨x0,x1,x2,x3⟩|_=>none,len:=fun _=>rfl,back:=by intro cs a h;split at h<;>simp_all<;>(subst h;simp),cell:=by intro a c h;simp at h;rcases h with h|h|h|h<;>exact ⟨_,h,rfl⟩ }
structure Note where
 ID:Int
 Since:Int
 SubIndex:Int
 SubRelease:Int
 SubDeadline:Int
 SubBit:Int
 SubGroup:Int
 Ready:Int
 At:Int
 Core:Int
 deriving DecidableEq
abbrev noteE:Enc:= { α:=Note,zero:=⟨0,0,0,0,0,0,0,0,0,0⟩,n:=10,agg:=true,enc:=fun a=>[.raw (.int .i64 a.ID), .raw (.int .i64 a.Since), .raw (.int .i64 a.SubIndex), .raw (.int .i64 a.SubRelease), .raw (.int .i64 a.SubDeadline), .raw (.int .i64 a.SubBit), .raw (.int .i64 a.SubGroup), .raw (.int .i64 a.Ready), .raw (.int .i64 a.At), .raw (.int .i64 a.Core)],dec:=fun|[.raw (.int .i64 x0), .raw (.int .i64 x1), .raw (.int .i64 x2), .raw (.int .i64 x3), .raw (.int .i64 x4), .raw (.int .i64 x5), .raw (.int .i64 x6), .raw (.int .i64 x7), .raw (.int .i64 x8), .raw (.int .i64 x9)]=>some ⟨x0,x1,x2,x3,x4,x5,x6,x7,x8,x9⟩|_=>none,len:=fun _=>rfl,back:=by intro cs a h;split at h<;>simp_all<;>(subst h;simp),cell:=by intro a c h;simp at h;rcases h with h|h|h|h|h|h|h|h|h|h<;>exact ⟨_,h,rfl⟩ }
structure Run where
 ID:Int
 Core:Int
 Index:Int
 deriving DecidableEq
abbrev runE:Enc:= { α:=Run,zero:=⟨0,0,0⟩,n:=3,agg:=true,enc:=fun a=>[.raw (.int .i64 a.ID), .raw (.int .i64 a.Core), .raw (.int .i64 a.Index)],dec:=fun|[.raw (.int .i64 x0), .raw (.int .i64 x1), .raw (.int .i64 x2)]=>some ⟨x0,x1,x2⟩|_=>none,len:=fun _=>rfl,back:=by intro cs a h;split at h<;>simp_all<;>(subst h;simp),cell:=by intro a c h;simp at h;rcases h with h|h|h<;>exact ⟨_,h,rfl⟩ }
structure Runner where
 ID:Int
 Pin:Int
 Last:Int
 deriving DecidableEq
abbrev runnerE:Enc:= { α:=Runner,zero:=⟨0,0,0⟩,n:=3,agg:=true,enc:=fun a=>[.raw (.int .i64 a.ID), .raw (.int .i64 a.Pin), .raw (.int .i64 a.Last)],dec:=fun|[.raw (.int .i64 x0), .raw (.int .i64 x1), .raw (.int .i64 x2)]=>some ⟨x0,x1,x2⟩|_=>none,len:=fun _=>rfl,back:=by intro cs a h;split at h<;>simp_all<;>(subst h;simp),cell:=by intro a c h;simp at h;rcases h with h|h|h<;>exact ⟨_,h,rfl⟩ }
structure Act where
 Kind:Int
 ID:Int
 N:Int
 Pin:Int
 Wi0:Int
 Wi1:Int
 Early:Bool
 deriving DecidableEq
abbrev actE:Enc:= { α:=Act,zero:=⟨0,0,0,0,0,0,false⟩,n:=7,agg:=true,enc:=fun a=>[.raw (.int .i64 a.Kind), .raw (.int .i64 a.ID), .raw (.int .i64 a.N), .raw (.int .i64 a.Pin), .raw (.int .i64 a.Wi0), .raw (.int .i64 a.Wi1), .raw (.bool a.Early)],dec:=fun|[.raw (.int .i64 x0), .raw (.int .i64 x1), .raw (.int .i64 x2), .raw (.int .i64 x3), .raw (.int .i64 x4), .raw (.int .i64 x5), .raw (.bool x6)]=>some ⟨x0,x1,x2,x3,x4,x5,x6⟩|_=>none,len:=fun _=>rfl,back:=by intro cs a h;split at h<;>simp_all<;>(subst h;simp),cell:=by intro a c h;simp at h;rcases h with h|h|h|h|h|h|h<;>exact ⟨_,h,rfl⟩ }
abbrev T:Nat->Enc
 |0=>intE
 |1=>boolE
 |2=>subE
 |3=>entryE
 |4=>evE
 |5=>eThingE
 |6=>vThingE
 |7=>noteE
 |8=>runE
 |9=>runnerE
 |10=>actE
 |_=>noEnc
structure Stp where
 E:Int
 P:Int
 off:Int
 idx:Int
 whole:Int
 rest:Int
 ew:Int
 el:Int
 eo:Int
 long:Int
 part:Int
 gw:Int
 gl:Int
 go:Int
 sub:Sub
structure Tsk where
 E:Int
 P:Int
 early:Bool
 cut:Bool
 st:Stp
 waits:List Sub
 ran:Sub
 done:Int
structure Rnr where
 t:Tsk
 stage:Int
 early:Bool
 pin:Int
 last:Int
 since:Int
 nE:Int
 nP:Int
 kept:Int
structure Rtk where
 E:Int
 P:Int
 early:Bool
 cut:Bool
 off:Int
 came:Int
 waits:List Sub
 ran:Sub
 done:Int
structure Rts where
 t:Rtk
 stage:Int
 pin:Int
 last:Int
 since:Int
 time:Int
 nE:Int
 nP:Int
 kept:Int
abbrev O:Nat->Type
 |0=>Rnr
 |1=>Rts
 |_=>Empty
set_option maxHeartbeats 4000000 in
noncomputable def rnrL:LayF T O 0 where
 n:=4
 zero:=(⟨⟨0,0,false,false,⟨0,0,0,0,0,0,0,0,0,0,0,0,0,0,⟨0,0,0,0,0⟩⟩,[],⟨0,0,0,0,0⟩,0⟩,0,false,0,0,0,0,0,0⟩:Rnr)
 lay:=fun (d:Rnr)=>[.cells [.ptr 1 0, .raw (.int .i64 d.stage), .raw (.bool d.early), .raw (.int .i64 d.pin), .raw (.int .i64 d.last), .raw (.int .i64 d.since), .raw (.int .i64 d.nE), .raw (.int .i64 d.nP), .raw (.int .i64 d.kept)] 111, .cells [.raw (.int .i64 d.t.E), .raw (.int .i64 d.t.P), .raw (.bool d.t.early), .raw (.bool d.t.cut), .ptr 2 0, .own 3, .raw (.int .i64 d.t.ran.Index), .raw (.int .i64 d.t.ran.Release), .raw (.int .i64 d.t.ran.Deadline), .raw (.int .i64 d.t.ran.Bit), .raw (.int .i64 d.t.ran.Group), .raw (.int .i64 d.t.done)] 179, .cells [.raw (.int .i64 d.t.st.E), .raw (.int .i64 d.t.st.P), .raw (.int .i64 d.t.st.off), .raw (.int .i64 d.t.st.idx), .raw (.int .i64 d.t.st.whole), .raw (.int .i64 d.t.st.rest), .raw (.int .i64 d.t.st.ew), .raw (.int .i64 d.t.st.el), .raw (.int .i64 d.t.st.eo), .raw (.int .i64 d.t.st.long), .raw (.int .i64 d.t.st.part), .raw (.int .i64 d.t.st.gw), .raw (.int .i64 d.t.st.gl), .raw (.int .i64 d.t.st.go), .raw (.int .i64 d.t.st.sub.Index), .raw (.int .i64 d.t.st.sub.Release), .raw (.int .i64 d.t.st.sub.Deadline), .raw (.int .i64 d.t.st.sub.Bit), .raw (.int .i64 d.t.st.sub.Group)] 226, .que 2 d.t.waits 39]
 unlay:=fun l=>match l with
  |[.cells [.ptr 1 0, .raw (.int .i64 p0), .raw (.bool p1), .raw (.int .i64 p2), .raw (.int .i64 p3), .raw (.int .i64 p4), .raw (.int .i64 p5), .raw (.int .i64 p6), .raw (.int .i64 p7)] 111, .cells [.raw (.int .i64 tE), .raw (.int .i64 tP), .raw (.bool te), .raw (.bool tc), .ptr 2 0, .own 3, .raw (.int .i64 r0), .raw (.int .i64 r1), .raw (.int .i64 r2), .raw (.int .i64 r3), .raw (.int .i64 r4), .raw (.int .i64 td)] 179, .cells [.raw (.int .i64 s0), .raw (.int .i64 s1), .raw (.int .i64 s2), .raw (.int .i64 s3), .raw (.int .i64 s4), .raw (.int .i64 s5), .raw (.int .i64 s6), .raw (.int .i64 s7), .raw (.int .i64 s8), .raw (.int .i64 s9), .raw (.int .i64 s10), .raw (.int .i64 s11), .raw (.int .i64 s12), .raw (.int .i64 s13), .raw (.int .i64 u0), .raw (.int .i64 u1), .raw (.int .i64 u2), .raw (.int .i64 u3), .raw (.int .i64 u4)] 226, .que 2 L 39]=>some (⟨⟨tE,tP,te,tc,⟨s0,s1,s2,s3,s4,s5,s6,s7,s8,s9,s10,s11,s12,s13,⟨u0,u1,u2,u3,u4⟩⟩,L,⟨r0,r1,r2,r3,r4⟩,td⟩,p0,p1,p2,p3,p4,p5,p6,p7⟩:Rnr)
  |_=>none
theorem rnrOk:LayGood rnrL where
 n:=by decide
 len:=fun _=>rfl
 flat:=by
  intro d c hc
  simp only [rnrL,List.mem_cons,List.not_mem_nil,or_false] at hc
  rcases hc with rfl|rfl|rfl|rfl<;>rfl
 ids:=by
  intro d c hc
  simp only [rnrL,List.mem_cons,List.not_mem_nil,or_false] at hc
  rcases hc with rfl|rfl|rfl|rfl<;>simp [Chunk.ids,idsL,SV.ids,rnrL]
 back:=by
  intro l d h
  simp only [rnrL] at h
  split at h
  ·simp only [Option.some.injEq] at h;subst h;rfl
  ·cases h
 first:=fun d=>⟨_,_,rfl⟩
set_option maxHeartbeats 4000000 in
noncomputable def rtsL:LayF T O 1 where
 n:=3
 zero:=(⟨⟨0,0,false,false,0,0,[],⟨0,0,0,0,0⟩,0⟩,0,0,0,0,0,0,0,0⟩:Rts)
 lay:=fun (d:Rts)=>[.cells [.raw (.int .i64 d.stage), .ptr 1 0, .raw (.int .i64 d.pin), .raw (.int .i64 d.last), .raw (.int .i64 d.since), .raw (.int .i64 d.time), .raw (.int .i64 d.nE), .raw (.int .i64 d.nP), .raw (.int .i64 d.kept)] 45, .cells [.raw (.int .i64 d.t.E), .raw (.int .i64 d.t.P), .raw (.bool d.t.early), .raw (.bool d.t.cut), .raw (.int .i64 d.t.off), .raw (.int .i64 d.t.came), .own 2, .raw (.int .i64 d.t.ran.Index), .raw (.int .i64 d.t.ran.Release), .raw (.int .i64 d.t.ran.Deadline), .raw (.int .i64 d.t.ran.Bit), .raw (.int .i64 d.t.ran.Group), .raw (.int .i64 d.t.done)] 81, .que 2 d.t.waits 39]
 unlay:=fun l=>match l with
  |[.cells [.raw (.int .i64 p0), .ptr 1 0, .raw (.int .i64 p1), .raw (.int .i64 p2), .raw (.int .i64 p3), .raw (.int .i64 p4), .raw (.int .i64 p5), .raw (.int .i64 p6), .raw (.int .i64 p7)] 45, .cells [.raw (.int .i64 tE), .raw (.int .i64 tP), .raw (.bool te), .raw (.bool tc), .raw (.int .i64 to), .raw (.int .i64 tn), .own 2, .raw (.int .i64 r0), .raw (.int .i64 r1), .raw (.int .i64 r2), .raw (.int .i64 r3), .raw (.int .i64 r4), .raw (.int .i64 td)] 81, .que 2 L 39]=>some (⟨⟨tE,tP,te,tc,to,tn,L,⟨r0,r1,r2,r3,r4⟩,td⟩,p0,p1,p2,p3,p4,p5,p6,p7⟩:Rts)
  |_=>none
theorem rtsOk:LayGood rtsL where
 n:=by decide
 len:=fun _=>rfl
 flat:=by
  intro d c hc
  simp only [rtsL,List.mem_cons,List.not_mem_nil,or_false] at hc
  rcases hc with rfl|rfl|rfl<;>rfl
 ids:=by
  intro d c hc
  simp only [rtsL,List.mem_cons,List.not_mem_nil,or_false] at hc
  rcases hc with rfl|rfl|rfl<;>simp [Chunk.ids,idsL,SV.ids,rtsL]
 back:=by
  intro l d h
  simp only [rtsL] at h
  split at h
  ·simp only [Option.some.injEq] at h;subst h;rfl
  ·cases h
 first:=fun d=>⟨_,_,rfl⟩
noncomputable def layF:(o:Nat)->Option (LayF T O o)
 |0=>some rnrL
 |1=>some rtsL
 |_=>none
theorem layGood: ∀o ℓ,layF o=some ℓ->LayGood ℓ:=by
 intro o ℓ e
 unfold layF at e
 split at e
 ·simp only [Option.some.injEq] at e;subst e;exact rnrOk
 ·simp only [Option.some.injEq] at e;subst e;exact rtsOk
 ·cases e
noncomputable def R:Objs O:=layObjs layF
theorem good (X:Ctx T O) (hl:X.lay=layF) (hc: ∀f,ConOk R X.P f (X.con f)):Go.Sx.Good R X:=⟨hc,by
 show LayOk (layObjs layF) X
 rw [←hl]
 exact layOk_of X (by rw [hl];exact layGood)⟩
noncomputable def tab0:Tab T O:=[]
theorem tabOk0:TabOk R Tryz.prog tab0:=TabOk.nil R _
noncomputable def X0:Ctx T O:= { P:=Tryz.prog,te:=fun|3=>some 0|2=>some 0|4=>some 1|39=>some 2|98=>some 3|151=>some 4|200=>some 5|242=>some 6|84=>some 7|61=>some 8|63=>some 9|30=>some 10|_=>none,arr:=fun|160=>some 1|54=>some 0|87=>some 0|_=>none,con:=conOf tab0,lay:=layF,tab:=fun x=>match x==105 with|true=>some (2,0,64)|false=>(match x==37 with|true=>some (2,1,64)|false=>none),deep:=fun x=>match x==49 with|true=>some (0,8)|false=>none }
theorem X0Ok:TabOk R X0.P tab0:=tabOk0
theorem mixed:Tryz.prog.follows .mixedOrders=true:=by kernel_rfl
end Go.Proofs.YtlfjbnflfdnoaaaGreat
namespace Go.Proofs.YtlfjbnflfdnoaaaGreat
open Go.Sx Go.Proofs Classical
def nanL (a0:Int):Bool:=(a0 !=a0)
noncomputable def nanLCon:Con T O:=fun args cs=>match args,cs with
 |[.raw (.int .i64 a0)],[]=>retv (.raw (.bool (nanL a0)))
 |_,_=> .fail
theorem nanLVc (a0:Int):fnX X0 noAnn Tryz.f159 [.raw (.int .i64 a0)] [] (ends [] ⟨some (.raw (.bool (nanL a0))),[]⟩)=(((nanL a0=(a0 !=a0))/\ True)/\ True):=by kernel_rfl
theorem nanLOk:ConOk R Tryz.prog 159 nanLCon:=con_of_fn R X0 (good (X0) rfl (TabOk.con R X0Ok)) mixed Tryz.call159 Tryz.func159 nanLCon (by
 intro args cs K h
 unfold nanLCon at h
 split at h
 ·rename_i a0
  refine ⟨noAnn,_,fun v S hv=>⟨_,h,hv⟩, ?_⟩
  rw [nanLVc a0]
  unfold nanL
  exact ⟨⟨rfl,trivial⟩,trivial⟩
 ·exact h.elim)
def nanI (a0:Int):Bool:=(a0 !=a0)
noncomputable def nanICon:Con T O:=fun args cs=>match args,cs with
 |[.raw (.int .i64 a0)],[]=>retv (.raw (.bool (nanI a0)))
 |_,_=> .fail
theorem nanIVc (a0:Int):fnX X0 noAnn Tryz.f92 [.raw (.int .i64 a0)] [] (ends [] ⟨some (.raw (.bool (nanI a0))),[]⟩)=(((nanI a0=(a0 !=a0))/\ True)/\ True):=by kernel_rfl
theorem nanIOk:ConOk R Tryz.prog 92 nanICon:=con_of_fn R X0 (good (X0) rfl (TabOk.con R X0Ok)) mixed Tryz.call92 Tryz.func92 nanICon (by
 intro args cs K h
 unfold nanICon at h
 split at h
 ·rename_i a0
  refine ⟨noAnn,_,fun v S hv=>⟨_,h,hv⟩, ?_⟩
  rw [nanIVc a0]
  unfold nanI
  exact ⟨⟨rfl,trivial⟩,trivial⟩
 ·exact h.elim)
def calendarRight (a0:Int) (a1:Int):Bool:=(match (decide (a0>=(0:Int))) with|true=>(match (decide (a0<=(1023:Int))) with|true=>(match (decide (a1>=(0:Int))) with|true=>(decide (a1<=(7:Int)))|false=>(false))|false=>(false))|false=>(false))
noncomputable def calendarRightCon:Con T O:=fun args cs=>match args,cs with
 |[.raw (.int .i64 a0), .raw (.int .i64 a1)],[]=>retv (.raw (.bool (calendarRight a0 a1)))
 |_,_=> .fail
theorem calendarRightVc (a0:Int) (a1:Int):fnX X0 noAnn Tryz.f141 [.raw (.int .i64 a0), .raw (.int .i64 a1)] [] (ends [] ⟨some (.raw (.bool (calendarRight a0 a1))),[]⟩)=((match (decide (a0>=(0:Int))) with|true=>(match (decide (a0<=(1023:Int))) with|true=>(match (decide (a1>=(0:Int))) with|true=>((calendarRight a0 a1=(decide (a1<=(7:Int))))/\ True)/\ True|false=>((calendarRight a0 a1=(false))/\ True)/\ True)|false=>((calendarRight a0 a1=(false))/\ True)/\ True)|false=>((calendarRight a0 a1=(false))/\ True)/\ True)):=by kernel_rfl
theorem calendarRightOk:ConOk R Tryz.prog 141 calendarRightCon:=con_of_fn R X0 (good (X0) rfl (TabOk.con R X0Ok)) mixed Tryz.call141 Tryz.func141 calendarRightCon (by
 intro args cs K h
 unfold calendarRightCon at h
 split at h
 ·rename_i a0 a1
  refine ⟨noAnn,_,fun v S hv=>⟨_,h,hv⟩, ?_⟩
  rw [calendarRightVc a0 a1]
  unfold calendarRight
  cases (decide (a0>=(0:Int)))
  ·
   exact ⟨⟨rfl,trivial⟩,trivial⟩
  ·
   cases (decide (a0<=(1023:Int)))
   ·
    exact ⟨⟨rfl,trivial⟩,trivial⟩
   ·
    cases (decide (a1>=(0:Int)))
    ·
     exact ⟨⟨rfl,trivial⟩,trivial⟩
    ·
     exact ⟨⟨rfl,trivial⟩,trivial⟩
 ·exact h.elim)
def calendarNumber (a0:Int) (a1:Int):Int:=(IntKind.i64.wrap (IntKind.i64.wrap (a0*(8:Int))+a1))
noncomputable def calendarNumberCon:Con T O:=fun args cs=>match args,cs with
 |[.raw (.int .i64 a0), .raw (.int .i64 a1)],[]=>retv (.raw (.int .i64 (calendarNumber a0 a1)))
 |_,_=> .fail
theorem calendarNumberVc (a0:Int) (a1:Int):fnX X0 noAnn Tryz.f143 [.raw (.int .i64 a0), .raw (.int .i64 a1)] [] (ends [] ⟨some (.raw (.int .i64 (calendarNumber a0 a1))),[]⟩)=(((calendarNumber a0 a1=(IntKind.i64.wrap (IntKind.i64.wrap (a0*(8:Int))+a1)))/\ True)/\ True):=by kernel_rfl
theorem calendarNumberOk:ConOk R Tryz.prog 143 calendarNumberCon:=con_of_fn R X0 (good (X0) rfl (TabOk.con R X0Ok)) mixed Tryz.call143 Tryz.func143 calendarNumberCon (by
 intro args cs K h
 unfold calendarNumberCon at h
 split at h
 ·rename_i a0 a1
  refine ⟨noAnn,_,fun v S hv=>⟨_,h,hv⟩, ?_⟩
  rw [calendarNumberVc a0 a1]
  unfold calendarNumber
  exact ⟨⟨rfl,trivial⟩,trivial⟩
 ·exact h.elim)
def windowCheck (a0E:Int) (a0P:Int):Bool:=(match (decide (a0E>=(1:Int))) with|true=>(match (decide (a0E<=a0P)) with|true=>(decide (a0P<=(1048576:Int)))|false=>(false))|false=>(false))
noncomputable def windowCheckCon:Con T O:=fun args cs=>match args,cs with
 |[.agg [.raw (.int .i64 a0E), .raw (.int .i64 a0P)]],[]=>retv (.raw (.bool (windowCheck a0E a0P)))
 |_,_=> .fail
theorem windowCheckVc (a0E:Int) (a0P:Int):fnX X0 noAnn Tryz.f65 [.agg [.raw (.int .i64 a0E), .raw (.int .i64 a0P)]] [] (ends [] ⟨some (.raw (.bool (windowCheck a0E a0P))),[]⟩)=((match (decide (a0E>=(1:Int))) with|true=>(match (decide (a0E<=a0P)) with|true=>((windowCheck a0E a0P=(decide (a0P<=(1048576:Int))))/\ True)/\ True|false=>((windowCheck a0E a0P=(false))/\ True)/\ True)|false=>((windowCheck a0E a0P=(false))/\ True)/\ True)):=by kernel_rfl
theorem windowCheckOk:ConOk R Tryz.prog 65 windowCheckCon:=con_of_fn R X0 (good (X0) rfl (TabOk.con R X0Ok)) mixed Tryz.call65 Tryz.func65 windowCheckCon (by
 intro args cs K h
 unfold windowCheckCon at h
 split at h
 ·rename_i a0E a0P
  refine ⟨noAnn,_,fun v S hv=>⟨_,h,hv⟩, ?_⟩
  rw [windowCheckVc a0E a0P]
  unfold windowCheck
  cases (decide (a0E>=(1:Int)))
  ·
   exact ⟨⟨rfl,trivial⟩,trivial⟩
  ·
   cases (decide (a0E<=a0P))
   ·
    exact ⟨⟨rfl,trivial⟩,trivial⟩
   ·
    exact ⟨⟨rfl,trivial⟩,trivial⟩
 ·exact h.elim)
def ref04Check (a0E:Int) (a0P:Int):Bool:=(match (decide (a0E>=(1:Int))) with|true=>(match (decide (a0E<=a0P)) with|true=>(decide (a0P<=(1048576:Int)))|false=>(false))|false=>(false))
noncomputable def ref04CheckCon:Con T O:=fun args cs=>match args,cs with
 |[.agg [.raw (.int .i64 a0E), .raw (.int .i64 a0P)]],[]=>retv (.raw (.bool (ref04Check a0E a0P)))
 |_,_=> .fail
theorem ref04CheckVc (a0E:Int) (a0P:Int):fnX X0 noAnn Tryz.f69 [.agg [.raw (.int .i64 a0E), .raw (.int .i64 a0P)]] [] (ends [] ⟨some (.raw (.bool (ref04Check a0E a0P))),[]⟩)=((match (decide (a0E>=(1:Int))) with|true=>(match (decide (a0E<=a0P)) with|true=>((ref04Check a0E a0P=(decide (a0P<=(1048576:Int))))/\ True)/\ True|false=>((ref04Check a0E a0P=(false))/\ True)/\ True)|false=>((ref04Check a0E a0P=(false))/\ True)/\ True)):=by kernel_rfl
theorem ref04CheckOk:ConOk R Tryz.prog 69 ref04CheckCon:=con_of_fn R X0 (good (X0) rfl (TabOk.con R X0Ok)) mixed Tryz.call69 Tryz.func69 ref04CheckCon (by
 intro args cs K h
 unfold ref04CheckCon at h
 split at h
 ·rename_i a0E a0P
  refine ⟨noAnn,_,fun v S hv=>⟨_,h,hv⟩, ?_⟩
  rw [ref04CheckVc a0E a0P]
  unfold ref04Check
  cases (decide (a0E>=(1:Int)))
  ·
   exact ⟨⟨rfl,trivial⟩,trivial⟩
  ·
   cases (decide (a0E<=a0P))
   ·
    exact ⟨⟨rfl,trivial⟩,trivial⟩
   ·
    exact ⟨⟨rfl,trivial⟩,trivial⟩
 ·exact h.elim)
def taskSlot (a0:Int):Bool:=(match (decide (a0>=(0:Int))) with|true=>(decide (a0<=(1099511627776:Int)))|false=>(false))
noncomputable def taskSlotCon:Con T O:=fun args cs=>match args,cs with
 |[.raw (.int .i64 a0)],[]=>retv (.raw (.bool (taskSlot a0)))
 |_,_=> .fail
theorem taskSlotVc (a0:Int):fnX X0 noAnn Tryz.f106 [.raw (.int .i64 a0)] [] (ends [] ⟨some (.raw (.bool (taskSlot a0))),[]⟩)=((match (decide (a0>=(0:Int))) with|true=>((taskSlot a0=(decide (a0<=(1099511627776:Int))))/\ True)/\ True|false=>((taskSlot a0=(false))/\ True)/\ True)):=by kernel_rfl
theorem taskSlotOk:ConOk R Tryz.prog 106 taskSlotCon:=con_of_fn R X0 (good (X0) rfl (TabOk.con R X0Ok)) mixed Tryz.call106 Tryz.func106 taskSlotCon (by
 intro args cs K h
 unfold taskSlotCon at h
 split at h
 ·rename_i a0
  refine ⟨noAnn,_,fun v S hv=>⟨_,h,hv⟩, ?_⟩
  rw [taskSlotVc a0]
  unfold taskSlot
  cases (decide (a0>=(0:Int)))
  ·
   exact ⟨⟨rfl,trivial⟩,trivial⟩
  ·
   exact ⟨⟨rfl,trivial⟩,trivial⟩
 ·exact h.elim)
def stepperCounterUp (a0Whole:Int) (a0Left:Int) (_a0Of:Int):Int:=(match (decide (a0Left>(0:Int))) with|true=>(IntKind.i64.wrap (a0Whole+(1:Int)))|false=>(a0Whole))
noncomputable def stepperCounterUpCon:Con T O:=fun args cs=>match args,cs with
 |[.agg [.raw (.int .i64 a0Whole), .raw (.int .i64 a0Left), .raw (.int .i64 a0Of)]],[]=>retv (.raw (.int .i64 (stepperCounterUp a0Whole a0Left a0Of)))
 |_,_=> .fail
theorem stepperCounterUpVc (a0Whole:Int) (a0Left:Int) (a0Of:Int):fnX X0 noAnn Tryz.f186 [.agg [.raw (.int .i64 a0Whole), .raw (.int .i64 a0Left), .raw (.int .i64 a0Of)]] [] (ends [] ⟨some (.raw (.int .i64 (stepperCounterUp a0Whole a0Left a0Of))),[]⟩)=((match (decide (a0Left>(0:Int))) with|true=>((stepperCounterUp a0Whole a0Left a0Of=(IntKind.i64.wrap (a0Whole+(1:Int))))/\ True)/\ True|false=>((stepperCounterUp a0Whole a0Left a0Of=(a0Whole))/\ True)/\ True)):=by kernel_rfl
theorem stepperCounterUpOk:ConOk R Tryz.prog 186 stepperCounterUpCon:=con_of_fn R X0 (good (X0) rfl (TabOk.con R X0Ok)) mixed Tryz.call186 Tryz.func186 stepperCounterUpCon (by
 intro args cs K h
 unfold stepperCounterUpCon at h
 split at h
 ·rename_i a0Whole a0Left a0Of
  refine ⟨noAnn,_,fun v S hv=>⟨_,h,hv⟩, ?_⟩
  rw [stepperCounterUpVc a0Whole a0Left a0Of]
  unfold stepperCounterUp
  cases (decide (a0Left>(0:Int)))
  ·
   exact ⟨⟨rfl,trivial⟩,trivial⟩
  ·
   exact ⟨⟨rfl,trivial⟩,trivial⟩
 ·exact h.elim)
def prioOverlaps (a0:Sub):Bool:=(a0.Bit==(1:Int))
noncomputable def prioOverlapsCon:Con T O:=fun args cs=>match args,cs with
 |[.agg [.raw (.int .i64 a0_0), .raw (.int .i64 a0_1), .raw (.int .i64 a0_2), .raw (.int .i64 a0_3), .raw (.int .i64 a0_4)]],[]=>retv (.raw (.bool (prioOverlaps (⟨a0_0,a0_1,a0_2,a0_3,a0_4⟩:Sub))))
 |_,_=> .fail
theorem prioOverlapsVc (a0:Sub):fnX X0 noAnn Tryz.f120 [.agg [.raw (.int .i64 a0.Index), .raw (.int .i64 a0.Release), .raw (.int .i64 a0.Deadline), .raw (.int .i64 a0.Bit), .raw (.int .i64 a0.Group)]] [] (ends [] ⟨some (.raw (.bool (prioOverlaps a0))),[]⟩)=(((prioOverlaps a0=(a0.Bit==(1:Int)))/\ True)/\ True):=by kernel_rfl
theorem prioOverlapsOk:ConOk R Tryz.prog 120 prioOverlapsCon:=con_of_fn R X0 (good (X0) rfl (TabOk.con R X0Ok)) mixed Tryz.call120 Tryz.func120 prioOverlapsCon (by
 intro args cs K h
 unfold prioOverlapsCon at h
 split at h
 ·rename_i a0_0 a0_1 a0_2 a0_3 a0_4
  refine ⟨noAnn,_,fun v S hv=>⟨_,h,hv⟩, ?_⟩
  rw [prioOverlapsVc (⟨a0_0,a0_1,a0_2,a0_3,a0_4⟩:Sub)]
  unfold prioOverlaps
  exact ⟨⟨rfl,trivial⟩,trivial⟩
 ·exact h.elim)
def ref04Up (a0:Int) (a1:Int):Int:=(match (a1 !=(0:Int)) with|true=>(match (decide (IntKind.i64.wrap (IntKind.i64.wrap (a0.tdiv a1)*a1)<a0)) with|true=>(IntKind.i64.wrap (IntKind.i64.wrap (a0.tdiv a1)+(1:Int)))|false=>(IntKind.i64.wrap (a0.tdiv a1)))|false=>0)
def ref04UpPre (a0:Int) (a1:Int):Bool:=(match (a1 !=(0:Int)) with|true=>(match (decide (IntKind.i64.wrap (IntKind.i64.wrap (a0.tdiv a1)*a1)<a0)) with|true=>true|false=>true)|false=>false)
noncomputable def ref04UpCon:Con T O:=fun args cs=>match args,cs with
 |[.raw (.int .i64 a0), .raw (.int .i64 a1)],[]=>chk (ref04UpPre a0 a1) (retv (.raw (.int .i64 (ref04Up a0 a1))))
 |_,_=> .fail
theorem ref04UpVc (a0:Int) (a1:Int):fnX X0 noAnn Tryz.f187 [.raw (.int .i64 a0), .raw (.int .i64 a1)] [] (ends [] ⟨some (.raw (.int .i64 (ref04Up a0 a1))),[]⟩)=((match (a1 !=(0:Int)) with|true=>(match (decide (IntKind.i64.wrap (IntKind.i64.wrap (a0.tdiv a1)*a1)<a0)) with|true=>((ref04Up a0 a1=(IntKind.i64.wrap (IntKind.i64.wrap (a0.tdiv a1)+(1:Int))))/\ True)/\ True|false=>((ref04Up a0 a1=(IntKind.i64.wrap (a0.tdiv a1)))/\ True)/\ True)|false=>False)):=by kernel_rfl
theorem ref04UpOk:ConOk R Tryz.prog 187 ref04UpCon:=con_of_fn R X0 (good (X0) rfl (TabOk.con R X0Ok)) mixed Tryz.call187 Tryz.func187 ref04UpCon (by
 intro args cs K h
 unfold ref04UpCon at h
 split at h
 ·rename_i a0 a1
  rw [Tree.holds_chk] at h
  obtain ⟨hp,h⟩:=h
  refine ⟨noAnn,_,fun v S hv=>⟨_,h,hv⟩, ?_⟩
  rw [ref04UpVc a0 a1]
  revert hp
  unfold ref04Up ref04UpPre
  cases (a1 !=(0:Int))
  ·
   intro hp;cases hp
  ·
   cases (decide (IntKind.i64.wrap (IntKind.i64.wrap (a0.tdiv a1)*a1)<a0))
   ·
    intro _;exact ⟨⟨rfl,trivial⟩,trivial⟩
   ·
    intro _;exact ⟨⟨rfl,trivial⟩,trivial⟩
 ·exact h.elim)
def placeCore (a0:Int) (a1:Int):Bool:=(match (decide (a0>=(-1:Int))) with|true=>(decide (a0<a1))|false=>(false))
noncomputable def placeCoreCon:Con T O:=fun args cs=>match args,cs with
 |[.raw (.int .i64 a0), .raw (.int .i64 a1)],[]=>retv (.raw (.bool (placeCore a0 a1)))
 |_,_=> .fail
theorem placeCoreVc (a0:Int) (a1:Int):fnX X0 noAnn Tryz.f128 [.raw (.int .i64 a0), .raw (.int .i64 a1)] [] (ends [] ⟨some (.raw (.bool (placeCore a0 a1))),[]⟩)=((match (decide (a0>=(-1:Int))) with|true=>((placeCore a0 a1=(decide (a0<a1)))/\ True)/\ True|false=>((placeCore a0 a1=(false))/\ True)/\ True)):=by kernel_rfl
theorem placeCoreOk:ConOk R Tryz.prog 128 placeCoreCon:=con_of_fn R X0 (good (X0) rfl (TabOk.con R X0Ok)) mixed Tryz.call128 Tryz.func128 placeCoreCon (by
 intro args cs K h
 unfold placeCoreCon at h
 split at h
 ·rename_i a0 a1
  refine ⟨noAnn,_,fun v S hv=>⟨_,h,hv⟩, ?_⟩
  rw [placeCoreVc a0 a1]
  unfold placeCore
  cases (decide (a0>=(-1:Int)))
  ·
   exact ⟨⟨rfl,trivial⟩,trivial⟩
  ·
   exact ⟨⟨rfl,trivial⟩,trivial⟩
 ·exact h.elim)
def law19HalfC0:Int:=((1:Int))
def law19HalfC1:Int:=((2:Int))
noncomputable def law19HalfCon:Con T O:=fun args cs=>match args,cs with
 |[],[]=>retv (.agg [.raw (.int .i64 (law19HalfC0)), .raw (.int .i64 (law19HalfC1))])
 |_,_=> .fail
theorem law19HalfVc:fnX X0 noAnn Tryz.f34 [] [] (ends [] ⟨some (.agg [.raw (.int .i64 (law19HalfC0)), .raw (.int .i64 (law19HalfC1))]),[]⟩)=(((((law19HalfC0=((1:Int)))/\ ((law19HalfC1=((2:Int)))/\ True)))/\ True)/\ True):=by kernel_rfl
theorem law19HalfOk:ConOk R Tryz.prog 34 law19HalfCon:=con_of_fn R X0 (good (X0) rfl (TabOk.con R X0Ok)) mixed Tryz.call34 Tryz.func34 law19HalfCon (by
 intro args cs K h
 unfold law19HalfCon at h
 split at h
 ·
  refine ⟨noAnn,_,fun v S hv=>⟨_,h,hv⟩, ?_⟩
  rw [law19HalfVc]
  unfold law19HalfC0 law19HalfC1
  exact ⟨⟨⟨rfl,⟨rfl,trivial⟩⟩,trivial⟩,trivial⟩
 ·exact h.elim)
noncomputable def tab1:Tab T O:=(159,nanLCon)::(92,nanICon)::(141,calendarRightCon)::(143,calendarNumberCon)::(65,windowCheckCon)::(69,ref04CheckCon)::(106,taskSlotCon)::(186,stepperCounterUpCon)::(120,prioOverlapsCon)::(187,ref04UpCon)::(128,placeCoreCon)::(34,law19HalfCon)::tab0
theorem tabOk1:TabOk R Tryz.prog tab1:=TabOk.cons R nanLOk<|TabOk.cons R nanIOk<|TabOk.cons R calendarRightOk<|TabOk.cons R calendarNumberOk<|TabOk.cons R windowCheckOk<|TabOk.cons R ref04CheckOk<|TabOk.cons R taskSlotOk<|TabOk.cons R stepperCounterUpOk<|TabOk.cons R prioOverlapsOk<|TabOk.cons R ref04UpOk<|TabOk.cons R placeCoreOk<|TabOk.cons R law19HalfOk<|tabOk0
noncomputable def X1:Ctx T O:= { X0 with con:=conOf tab1 }
theorem X1Ok:TabOk R X1.P tab1:=tabOk1
end Go.Proofs.YtlfjbnflfdnoaaaGreat
namespace Go.Proofs.YtlfjbnflfdnoaaaGreat
open Go.Sx Go.Proofs Classical
def orL:List Int->Int
 |[]=>0
 |a::l=>bif a !=0 then a else orL l
def cmpL (a0:Int) (a1:Int):Int:=(match (nanL a0) with|true=>(match (nanL a1) with|true=>((0:Int))|false=>((-1:Int)))|false=>(match (nanL a1) with|true=>((1:Int))|false=>(match (decide (a0<a1)) with|true=>((-1:Int))|false=>(match (decide (a0>a1)) with|true=>((1:Int))|false=>((0:Int))))))
noncomputable def cmpLCon:Con T O:=fun args cs=>match args,cs with
 |[.raw (.int .i64 a0), .raw (.int .i64 a1)],[]=>retv (.raw (.int .i64 (cmpL a0 a1)))
 |_,_=> .fail
theorem cmpLVc (a0:Int) (a1:Int):fnX X1 noAnn Tryz.f121 [.raw (.int .i64 a0), .raw (.int .i64 a1)] [] (ends [] ⟨some (.raw (.int .i64 (cmpL a0 a1))),[]⟩)=((match (nanL a0) with|true=>(match (nanL a1) with|true=>((cmpL a0 a1=((0:Int)))/\ True)/\ True|false=>((cmpL a0 a1=((-1:Int)))/\ True)/\ True)|false=>(match (nanL a1) with|true=>((cmpL a0 a1=((1:Int)))/\ True)/\ True|false=>(match (decide (a0<a1)) with|true=>((cmpL a0 a1=((-1:Int)))/\ True)/\ True|false=>(match (decide (a0>a1)) with|true=>((cmpL a0 a1=((1:Int)))/\ True)/\ True|false=>((cmpL a0 a1=((0:Int)))/\ True)/\ True))))):=by kernel_rfl
theorem cmpLOk:ConOk R Tryz.prog 121 cmpLCon:=con_of_fn R X1 (good (X1) rfl (TabOk.con R X1Ok)) mixed Tryz.call121 Tryz.func121 cmpLCon (by
 intro args cs K h
 unfold cmpLCon at h
 split at h
 ·rename_i a0 a1
  refine ⟨noAnn,_,fun v S hv=>⟨_,h,hv⟩, ?_⟩
  rw [cmpLVc a0 a1]
  unfold cmpL
  cases (nanL a0)
  ·
   cases (nanL a1)
   ·
    cases (decide (a0<a1))
    ·
     cases (decide (a0>a1))
     ·
      exact ⟨⟨rfl,trivial⟩,trivial⟩
     ·
      exact ⟨⟨rfl,trivial⟩,trivial⟩
    ·
     exact ⟨⟨rfl,trivial⟩,trivial⟩
   ·
    exact ⟨⟨rfl,trivial⟩,trivial⟩
  ·
   cases (nanL a1)
   ·
    exact ⟨⟨rfl,trivial⟩,trivial⟩
   ·
    exact ⟨⟨rfl,trivial⟩,trivial⟩
 ·exact h.elim)
def cmpI (a0:Int) (a1:Int):Int:=(match (nanI a0) with|true=>(match (nanI a1) with|true=>((0:Int))|false=>((-1:Int)))|false=>(match (nanI a1) with|true=>((1:Int))|false=>(match (decide (a0<a1)) with|true=>((-1:Int))|false=>(match (decide (a0>a1)) with|true=>((1:Int))|false=>((0:Int))))))
noncomputable def cmpICon:Con T O:=fun args cs=>match args,cs with
 |[.raw (.int .i64 a0), .raw (.int .i64 a1)],[]=>retv (.raw (.int .i64 (cmpI a0 a1)))
 |_,_=> .fail
theorem cmpIVc (a0:Int) (a1:Int):fnX X1 noAnn Tryz.f50 [.raw (.int .i64 a0), .raw (.int .i64 a1)] [] (ends [] ⟨some (.raw (.int .i64 (cmpI a0 a1))),[]⟩)=((match (nanI a0) with|true=>(match (nanI a1) with|true=>((cmpI a0 a1=((0:Int)))/\ True)/\ True|false=>((cmpI a0 a1=((-1:Int)))/\ True)/\ True)|false=>(match (nanI a1) with|true=>((cmpI a0 a1=((1:Int)))/\ True)/\ True|false=>(match (decide (a0<a1)) with|true=>((cmpI a0 a1=((-1:Int)))/\ True)/\ True|false=>(match (decide (a0>a1)) with|true=>((cmpI a0 a1=((1:Int)))/\ True)/\ True|false=>((cmpI a0 a1=((0:Int)))/\ True)/\ True))))):=by kernel_rfl
theorem cmpIOk:ConOk R Tryz.prog 50 cmpICon:=con_of_fn R X1 (good (X1) rfl (TabOk.con R X1Ok)) mixed Tryz.call50 Tryz.func50 cmpICon (by
 intro args cs K h
 unfold cmpICon at h
 split at h
 ·rename_i a0 a1
  refine ⟨noAnn,_,fun v S hv=>⟨_,h,hv⟩, ?_⟩
  rw [cmpIVc a0 a1]
  unfold cmpI
  cases (nanI a0)
  ·
   cases (nanI a1)
   ·
    cases (decide (a0<a1))
    ·
     cases (decide (a0>a1))
     ·
      exact ⟨⟨rfl,trivial⟩,trivial⟩
     ·
      exact ⟨⟨rfl,trivial⟩,trivial⟩
    ·
     exact ⟨⟨rfl,trivial⟩,trivial⟩
   ·
    exact ⟨⟨rfl,trivial⟩,trivial⟩
  ·
   cases (nanI a1)
   ·
    exact ⟨⟨rfl,trivial⟩,trivial⟩
   ·
    exact ⟨⟨rfl,trivial⟩,trivial⟩
 ·exact h.elim)
def lessI (a0:Int) (a1:Int):Bool:=(match (nanI a0) with|true=>(match (!nanI a1) with|true=>(true)|false=>(decide (a0<a1)))|false=>(decide (a0<a1)))
noncomputable def lessICon:Con T O:=fun args cs=>match args,cs with
 |[.raw (.int .i64 a0), .raw (.int .i64 a1)],[]=>retv (.raw (.bool (lessI a0 a1)))
 |_,_=> .fail
theorem lessIVc (a0:Int) (a1:Int):fnX X1 noAnn Tryz.f182 [.raw (.int .i64 a0), .raw (.int .i64 a1)] [] (ends [] ⟨some (.raw (.bool (lessI a0 a1))),[]⟩)=((match (nanI a0) with|true=>(match (!nanI a1) with|true=>((lessI a0 a1=(true))/\ True)/\ True|false=>((lessI a0 a1=(decide (a0<a1)))/\ True)/\ True)|false=>((lessI a0 a1=(decide (a0<a1)))/\ True)/\ True)):=by kernel_rfl
theorem lessIOk:ConOk R Tryz.prog 182 lessICon:=con_of_fn R X1 (good (X1) rfl (TabOk.con R X1Ok)) mixed Tryz.call182 Tryz.func182 lessICon (by
 intro args cs K h
 unfold lessICon at h
 split at h
 ·rename_i a0 a1
  refine ⟨noAnn,_,fun v S hv=>⟨_,h,hv⟩, ?_⟩
  rw [lessIVc a0 a1]
  unfold lessI
  cases (nanI a0)
  ·
   exact ⟨⟨rfl,trivial⟩,trivial⟩
  ·
   cases (!nanI a1)
   ·
    exact ⟨⟨rfl,trivial⟩,trivial⟩
   ·
    exact ⟨⟨rfl,trivial⟩,trivial⟩
 ·exact h.elim)
def windowHeavy (a0E:Int) (a0P:Int):Bool:=(match (windowCheck a0E a0P) with|true=>(decide (a0E>=IntKind.i64.wrap (a0P-a0E)))|false=>(false))
noncomputable def windowHeavyCon:Con T O:=fun args cs=>match args,cs with
 |[.agg [.raw (.int .i64 a0E), .raw (.int .i64 a0P)]],[]=>retv (.raw (.bool (windowHeavy a0E a0P)))
 |_,_=> .fail
theorem windowHeavyVc (a0E:Int) (a0P:Int):fnX X1 noAnn Tryz.f151 [.agg [.raw (.int .i64 a0E), .raw (.int .i64 a0P)]] [] (ends [] ⟨some (.raw (.bool (windowHeavy a0E a0P))),[]⟩)=((match (windowCheck a0E a0P) with|true=>((windowHeavy a0E a0P=(decide (a0E>=IntKind.i64.wrap (a0P-a0E))))/\ True)/\ True|false=>((windowHeavy a0E a0P=(false))/\ True)/\ True)):=by kernel_rfl
theorem windowHeavyOk:ConOk R Tryz.prog 151 windowHeavyCon:=con_of_fn R X1 (good (X1) rfl (TabOk.con R X1Ok)) mixed Tryz.call151 Tryz.func151 windowHeavyCon (by
 intro args cs K h
 unfold windowHeavyCon at h
 split at h
 ·rename_i a0E a0P
  refine ⟨noAnn,_,fun v S hv=>⟨_,h,hv⟩, ?_⟩
  rw [windowHeavyVc a0E a0P]
  unfold windowHeavy
  cases (windowCheck a0E a0P)
  ·
   exact ⟨⟨rfl,trivial⟩,trivial⟩
  ·
   exact ⟨⟨rfl,trivial⟩,trivial⟩
 ·exact h.elim)
def ref04Heavy (a0E:Int) (a0P:Int):Bool:=(match (ref04Check a0E a0P) with|true=>(decide (IntKind.i64.wrap ((2:Int)*a0E)>=a0P))|false=>(false))
noncomputable def ref04HeavyCon:Con T O:=fun args cs=>match args,cs with
 |[.agg [.raw (.int .i64 a0E), .raw (.int .i64 a0P)]],[]=>retv (.raw (.bool (ref04Heavy a0E a0P)))
 |_,_=> .fail
theorem ref04HeavyVc (a0E:Int) (a0P:Int):fnX X1 noAnn Tryz.f160 [.agg [.raw (.int .i64 a0E), .raw (.int .i64 a0P)]] [] (ends [] ⟨some (.raw (.bool (ref04Heavy a0E a0P))),[]⟩)=((match (ref04Check a0E a0P) with|true=>((ref04Heavy a0E a0P=(decide (IntKind.i64.wrap ((2:Int)*a0E)>=a0P)))/\ True)/\ True|false=>((ref04Heavy a0E a0P=(false))/\ True)/\ True)):=by kernel_rfl
theorem ref04HeavyOk:ConOk R Tryz.prog 160 ref04HeavyCon:=con_of_fn R X1 (good (X1) rfl (TabOk.con R X1Ok)) mixed Tryz.call160 Tryz.func160 ref04HeavyCon (by
 intro args cs K h
 unfold ref04HeavyCon at h
 split at h
 ·rename_i a0E a0P
  refine ⟨noAnn,_,fun v S hv=>⟨_,h,hv⟩, ?_⟩
  rw [ref04HeavyVc a0E a0P]
  unfold ref04Heavy
  cases (ref04Check a0E a0P)
  ·
   exact ⟨⟨rfl,trivial⟩,trivial⟩
  ·
   exact ⟨⟨rfl,trivial⟩,trivial⟩
 ·exact h.elim)
def ref04Number (a0E:Int) (a0P:Int) (a1:Int):Bool:=(match (ref04Check a0E a0P) with|true=>(match (decide (a1>=(1:Int))) with|true=>(decide (a1<=(1099511627776:Int)))|false=>(false))|false=>(false))
noncomputable def ref04NumberCon:Con T O:=fun args cs=>match args,cs with
 |[.agg [.raw (.int .i64 a0E), .raw (.int .i64 a0P)], .raw (.int .i64 a1)],[]=>retv (.raw (.bool (ref04Number a0E a0P a1)))
 |_,_=> .fail
theorem ref04NumberVc (a0E:Int) (a0P:Int) (a1:Int):fnX X1 noAnn Tryz.f153 [.agg [.raw (.int .i64 a0E), .raw (.int .i64 a0P)], .raw (.int .i64 a1)] [] (ends [] ⟨some (.raw (.bool (ref04Number a0E a0P a1))),[]⟩)=((match (ref04Check a0E a0P) with|true=>(match (decide (a1>=(1:Int))) with|true=>((ref04Number a0E a0P a1=(decide (a1<=(1099511627776:Int))))/\ True)/\ True|false=>((ref04Number a0E a0P a1=(false))/\ True)/\ True)|false=>((ref04Number a0E a0P a1=(false))/\ True)/\ True)):=by kernel_rfl
theorem ref04NumberOk:ConOk R Tryz.prog 153 ref04NumberCon:=con_of_fn R X1 (good (X1) rfl (TabOk.con R X1Ok)) mixed Tryz.call153 Tryz.func153 ref04NumberCon (by
 intro args cs K h
 unfold ref04NumberCon at h
 split at h
 ·rename_i a0E a0P a1
  refine ⟨noAnn,_,fun v S hv=>⟨_,h,hv⟩, ?_⟩
  rw [ref04NumberVc a0E a0P a1]
  unfold ref04Number
  cases (ref04Check a0E a0P)
  ·
   exact ⟨⟨rfl,trivial⟩,trivial⟩
  ·
   cases (decide (a1>=(1:Int)))
   ·
    exact ⟨⟨rfl,trivial⟩,trivial⟩
   ·
    exact ⟨⟨rfl,trivial⟩,trivial⟩
 ·exact h.elim)
def ref09Right (a0E:Int) (a0P:Int) (a1:Int) (a2:Int):Bool:=(match (ref04Check a0E a0P) with|true=>(match (decide (a1>=(0:Int))) with|true=>(match (decide (a1<=(1099511627776:Int))) with|true=>(match (decide (a2>=(0:Int))) with|true=>(decide (a2<=(1099511627776:Int)))|false=>(false))|false=>(false))|false=>(false))|false=>(false))
noncomputable def ref09RightCon:Con T O:=fun args cs=>match args,cs with
 |[.agg [.raw (.int .i64 a0E), .raw (.int .i64 a0P)], .raw (.int .i64 a1), .raw (.int .i64 a2)],[]=>retv (.raw (.bool (ref09Right a0E a0P a1 a2)))
 |_,_=> .fail
theorem ref09RightVc (a0E:Int) (a0P:Int) (a1:Int) (a2:Int):fnX X1 noAnn Tryz.f113 [.agg [.raw (.int .i64 a0E), .raw (.int .i64 a0P)], .raw (.int .i64 a1), .raw (.int .i64 a2)] [] (ends [] ⟨some (.raw (.bool (ref09Right a0E a0P a1 a2))),[]⟩)=((match (ref04Check a0E a0P) with|true=>(match (decide (a1>=(0:Int))) with|true=>(match (decide (a1<=(1099511627776:Int))) with|true=>(match (decide (a2>=(0:Int))) with|true=>((ref09Right a0E a0P a1 a2=(decide (a2<=(1099511627776:Int))))/\ True)/\ True|false=>((ref09Right a0E a0P a1 a2=(false))/\ True)/\ True)|false=>((ref09Right a0E a0P a1 a2=(false))/\ True)/\ True)|false=>((ref09Right a0E a0P a1 a2=(false))/\ True)/\ True)|false=>((ref09Right a0E a0P a1 a2=(false))/\ True)/\ True)):=by kernel_rfl
theorem ref09RightOk:ConOk R Tryz.prog 113 ref09RightCon:=con_of_fn R X1 (good (X1) rfl (TabOk.con R X1Ok)) mixed Tryz.call113 Tryz.func113 ref09RightCon (by
 intro args cs K h
 unfold ref09RightCon at h
 split at h
 ·rename_i a0E a0P a1 a2
  refine ⟨noAnn,_,fun v S hv=>⟨_,h,hv⟩, ?_⟩
  rw [ref09RightVc a0E a0P a1 a2]
  unfold ref09Right
  cases (ref04Check a0E a0P)
  ·
   exact ⟨⟨rfl,trivial⟩,trivial⟩
  ·
   cases (decide (a1>=(0:Int)))
   ·
    exact ⟨⟨rfl,trivial⟩,trivial⟩
   ·
    cases (decide (a1<=(1099511627776:Int)))
    ·
     exact ⟨⟨rfl,trivial⟩,trivial⟩
    ·
     cases (decide (a2>=(0:Int)))
     ·
      exact ⟨⟨rfl,trivial⟩,trivial⟩
     ·
      exact ⟨⟨rfl,trivial⟩,trivial⟩
 ·exact h.elim)
noncomputable def cmpOrA (L:List Int):Ann T O:=oneLoop 3 { σ:=Nat,st:=fun S x=>(S.keep [3,6,7]).int 8 x,inv:=fun _ x=>x<=L.length/\ orL L=orL (L.drop x),m:=fun x=>L.length-x }
def cmpOrText (L:List Int):Prop:=((∃x:Nat,(((x<=L.length)/\ (orL L=orL (List.drop x L)))/\ ((((0:Int)=(0:Int))/\ (True/\ (((↑L.length:Int)=(↑L.length:Int))/\ (((↑x:Int)=(0:Int))/\ True))))/\ ((L=L)/\ True))))/\ (∀x:Nat,(((x<=L.length)/\ (orL L=orL (List.drop x L)))->(match (decide ((↑x:Int)<(↑L.length:Int))) with|true=>(match (inb (↑x:Int) L.length) with|true=>(match (inb (↑x:Int) L.length) with|true=>(match (at' (0:Int) L (↑x:Int) !=(0:Int)) with|true=>(((orL L=at' (0:Int) L (↑x:Int))/\ True)/\ ((L=L)/\ True))|false=>(∃x':Nat,(((x'<=L.length)/\ (orL L=orL (List.drop x' L)))/\ ((L.length-x'<L.length-x)/\ ((((0:Int)=(0:Int))/\ (True/\ (((↑L.length:Int)=(↑L.length:Int))/\ (((↑x':Int)=IntKind.i64.wrap ((↑x:Int)+(1:Int)))/\ True))))/\ ((L=L)/\ True))))))|false=>False)|false=>False)|false=>(((orL L=(0:Int))/\ True)/\ ((L=L)/\ True))))))
theorem cmpOrVc (L:List Int):fnX X1 ((cmpOrA L)) Tryz.f122 [.own 0] [.vec 0 L 3] (ends [.vec 0 L 3] ⟨some (.raw (.int .i64 (orL L))),[(0,some (.vec 0 L 3))]⟩)=cmpOrText L:=by kernel_rfl
theorem cmpOrHolds (L:List Int) (hp:L.length<=140737488355328):cmpOrText L:=by
 unfold cmpOrText
 refine ⟨⟨0,⟨by omega,rfl⟩,by repeat' first|trivial|rfl|apply And.intro⟩, ?_⟩
 rintro x ⟨hx,hs⟩
 by_cases h:x<L.length
 ·rw [dec_lt h,inb_nat h,at_nat h]
  rw [drop_at h] at hs
  simp only [orL] at hs
  have hw:=wrap_succ h hp
  cases hq:L[x] !=0
  ·rw [hq] at hs
   exact ⟨x+1,⟨by omega,by simpa using hs⟩,by omega,by repeat' first|exact hw.symm|trivial|rfl|apply And.intro⟩
  ·rw [hq] at hs
   exact ⟨⟨by simpa using hs,trivial⟩,rfl,trivial⟩
 ·rw [dec_ge (by omega)]
  rw [List.drop_of_length_le (by omega)] at hs
  exact ⟨⟨hs,trivial⟩,rfl,trivial⟩
noncomputable def cmpOrCon:Con T O:=fun args cs=>match args,cs with
 |[.own 0],[.vec 0 L 3]=>chk (decide (L.length<=140737488355328)) (.ret ⟨some (.raw (.int .i64 (orL L))),[(0,some (.vec 0 L 3))]⟩)
 |_,_=> .fail
theorem cmpOrOk:ConOk R Tryz.prog 122 cmpOrCon:=con_of_fn R (X1) (good (X1) rfl (TabOk.con R X1Ok)) mixed Tryz.call122 Tryz.func122 cmpOrCon (by
 intro args cs K h
 unfold cmpOrCon at h
 split at h
 ·rename_i L
  rw [Tree.holds_chk] at h
  obtain ⟨hp,h⟩:=h
  refine ⟨(cmpOrA L),_,fun v S hv=>⟨_,h,hv⟩, ?_⟩
  rw [cmpOrVc L]
  exact cmpOrHolds L (of_decide_eq_true hp)
 ·exact h.elim)
noncomputable def tab2:Tab T O:=(121,cmpLCon)::(50,cmpICon)::(182,lessICon)::(151,windowHeavyCon)::(160,ref04HeavyCon)::(153,ref04NumberCon)::(113,ref09RightCon)::(122,cmpOrCon)::tab1
theorem tabOk2:TabOk R Tryz.prog tab2:=TabOk.cons R cmpLOk<|TabOk.cons R cmpIOk<|TabOk.cons R lessIOk<|TabOk.cons R windowHeavyOk<|TabOk.cons R ref04HeavyOk<|TabOk.cons R ref04NumberOk<|TabOk.cons R ref09RightOk<|TabOk.cons R cmpOrOk<|tabOk1
noncomputable def X2:Ctx T O:= { X0 with con:=conOf tab2 }
theorem X2Ok:TabOk R X2.P tab2:=tabOk2
end Go.Proofs.YtlfjbnflfdnoaaaGreat
namespace Go.Proofs.YtlfjbnflfdnoaaaGreat
open Go.Sx Go.Proofs Classical
def calendarLess (a0:Ev) (a1:Ev):Bool:=(decide (orL [cmpL a0.At a1.At,cmpI a0.Kind a1.Kind,cmpI a0.ID a1.ID]<(0:Int)))
noncomputable def calendarLessCon:Con T O:=fun args cs=>match args,cs with
 |[.agg [.raw (.int .i64 a0_0), .raw (.int .i64 a0_1), .raw (.int .i64 a0_2)], .agg [.raw (.int .i64 a1_0), .raw (.int .i64 a1_1), .raw (.int .i64 a1_2)]],[]=>retv (.raw (.bool (calendarLess (⟨a0_0,a0_1,a0_2⟩:Ev) (⟨a1_0,a1_1,a1_2⟩:Ev))))
 |_,_=> .fail
theorem calendarLessVc (a0:Ev) (a1:Ev):fnX X2 noAnn Tryz.f83 [.agg [.raw (.int .i64 a0.At), .raw (.int .i64 a0.ID), .raw (.int .i64 a0.Kind)], .agg [.raw (.int .i64 a1.At), .raw (.int .i64 a1.ID), .raw (.int .i64 a1.Kind)]] [] (ends [] ⟨some (.raw (.bool (calendarLess a0 a1))),[]⟩)=(((calendarLess a0 a1=(decide (orL [cmpL a0.At a1.At,cmpI a0.Kind a1.Kind,cmpI a0.ID a1.ID]<(0:Int))))/\ True)/\ True):=by kernel_rfl
theorem calendarLessOk:ConOk R Tryz.prog 83 calendarLessCon:=con_of_fn R X2 (good (X2) rfl (TabOk.con R X2Ok)) mixed Tryz.call83 Tryz.func83 calendarLessCon (by
 intro args cs K h
 unfold calendarLessCon at h
 split at h
 ·rename_i a0_0 a0_1 a0_2 a1_0 a1_1 a1_2
  refine ⟨noAnn,_,fun v S hv=>⟨_,h,hv⟩, ?_⟩
  rw [calendarLessVc (⟨a0_0,a0_1,a0_2⟩:Ev) (⟨a1_0,a1_1,a1_2⟩:Ev)]
  unfold calendarLess
  exact ⟨⟨rfl,trivial⟩,trivial⟩
 ·exact h.elim)
def prioOrder (a0:Entry) (a1:Entry):Int:=(match (prioOverlaps (Sub.mk a0.SubIndex a0.SubRelease a0.SubDeadline a0.SubBit a0.SubGroup)) with|true=>(match (prioOverlaps (Sub.mk a1.SubIndex a1.SubRelease a1.SubDeadline a1.SubBit a1.SubGroup)) with|true=>(orL [cmpL a0.SubDeadline a1.SubDeadline,cmpI (1:Int) (1:Int),cmpL a1.SubGroup a0.SubGroup,cmpI a0.ID a1.ID])|false=>(orL [cmpL a0.SubDeadline a1.SubDeadline,cmpI (0:Int) (1:Int),(0:Int),cmpI a0.ID a1.ID]))|false=>(match (prioOverlaps (Sub.mk a1.SubIndex a1.SubRelease a1.SubDeadline a1.SubBit a1.SubGroup)) with|true=>(orL [cmpL a0.SubDeadline a1.SubDeadline,cmpI (1:Int) (0:Int),(0:Int),cmpI a0.ID a1.ID])|false=>(orL [cmpL a0.SubDeadline a1.SubDeadline,cmpI (0:Int) (0:Int),(0:Int),cmpI a0.ID a1.ID])))
noncomputable def prioOrderCon:Con T O:=fun args cs=>match args,cs with
 |[.agg [.raw (.int .i64 a0_0), .raw (.int .i64 a0_1), .raw (.int .i64 a0_2), .raw (.int .i64 a0_3), .raw (.int .i64 a0_4), .raw (.int .i64 a0_5)], .agg [.raw (.int .i64 a1_0), .raw (.int .i64 a1_1), .raw (.int .i64 a1_2), .raw (.int .i64 a1_3), .raw (.int .i64 a1_4), .raw (.int .i64 a1_5)]],[]=>retv (.raw (.int .i64 (prioOrder (⟨a0_0,a0_1,a0_2,a0_3,a0_4,a0_5⟩:Entry) (⟨a1_0,a1_1,a1_2,a1_3,a1_4,a1_5⟩:Entry))))
 |_,_=> .fail
theorem prioOrderVc (a0:Entry) (a1:Entry):fnX X2 noAnn Tryz.f81 [.agg [.raw (.int .i64 a0.ID), .raw (.int .i64 a0.SubIndex), .raw (.int .i64 a0.SubRelease), .raw (.int .i64 a0.SubDeadline), .raw (.int .i64 a0.SubBit), .raw (.int .i64 a0.SubGroup)], .agg [.raw (.int .i64 a1.ID), .raw (.int .i64 a1.SubIndex), .raw (.int .i64 a1.SubRelease), .raw (.int .i64 a1.SubDeadline), .raw (.int .i64 a1.SubBit), .raw (.int .i64 a1.SubGroup)]] [] (ends [] ⟨some (.raw (.int .i64 (prioOrder a0 a1))),[]⟩)=((match (prioOverlaps (Sub.mk a0.SubIndex a0.SubRelease a0.SubDeadline a0.SubBit a0.SubGroup)) with|true=>(match (prioOverlaps (Sub.mk a1.SubIndex a1.SubRelease a1.SubDeadline a1.SubBit a1.SubGroup)) with|true=>((prioOrder a0 a1=(orL [cmpL a0.SubDeadline a1.SubDeadline,cmpI (1:Int) (1:Int),cmpL a1.SubGroup a0.SubGroup,cmpI a0.ID a1.ID]))/\ True)/\ True|false=>((prioOrder a0 a1=(orL [cmpL a0.SubDeadline a1.SubDeadline,cmpI (0:Int) (1:Int),(0:Int),cmpI a0.ID a1.ID]))/\ True)/\ True)|false=>(match (prioOverlaps (Sub.mk a1.SubIndex a1.SubRelease a1.SubDeadline a1.SubBit a1.SubGroup)) with|true=>((prioOrder a0 a1=(orL [cmpL a0.SubDeadline a1.SubDeadline,cmpI (1:Int) (0:Int),(0:Int),cmpI a0.ID a1.ID]))/\ True)/\ True|false=>((prioOrder a0 a1=(orL [cmpL a0.SubDeadline a1.SubDeadline,cmpI (0:Int) (0:Int),(0:Int),cmpI a0.ID a1.ID]))/\ True)/\ True))):=by kernel_rfl
theorem prioOrderOk:ConOk R Tryz.prog 81 prioOrderCon:=con_of_fn R X2 (good (X2) rfl (TabOk.con R X2Ok)) mixed Tryz.call81 Tryz.func81 prioOrderCon (by
 intro args cs K h
 unfold prioOrderCon at h
 split at h
 ·rename_i a0_0 a0_1 a0_2 a0_3 a0_4 a0_5 a1_0 a1_1 a1_2 a1_3 a1_4 a1_5
  refine ⟨noAnn,_,fun v S hv=>⟨_,h,hv⟩, ?_⟩
  rw [prioOrderVc (⟨a0_0,a0_1,a0_2,a0_3,a0_4,a0_5⟩:Entry) (⟨a1_0,a1_1,a1_2,a1_3,a1_4,a1_5⟩:Entry)]
  unfold prioOrder
  cases (prioOverlaps (Sub.mk (⟨a0_0,a0_1,a0_2,a0_3,a0_4,a0_5⟩:Entry).SubIndex (⟨a0_0,a0_1,a0_2,a0_3,a0_4,a0_5⟩:Entry).SubRelease (⟨a0_0,a0_1,a0_2,a0_3,a0_4,a0_5⟩:Entry).SubDeadline (⟨a0_0,a0_1,a0_2,a0_3,a0_4,a0_5⟩:Entry).SubBit (⟨a0_0,a0_1,a0_2,a0_3,a0_4,a0_5⟩:Entry).SubGroup))
  ·
   cases (prioOverlaps (Sub.mk (⟨a1_0,a1_1,a1_2,a1_3,a1_4,a1_5⟩:Entry).SubIndex (⟨a1_0,a1_1,a1_2,a1_3,a1_4,a1_5⟩:Entry).SubRelease (⟨a1_0,a1_1,a1_2,a1_3,a1_4,a1_5⟩:Entry).SubDeadline (⟨a1_0,a1_1,a1_2,a1_3,a1_4,a1_5⟩:Entry).SubBit (⟨a1_0,a1_1,a1_2,a1_3,a1_4,a1_5⟩:Entry).SubGroup))
   ·
    exact ⟨⟨rfl,trivial⟩,trivial⟩
   ·
    exact ⟨⟨rfl,trivial⟩,trivial⟩
  ·
   cases (prioOverlaps (Sub.mk (⟨a1_0,a1_1,a1_2,a1_3,a1_4,a1_5⟩:Entry).SubIndex (⟨a1_0,a1_1,a1_2,a1_3,a1_4,a1_5⟩:Entry).SubRelease (⟨a1_0,a1_1,a1_2,a1_3,a1_4,a1_5⟩:Entry).SubDeadline (⟨a1_0,a1_1,a1_2,a1_3,a1_4,a1_5⟩:Entry).SubBit (⟨a1_0,a1_1,a1_2,a1_3,a1_4,a1_5⟩:Entry).SubGroup))
   ·
    exact ⟨⟨rfl,trivial⟩,trivial⟩
   ·
    exact ⟨⟨rfl,trivial⟩,trivial⟩
 ·exact h.elim)
def ref06Less (a0:Entry) (a1:Entry):Bool:=(match (a0.SubDeadline !=a1.SubDeadline) with|true=>(decide (a0.SubDeadline<a1.SubDeadline))|false=>(match ((a0.SubBit==(1:Int)) !=(a1.SubBit==(1:Int))) with|true=>(a0.SubBit==(1:Int))|false=>(match (a0.SubBit==(1:Int)) with|true=>(match (a0.SubGroup !=a1.SubGroup) with|true=>(decide (a0.SubGroup>a1.SubGroup))|false=>(decide (a0.ID<a1.ID)))|false=>(decide (a0.ID<a1.ID)))))
noncomputable def ref06LessCon:Con T O:=fun args cs=>match args,cs with
 |[.agg [.raw (.int .i64 a0_0), .raw (.int .i64 a0_1), .raw (.int .i64 a0_2), .raw (.int .i64 a0_3), .raw (.int .i64 a0_4), .raw (.int .i64 a0_5)], .agg [.raw (.int .i64 a1_0), .raw (.int .i64 a1_1), .raw (.int .i64 a1_2), .raw (.int .i64 a1_3), .raw (.int .i64 a1_4), .raw (.int .i64 a1_5)]],[]=>retv (.raw (.bool (ref06Less (⟨a0_0,a0_1,a0_2,a0_3,a0_4,a0_5⟩:Entry) (⟨a1_0,a1_1,a1_2,a1_3,a1_4,a1_5⟩:Entry))))
 |_,_=> .fail
theorem ref06LessVc (a0:Entry) (a1:Entry):fnX X2 noAnn Tryz.f150 [.agg [.raw (.int .i64 a0.ID), .raw (.int .i64 a0.SubIndex), .raw (.int .i64 a0.SubRelease), .raw (.int .i64 a0.SubDeadline), .raw (.int .i64 a0.SubBit), .raw (.int .i64 a0.SubGroup)], .agg [.raw (.int .i64 a1.ID), .raw (.int .i64 a1.SubIndex), .raw (.int .i64 a1.SubRelease), .raw (.int .i64 a1.SubDeadline), .raw (.int .i64 a1.SubBit), .raw (.int .i64 a1.SubGroup)]] [] (ends [] ⟨some (.raw (.bool (ref06Less a0 a1))),[]⟩)=((match (a0.SubDeadline !=a1.SubDeadline) with|true=>((ref06Less a0 a1=(decide (a0.SubDeadline<a1.SubDeadline)))/\ True)/\ True|false=>(match ((a0.SubBit==(1:Int)) !=(a1.SubBit==(1:Int))) with|true=>((ref06Less a0 a1=(a0.SubBit==(1:Int)))/\ True)/\ True|false=>(match (a0.SubBit==(1:Int)) with|true=>(match (a0.SubGroup !=a1.SubGroup) with|true=>((ref06Less a0 a1=(decide (a0.SubGroup>a1.SubGroup)))/\ True)/\ True|false=>((ref06Less a0 a1=(decide (a0.ID<a1.ID)))/\ True)/\ True)|false=>((ref06Less a0 a1=(decide (a0.ID<a1.ID)))/\ True)/\ True)))):=by kernel_rfl
theorem ref06LessOk:ConOk R Tryz.prog 150 ref06LessCon:=con_of_fn R X2 (good (X2) rfl (TabOk.con R X2Ok)) mixed Tryz.call150 Tryz.func150 ref06LessCon (by
 intro args cs K h
 unfold ref06LessCon at h
 split at h
 ·rename_i a0_0 a0_1 a0_2 a0_3 a0_4 a0_5 a1_0 a1_1 a1_2 a1_3 a1_4 a1_5
  refine ⟨noAnn,_,fun v S hv=>⟨_,h,hv⟩, ?_⟩
  rw [ref06LessVc (⟨a0_0,a0_1,a0_2,a0_3,a0_4,a0_5⟩:Entry) (⟨a1_0,a1_1,a1_2,a1_3,a1_4,a1_5⟩:Entry)]
  unfold ref06Less
  cases ((⟨a0_0,a0_1,a0_2,a0_3,a0_4,a0_5⟩:Entry).SubDeadline !=(⟨a1_0,a1_1,a1_2,a1_3,a1_4,a1_5⟩:Entry).SubDeadline)
  ·
   cases (((⟨a0_0,a0_1,a0_2,a0_3,a0_4,a0_5⟩:Entry).SubBit==(1:Int)) !=((⟨a1_0,a1_1,a1_2,a1_3,a1_4,a1_5⟩:Entry).SubBit==(1:Int)))
   ·
    cases ((⟨a0_0,a0_1,a0_2,a0_3,a0_4,a0_5⟩:Entry).SubBit==(1:Int))
    ·
     exact ⟨⟨rfl,trivial⟩,trivial⟩
    ·
     cases ((⟨a0_0,a0_1,a0_2,a0_3,a0_4,a0_5⟩:Entry).SubGroup !=(⟨a1_0,a1_1,a1_2,a1_3,a1_4,a1_5⟩:Entry).SubGroup)
     ·
      exact ⟨⟨rfl,trivial⟩,trivial⟩
     ·
      exact ⟨⟨rfl,trivial⟩,trivial⟩
   ·
    exact ⟨⟨rfl,trivial⟩,trivial⟩
  ·
   exact ⟨⟨rfl,trivial⟩,trivial⟩
 ·exact h.elim)
def ref04Release (a0E:Int) (a0P:Int) (a1:Int):Int:=(match (!ref04Number a0E a0P a1) with|true=>((0:Int))|false=>(match (a0E !=(0:Int)) with|true=>(IntKind.i64.wrap ((IntKind.i64.wrap (IntKind.i64.wrap (a1-(1:Int))*a0P)).tdiv a0E))|false=>0))
def ref04ReleasePre (a0E:Int) (a0P:Int) (a1:Int):Bool:=(match (!ref04Number a0E a0P a1) with|true=>true|false=>(match (a0E !=(0:Int)) with|true=>true|false=>false))
noncomputable def ref04ReleaseCon:Con T O:=fun args cs=>match args,cs with
 |[.agg [.raw (.int .i64 a0E), .raw (.int .i64 a0P)], .raw (.int .i64 a1)],[]=>chk (ref04ReleasePre a0E a0P a1) (retv (.raw (.int .i64 (ref04Release a0E a0P a1))))
 |_,_=> .fail
theorem ref04ReleaseVc (a0E:Int) (a0P:Int) (a1:Int):fnX X2 noAnn Tryz.f156 [.agg [.raw (.int .i64 a0E), .raw (.int .i64 a0P)], .raw (.int .i64 a1)] [] (ends [] ⟨some (.raw (.int .i64 (ref04Release a0E a0P a1))),[]⟩)=((match (!ref04Number a0E a0P a1) with|true=>((ref04Release a0E a0P a1=((0:Int)))/\ True)/\ True|false=>(match (a0E !=(0:Int)) with|true=>((ref04Release a0E a0P a1=(IntKind.i64.wrap ((IntKind.i64.wrap (IntKind.i64.wrap (a1-(1:Int))*a0P)).tdiv a0E)))/\ True)/\ True|false=>False))):=by kernel_rfl
theorem ref04ReleaseOk:ConOk R Tryz.prog 156 ref04ReleaseCon:=con_of_fn R X2 (good (X2) rfl (TabOk.con R X2Ok)) mixed Tryz.call156 Tryz.func156 ref04ReleaseCon (by
 intro args cs K h
 unfold ref04ReleaseCon at h
 split at h
 ·rename_i a0E a0P a1
  rw [Tree.holds_chk] at h
  obtain ⟨hp,h⟩:=h
  refine ⟨noAnn,_,fun v S hv=>⟨_,h,hv⟩, ?_⟩
  rw [ref04ReleaseVc a0E a0P a1]
  revert hp
  unfold ref04Release ref04ReleasePre
  cases (!ref04Number a0E a0P a1)
  ·
   cases (a0E !=(0:Int))
   ·
    intro hp;cases hp
   ·
    intro _;exact ⟨⟨rfl,trivial⟩,trivial⟩
  ·
   intro _;exact ⟨⟨rfl,trivial⟩,trivial⟩
 ·exact h.elim)
def ref04Deadline (a0E:Int) (a0P:Int) (a1:Int):Int:=(match (!ref04Number a0E a0P a1) with|true=>((0:Int))|false=>(match (ref04UpPre (IntKind.i64.wrap (a1*a0P)) a0E) with|true=>(ref04Up (IntKind.i64.wrap (a1*a0P)) a0E)|false=>0))
def ref04DeadlinePre (a0E:Int) (a0P:Int) (a1:Int):Bool:=(match (!ref04Number a0E a0P a1) with|true=>true|false=>(match (ref04UpPre (IntKind.i64.wrap (a1*a0P)) a0E) with|true=>true|false=>false))
noncomputable def ref04DeadlineCon:Con T O:=fun args cs=>match args,cs with
 |[.agg [.raw (.int .i64 a0E), .raw (.int .i64 a0P)], .raw (.int .i64 a1)],[]=>chk (ref04DeadlinePre a0E a0P a1) (retv (.raw (.int .i64 (ref04Deadline a0E a0P a1))))
 |_,_=> .fail
theorem ref04DeadlineVc (a0E:Int) (a0P:Int) (a1:Int):fnX X2 noAnn Tryz.f155 [.agg [.raw (.int .i64 a0E), .raw (.int .i64 a0P)], .raw (.int .i64 a1)] [] (ends [] ⟨some (.raw (.int .i64 (ref04Deadline a0E a0P a1))),[]⟩)=((match (!ref04Number a0E a0P a1) with|true=>((ref04Deadline a0E a0P a1=((0:Int)))/\ True)/\ True|false=>(match (ref04UpPre (IntKind.i64.wrap (a1*a0P)) a0E) with|true=>((ref04Deadline a0E a0P a1=(ref04Up (IntKind.i64.wrap (a1*a0P)) a0E))/\ True)/\ True|false=>False))):=by kernel_rfl
theorem ref04DeadlineOk:ConOk R Tryz.prog 155 ref04DeadlineCon:=con_of_fn R X2 (good (X2) rfl (TabOk.con R X2Ok)) mixed Tryz.call155 Tryz.func155 ref04DeadlineCon (by
 intro args cs K h
 unfold ref04DeadlineCon at h
 split at h
 ·rename_i a0E a0P a1
  rw [Tree.holds_chk] at h
  obtain ⟨hp,h⟩:=h
  refine ⟨noAnn,_,fun v S hv=>⟨_,h,hv⟩, ?_⟩
  rw [ref04DeadlineVc a0E a0P a1]
  revert hp
  unfold ref04Deadline ref04DeadlinePre
  cases (!ref04Number a0E a0P a1)
  ·
   cases (ref04UpPre (IntKind.i64.wrap (a1*a0P)) a0E)
   ·
    intro hp;cases hp
   ·
    intro _;exact ⟨⟨rfl,trivial⟩,trivial⟩
  ·
   intro _;exact ⟨⟨rfl,trivial⟩,trivial⟩
 ·exact h.elim)
def ref04Bit (a0E:Int) (a0P:Int) (a1:Int):Int:=(match (!ref04Number a0E a0P a1) with|true=>((0:Int))|false=>(match (a0E !=(0:Int)) with|true=>(match ((IntKind.i64.wrap (a1*a0P)).tmod a0E==(0:Int)) with|true=>((0:Int))|false=>((1:Int)))|false=>0))
def ref04BitPre (a0E:Int) (a0P:Int) (a1:Int):Bool:=(match (!ref04Number a0E a0P a1) with|true=>true|false=>(match (a0E !=(0:Int)) with|true=>(match ((IntKind.i64.wrap (a1*a0P)).tmod a0E==(0:Int)) with|true=>true|false=>true)|false=>false))
noncomputable def ref04BitCon:Con T O:=fun args cs=>match args,cs with
 |[.agg [.raw (.int .i64 a0E), .raw (.int .i64 a0P)], .raw (.int .i64 a1)],[]=>chk (ref04BitPre a0E a0P a1) (retv (.raw (.int .i64 (ref04Bit a0E a0P a1))))
 |_,_=> .fail
theorem ref04BitVc (a0E:Int) (a0P:Int) (a1:Int):fnX X2 noAnn Tryz.f157 [.agg [.raw (.int .i64 a0E), .raw (.int .i64 a0P)], .raw (.int .i64 a1)] [] (ends [] ⟨some (.raw (.int .i64 (ref04Bit a0E a0P a1))),[]⟩)=((match (!ref04Number a0E a0P a1) with|true=>((ref04Bit a0E a0P a1=((0:Int)))/\ True)/\ True|false=>(match (a0E !=(0:Int)) with|true=>(match ((IntKind.i64.wrap (a1*a0P)).tmod a0E==(0:Int)) with|true=>((ref04Bit a0E a0P a1=((0:Int)))/\ True)/\ True|false=>((ref04Bit a0E a0P a1=((1:Int)))/\ True)/\ True)|false=>False))):=by kernel_rfl
theorem ref04BitOk:ConOk R Tryz.prog 157 ref04BitCon:=con_of_fn R X2 (good (X2) rfl (TabOk.con R X2Ok)) mixed Tryz.call157 Tryz.func157 ref04BitCon (by
 intro args cs K h
 unfold ref04BitCon at h
 split at h
 ·rename_i a0E a0P a1
  rw [Tree.holds_chk] at h
  obtain ⟨hp,h⟩:=h
  refine ⟨noAnn,_,fun v S hv=>⟨_,h,hv⟩, ?_⟩
  rw [ref04BitVc a0E a0P a1]
  revert hp
  unfold ref04Bit ref04BitPre
  cases (!ref04Number a0E a0P a1)
  ·
   cases (a0E !=(0:Int))
   ·
    intro hp;cases hp
   ·
    cases ((IntKind.i64.wrap (a1*a0P)).tmod a0E==(0:Int))
    ·
     intro _;exact ⟨⟨rfl,trivial⟩,trivial⟩
    ·
     intro _;exact ⟨⟨rfl,trivial⟩,trivial⟩
  ·
   intro _;exact ⟨⟨rfl,trivial⟩,trivial⟩
 ·exact h.elim)
noncomputable def tab3:Tab T O:=(83,calendarLessCon)::(81,prioOrderCon)::(150,ref06LessCon)::(156,ref04ReleaseCon)::(155,ref04DeadlineCon)::(157,ref04BitCon)::tab2
theorem tabOk3:TabOk R Tryz.prog tab3:=TabOk.cons R calendarLessOk<|TabOk.cons R prioOrderOk<|TabOk.cons R ref06LessOk<|TabOk.cons R ref04ReleaseOk<|TabOk.cons R ref04DeadlineOk<|TabOk.cons R ref04BitOk<|tabOk2
noncomputable def X3:Ctx T O:= { X0 with con:=conOf tab3 }
theorem X3Ok:TabOk R X3.P tab3:=tabOk3
end Go.Proofs.YtlfjbnflfdnoaaaGreat
namespace Go.Proofs.YtlfjbnflfdnoaaaGreat
open Go.Sx Go.Proofs Classical
def prioLess (a0:Entry) (a1:Entry):Bool:=(decide (prioOrder a0 a1<(0:Int)))
noncomputable def prioLessCon:Con T O:=fun args cs=>match args,cs with
 |[.agg [.raw (.int .i64 a0_0), .raw (.int .i64 a0_1), .raw (.int .i64 a0_2), .raw (.int .i64 a0_3), .raw (.int .i64 a0_4), .raw (.int .i64 a0_5)], .agg [.raw (.int .i64 a1_0), .raw (.int .i64 a1_1), .raw (.int .i64 a1_2), .raw (.int .i64 a1_3), .raw (.int .i64 a1_4), .raw (.int .i64 a1_5)]],[]=>retv (.raw (.bool (prioLess (⟨a0_0,a0_1,a0_2,a0_3,a0_4,a0_5⟩:Entry) (⟨a1_0,a1_1,a1_2,a1_3,a1_4,a1_5⟩:Entry))))
 |_,_=> .fail
theorem prioLessVc (a0:Entry) (a1:Entry):fnX X3 noAnn Tryz.f40 [.agg [.raw (.int .i64 a0.ID), .raw (.int .i64 a0.SubIndex), .raw (.int .i64 a0.SubRelease), .raw (.int .i64 a0.SubDeadline), .raw (.int .i64 a0.SubBit), .raw (.int .i64 a0.SubGroup)], .agg [.raw (.int .i64 a1.ID), .raw (.int .i64 a1.SubIndex), .raw (.int .i64 a1.SubRelease), .raw (.int .i64 a1.SubDeadline), .raw (.int .i64 a1.SubBit), .raw (.int .i64 a1.SubGroup)]] [] (ends [] ⟨some (.raw (.bool (prioLess a0 a1))),[]⟩)=(((prioLess a0 a1=(decide (prioOrder a0 a1<(0:Int))))/\ True)/\ True):=by kernel_rfl
theorem prioLessOk:ConOk R Tryz.prog 40 prioLessCon:=con_of_fn R X3 (good (X3) rfl (TabOk.con R X3Ok)) mixed Tryz.call40 Tryz.func40 prioLessCon (by
 intro args cs K h
 unfold prioLessCon at h
 split at h
 ·rename_i a0_0 a0_1 a0_2 a0_3 a0_4 a0_5 a1_0 a1_1 a1_2 a1_3 a1_4 a1_5
  refine ⟨noAnn,_,fun v S hv=>⟨_,h,hv⟩, ?_⟩
  rw [prioLessVc (⟨a0_0,a0_1,a0_2,a0_3,a0_4,a0_5⟩:Entry) (⟨a1_0,a1_1,a1_2,a1_3,a1_4,a1_5⟩:Entry)]
  unfold prioLess
  exact ⟨⟨rfl,trivial⟩,trivial⟩
 ·exact h.elim)
noncomputable def tab4:Tab T O:=(40,prioLessCon)::tab3
theorem tabOk4:TabOk R Tryz.prog tab4:=TabOk.cons R prioLessOk<|tabOk3
noncomputable def X4:Ctx T O:= { X0 with con:=conOf tab4 }
theorem X4Ok:TabOk R X4.P tab4:=tabOk4
end Go.Proofs.YtlfjbnflfdnoaaaGreat
namespace Go.Proofs.YtlfjbnflfdnoaaaGreat
open Go.Sx Go.Proofs Classical
abbrev vtz:VThing:=vThingE.zero
def VThing.X (a:VThing):Ev:=⟨a.XAt,a.XID,a.XKind⟩
def vthing (id:Int) (x:Ev):VThing:=⟨id,x.At,x.ID,x.Kind⟩
def vaheadB (a b:VThing):Bool:=calendarLess a.X b.X||(!calendarLess b.X a.X&&decide (a.Id<b.Id))
def vaheadA (L:List VThing) (i k:Int):Bool:=vaheadB (at' vtz L i) (at' vtz L k)
def vswapL (L:List VThing) (i k:Int):List VThing:=(L.set i.toNat (at' vtz L k)).set k.toNat (at' vtz L i)
def vswapM (L:List VThing) (M:List (Int×Int)) (i k:Int):List (Int×Int):=mput (at' vtz L i).Id k (mput (at' vtz L k).Id i M)
def vSmall (L:List VThing):Prop:=L.length<=100000
instance (L:List VThing):Decidable (vSmall L):=inferInstanceAs (Decidable (_<=_))
def vnoneText (L:List VThing) (M:List (Int×Int)):Prop:=(((false=false)/\ True)/\ ((True/\ (True/\ (True/\ True)))/\ ((L=L)/\ ((M=M)/\ True))))
theorem vnoneVc (L:List VThing) (M:List (Int×Int)):fnX X4 (noAnn) Tryz.f170 [.ptr 0 0] [.cells [.fn 83 [], .own 1, .own 2] 198, .vec 6 L 242, .map 0 M] (ends [.cells [.fn 83 [], .own 1, .own 2] 198, .vec 6 L 242, .map 0 M] ⟨some (.raw (.bool false)),[(1,some (.vec 6 (L) 242)),(2,some (.map 0 (M)))]⟩)=vnoneText L M:=by kernel_rfl
theorem vnoneHolds (L:List VThing) (M:List (Int×Int)):vnoneText L M:=by
 unfold vnoneText
 refine ⟨⟨rfl,trivial⟩,⟨trivial,trivial,trivial,trivial⟩,rfl,rfl,trivial⟩
noncomputable def vnoneCon:Con T O:=fun args cs=>match args,cs with
 |[.ptr 0 0],[.cells [.fn 83 [], .own 1, .own 2] 198, .vec 6 L 242, .map 0 M]=> .ret ⟨some (.raw (.bool false)),[(1,some (.vec 6 (L) 242)),(2,some (.map 0 (M)))]⟩
 |_,_=> .fail
theorem vnoneOk:ConOk R Tryz.prog 170 vnoneCon:=con_of_fn R (X4) (good (X4) rfl (TabOk.con R X4Ok)) mixed Tryz.call170 Tryz.func170 vnoneCon (by
 intro args cs K h
 unfold vnoneCon at h
 split at h
 ·rename_i L M
  refine ⟨noAnn,_,fun v S hv=>⟨_,h,hv⟩, ?_⟩
  rw [vnoneVc L M]
  exact vnoneHolds L M
 ·exact h.elim)
def vaheadText (L:List VThing) (M:List (Int×Int)) (i k:Int):Prop:=let q0:=((True/\ (True/\ (True/\ True)))/\ ((L=L)/\ ((M=M)/\ True)));let q1:=(at' vThingE.zero L i);let q2:=(at' vThingE.zero L k);(match (inb i L.length) with|true=>(match (inb i L.length) with|true=>(match (inb k L.length) with|true=>(match (inb k L.length) with|true=>(match (calendarLess (Ev.mk q1.XAt q1.XID q1.XKind) (Ev.mk q2.XAt q2.XID q2.XKind)) with|true=>(((vaheadA L i k=true)/\ True)/\ q0)|false=>(match (!calendarLess (Ev.mk q2.XAt q2.XID q2.XKind) (Ev.mk q1.XAt q1.XID q1.XKind)) with|true=>(((vaheadA L i k=decide (q1.Id<q2.Id))/\ True)/\ q0)|false=>(((vaheadA L i k=false)/\ True)/\ q0)))|false=>False)|false=>False)|false=>False)|false=>False)
theorem vaheadVc (L:List VThing) (M:List (Int×Int)) (i k:Int):fnX X4 (noAnn) Tryz.f192 [.ptr 0 0, .raw (.int .i64 i), .raw (.int .i64 k)] [.cells [.fn 83 [], .own 1, .own 2] 198, .vec 6 L 242, .map 0 M] (ends [.cells [.fn 83 [], .own 1, .own 2] 198, .vec 6 L 242, .map 0 M] ⟨some (.raw (.bool (vaheadA L i k))),[(1,some (.vec 6 (L) 242)),(2,some (.map 0 (M)))]⟩)=vaheadText L M i k:=by kernel_rfl
theorem vaheadHolds (L:List VThing) (M:List (Int×Int)) (i k:Int) (hp:0<=i/\ i<L.length/\ 0<=k/\ k<L.length):vaheadText L M i k:=by
 unfold vaheadText
 conv=>zeta
 unfold vaheadA vaheadB VThing.X vtz
 obtain ⟨h1,h2,h3,h4⟩:=hp
 rw [inb_iff.2 ⟨h1,h2⟩,inb_iff.2 ⟨h3,h4⟩]
 cases calendarLess { At:=(at' vThingE.zero L i).XAt,ID:=(at' vThingE.zero L i).XID,Kind:=(at' vThingE.zero L i).XKind } { At:=(at' vThingE.zero L k).XAt,ID:=(at' vThingE.zero L k).XID,Kind:=(at' vThingE.zero L k).XKind }
 ·cases calendarLess { At:=(at' vThingE.zero L k).XAt,ID:=(at' vThingE.zero L k).XID,Kind:=(at' vThingE.zero L k).XKind } { At:=(at' vThingE.zero L i).XAt,ID:=(at' vThingE.zero L i).XID,Kind:=(at' vThingE.zero L i).XKind }
  ·exact ⟨⟨rfl,trivial⟩,⟨trivial,trivial,trivial,trivial⟩,rfl,rfl,trivial⟩
  ·exact ⟨⟨rfl,trivial⟩,⟨trivial,trivial,trivial,trivial⟩,rfl,rfl,trivial⟩
 ·exact ⟨⟨rfl,trivial⟩,⟨trivial,trivial,trivial,trivial⟩,rfl,rfl,trivial⟩
noncomputable def vaheadCon:Con T O:=fun args cs=>match args,cs with
 |[.ptr 0 0, .raw (.int .i64 i), .raw (.int .i64 k)],[.cells [.fn 83 [], .own 1, .own 2] 198, .vec 6 L 242, .map 0 M]=>chk (decide (0<=i/\ i<L.length/\ 0<=k/\ k<L.length)) (.ret ⟨some (.raw (.bool (vaheadA L i k))),[(1,some (.vec 6 (L) 242)),(2,some (.map 0 (M)))]⟩)
 |_,_=> .fail
theorem vaheadOk:ConOk R Tryz.prog 192 vaheadCon:=con_of_fn R (X4) (good (X4) rfl (TabOk.con R X4Ok)) mixed Tryz.call192 Tryz.func192 vaheadCon (by
 intro args cs K h
 unfold vaheadCon at h
 split at h
 ·rename_i i k L M
  rw [Tree.holds_chk] at h
  obtain ⟨hp,h⟩:=h
  refine ⟨noAnn,_,fun v S hv=>⟨_,h,hv⟩, ?_⟩
  rw [vaheadVc L M i k]
  exact vaheadHolds L M i k (of_decide_eq_true hp)
 ·exact h.elim)
def vswapText (L:List VThing) (M:List (Int×Int)) (i k:Int):Prop:=let q0:=(L.set i.toNat (at' vThingE.zero L k));(match (inb i L.length) with|true=>(match (inb i L.length) with|true=>(match (inb k L.length) with|true=>(match (inb k L.length) with|true=>(match (inb i L.length) with|true=>(match (inb i L.length) with|true=>(match (inb k q0.length) with|true=>(match (inb k q0.length) with|true=>((True/\ True)/\ ((True/\ (True/\ (True/\ True)))/\ ((vswapL L i k=q0.set k.toNat (at' vThingE.zero L i))/\ ((vswapM L M i k=mput (at' vThingE.zero L i).Id k (mput (at' vThingE.zero L k).Id i M))/\ True))))|false=>False)|false=>False)|false=>False)|false=>False)|false=>False)|false=>False)|false=>False)|false=>False)
theorem vswapVc (L:List VThing) (M:List (Int×Int)) (i k:Int):fnX X4 (noAnn) Tryz.f190 [.ptr 0 0, .raw (.int .i64 i), .raw (.int .i64 k)] [.cells [.fn 83 [], .own 1, .own 2] 198, .vec 6 L 242, .map 0 M] (ends [.cells [.fn 83 [], .own 1, .own 2] 198, .vec 6 L 242, .map 0 M] ⟨some (.tup []),[(1,some (.vec 6 (vswapL L i k) 242)),(2,some (.map 0 (vswapM L M i k)))]⟩)=vswapText L M i k:=by kernel_rfl
theorem vswapHolds (L:List VThing) (M:List (Int×Int)) (i k:Int) (hp:0<=i/\ i<L.length/\ 0<=k/\ k<L.length):vswapText L M i k:=by
 unfold vswapText
 conv=>zeta
 obtain ⟨h1,h2,h3,h4⟩:=hp
 rw [List.length_set,inb_iff.2 ⟨h1,h2⟩,inb_iff.2 ⟨h3,h4⟩]
 exact ⟨⟨trivial,trivial⟩,⟨trivial,trivial,trivial,trivial⟩,rfl,rfl,trivial⟩
noncomputable def vswapCon:Con T O:=fun args cs=>match args,cs with
 |[.ptr 0 0, .raw (.int .i64 i), .raw (.int .i64 k)],[.cells [.fn 83 [], .own 1, .own 2] 198, .vec 6 L 242, .map 0 M]=>chk (decide (0<=i/\ i<L.length/\ 0<=k/\ k<L.length)) (.ret ⟨some (.tup []),[(1,some (.vec 6 (vswapL L i k) 242)),(2,some (.map 0 (vswapM L M i k)))]⟩)
 |_,_=> .fail
theorem vswapOk:ConOk R Tryz.prog 190 vswapCon:=con_of_fn R (X4) (good (X4) rfl (TabOk.con R X4Ok)) mixed Tryz.call190 Tryz.func190 vswapCon (by
 intro args cs K h
 unfold vswapCon at h
 split at h
 ·rename_i i k L M
  rw [Tree.holds_chk] at h
  obtain ⟨hp,h⟩:=h
  refine ⟨noAnn,_,fun v S hv=>⟨_,h,hv⟩, ?_⟩
  rw [vswapVc L M i k]
  exact vswapHolds L M i k (of_decide_eq_true hp)
 ·exact h.elim)
noncomputable def tab5:Tab T O:=(170,vnoneCon)::(192,vaheadCon)::(190,vswapCon)::tab4
theorem tabOk5:TabOk R Tryz.prog tab5:=TabOk.cons R vnoneOk<|TabOk.cons R vaheadOk<|TabOk.cons R vswapOk<|tabOk4
end Go.Proofs.YtlfjbnflfdnoaaaGreat
namespace Go.Proofs.YtlfjbnflfdnoaaaGreat
open Go.Sx Go.Proofs Classical
abbrev vHS:Type:=List VThing×List (Int×Int)
def vswapH (s:vHS) (i k:Int):vHS:=(vswapL s.1 i k,vswapM s.1 s.2 i k)
def vup (i:Nat):Nat:=(i-1)/2
def vriseN:Nat->vHS->Nat->vHS
 |0,s,_=>s
 |n+1,s,i=>bif decide (0<i)&&vaheadA s.1 i (vup i) then vriseN n (vswapH s i (vup i)) (vup i) else s
def vfirstAt (L:List VThing) (i:Nat):Nat->Nat
 |0=>i
 |n+1=>bif decide (2*i+1+n<L.length)&&vaheadA L (2*i+1+n:Nat) (vfirstAt L i n:Nat) then 2*i+1+n else vfirstAt L i n
def vsinkN:Nat->vHS->Nat->vHS
 |0,s,_=>s
 |n+1,s,i=>bif vfirstAt s.1 i 2==i then s else vsinkN n (vswapH s i (vfirstAt s.1 i 2:Nat)) (vfirstAt s.1 i 2)
theorem vswapL_length (L:List VThing) (i k:Int):(vswapL L i k).length=L.length:=by simp [vswapL]
theorem vup_lt {i:Nat} (h:0<i):vup i<i:=by unfold vup;omega
theorem vriseN_fuel: ∀(n m:Nat) (s:vHS) (i:Nat),i<=n->i<=m->vriseN n s i=vriseN m s i
 |0,0,_,_,_,_=>rfl
 |0,m+1,s,i,h,_=>by
  have:i=0:=by omega
  subst this
  rfl
 |n+1,0,s,i,_,h=>by
  have:i=0:=by omega
  subst this
  rfl
 |n+1,m+1,s,i,h1,h2=>by
  simp only [vriseN]
  by_cases h:0<i
  ·have:=vup_lt h
   rw [vriseN_fuel n m (vswapH s i (vup i)) (vup i) (by omega) (by omega)]
  ·rw [decide_eq_false h]
   rfl
theorem vfirstAt_lt (L:List VThing) (i:Nat) (h:i<L.length): ∀n,vfirstAt L i n<L.length
 |0=>h
 |n+1=>by
  simp only [vfirstAt]
  cases hq:decide (2*i+1+n<L.length)&&vaheadA L (2*i+1+n:Nat) (vfirstAt L i n:Nat)
  ·exact vfirstAt_lt L i h n
  ·simp only [Bool.and_eq_true,decide_eq_true_eq] at hq
   exact hq.1
theorem vfirstAt_ge (L:List VThing) (i:Nat): ∀n,vfirstAt L i n=i \/2*i+1<=vfirstAt L i n
 |0=> .inl rfl
 |n+1=>by
  simp only [vfirstAt]
  cases decide (2*i+1+n<L.length)&&vaheadA L (2*i+1+n:Nat) (vfirstAt L i n:Nat)
  ·exact vfirstAt_ge L i n
  ·simp only [cond_true];omega
theorem vsinkN_fuel: ∀(n m:Nat) (s:vHS) (i:Nat),s.1.length-i<=n->s.1.length-i<=m->i<s.1.length->vsinkN n s i=vsinkN m s i
 |0,_,s,i,h,_,h2=>by omega
 |n+1,0,s,i,_,h,h2=>by omega
 |n+1,m+1,s,i,h1,h2,h3=>by
  simp only [vsinkN]
  cases hq:vfirstAt s.1 i 2==i
  ·have hne:vfirstAt s.1 i 2≠i:=by simpa using hq
   have hgt:=(vfirstAt_ge s.1 i 2).resolve_left hne
   have hf:=vfirstAt_lt s.1 i h3 2
   have el:(vswapH s i (vfirstAt s.1 i 2:Nat)).1.length=s.1.length:=vswapL_length _ _ _
   rw [vsinkN_fuel n m _ _ (by rw [el];omega) (by rw [el];omega) (by rw [el];exact hf)]
  ·rfl
theorem vfirstAt_end (L:List VThing) (i x:Nat) (h:L.length<=2*i+1+x): ∀n,x<=n->vfirstAt L i n=vfirstAt L i x
 |0,hn=>by
  have:x=0:=by omega
  subst this;rfl
 |n+1,hn=>by
  by_cases e:x=n+1
  ·subst e;rfl
  ·simp only [vfirstAt]
   rw [decide_eq_false (by omega)]
   exact vfirstAt_end L i x h n (by omega)
theorem vless_iff (a b:Ev):calendarLess a b=decide (a.At<b.At \/(a.At=b.At/\ (a.Kind<b.Kind \/(a.Kind=b.Kind/\ a.ID<b.ID)))):=by
 have h1: ∀a b:Int,cmpL a b=if a<b then-1 else if b<a then 1 else 0:=by
  intro a b
  simp only [cmpL,nanL,bne_self_eq_false]
  by_cases h:a<b
  ·rw [decide_eq_true h,if_pos h]
  ·rw [decide_eq_false h,if_neg h]
   by_cases h2:b<a
   ·rw [show decide (a>b)=true from decide_eq_true h2,if_pos h2]
   ·rw [show decide (a>b)=false from decide_eq_false h2,if_neg h2]
 have h2: ∀a b:Int,cmpI a b=if a<b then-1 else if b<a then 1 else 0:=h1
 unfold calendarLess
 rw [h1,h2,h2]
 simp only [orL]
 congr 1
 apply propext
 by_cases e1:a.At<b.At
 ·simp [e1]
 ·by_cases e2:b.At<a.At
  ·simp [e1,e2];omega
  ·have e3:a.At=b.At:=by omega
   by_cases f1:a.Kind<b.Kind
   ·simp [e3,f1]
   ·by_cases f2:b.Kind<a.Kind
    ·simp [e3,f1,f2];omega
    ·have f3:a.Kind=b.Kind:=by omega
     by_cases g1:a.ID<b.ID
     ·simp [e3,f3,g1]
     ·by_cases g2:b.ID<a.ID
      ·simp [e3,f3,g1,g2]
      ·simp [e3,f3,g1,g2]
def vle' (a b:VThing):Prop:=a.XAt<b.XAt \/(a.XAt=b.XAt/\ (a.XKind<b.XKind \/(a.XKind=b.XKind/\ (a.XID<b.XID \/(a.XID=b.XID/\ a.Id<=b.Id)))))
theorem vahead_iff (a b:VThing):vaheadB a b=true↔ ¬vle' b a:=by
 unfold vaheadB vle' VThing.X
 rw [vless_iff,vless_iff]
 dsimp only
 simp only [Bool.or_eq_true,Bool.and_eq_true,Bool.not_eq_true',decide_eq_true_eq,decide_eq_false_iff_not]
 omega
theorem vahead_false (a b:VThing):vaheadB a b=false↔vle' b a:=by
 have:=vahead_iff a b
 cases h:vaheadB a b
 ·rw [h] at this;simp at this;simp [this]
 ·rw [h] at this;simp at this;simp [this]
theorem vle_refl' (a:VThing):vle' a a:=by unfold vle';omega
theorem vle_trans' {a b c:VThing} (h1:vle' a b) (h2:vle' b c):vle' a c:=by unfold vle' at*;omega
theorem vle_total' (a b:VThing):vle' a b \/vle' b a:=by unfold vle';omega
theorem vle_of_not' {a b:VThing} (h: ¬vle' a b):vle' b a:=(vle_total' a b).resolve_left h
def vgN (L:List VThing) (j:Nat):VThing:=at' vtz L (j:Int)
theorem vgN_at {L:List VThing} {j:Nat} (h:j<L.length):vgN L j=L[j]:=at_nat h
def vHp (g:Nat->VThing) (n:Nat):Prop:= ∀j,0<j->j<n->vle' (g (vup j)) (g j)
theorem vswap_at {L:List VThing} {i k:Nat} (hi:i<L.length) (hk:k<L.length) (j:Nat) (hj:j<L.length):vgN (vswapL L i k) j=if j=k then vgN L i else if j=i then vgN L k else vgN L j:=by
 have hl:j<(vswapL L i k).length:=by rw [vswapL_length];exact hj
 have e:vswapL L i k=(L.set i (vgN L k)).set k (vgN L i):=rfl
 rw [vgN_at hl,List.getElem_of_eq e hl,List.getElem_set,List.getElem_set,vgN_at hj]
 by_cases h1:k=j
 ·rw [if_pos h1,if_pos h1.symm]
 ·rw [if_neg h1,if_neg (show ¬j=k from fun h=>h1 h.symm)]
  by_cases h2:i=j
  ·rw [if_pos h2,if_pos h2.symm]
  ·rw [if_neg h2,if_neg (show ¬j=i from fun h=>h2 h.symm)]
theorem vswap_perm {L:List VThing} {i k:Nat} (hi:i<L.length) (hk:k<L.length):(vswapL L i k).Perm L:=by
 have e:vswapL L i k=(L.set i L[k]).set k L[i]:=by
  rw [←vgN_at hi,←vgN_at hk]
  rfl
 rw [e]
 exact List.set_set_perm hi hk
def vMOk (L:List VThing) (M:List (Int×Int)):Prop:=
 (∀i,i<L.length->mget (vgN L i).Id M=some (i:Int))/\ (∀id v,mget id M=some v-> ∃i:Nat,i<L.length/\ v=i/\ (vgN L i).Id=id)/\ (M.map (·.1)).Nodup
theorem vMOk.inj {L:List VThing} {M:List (Int×Int)} (h:vMOk L M) {i k:Nat} (hi:i<L.length) (hk:k<L.length) (e:(vgN L i).Id=(vgN L k).Id):i=k:=by
 have h1:=h.1 i hi
 have h2:=h.1 k hk
 rw [e,h2] at h1
 have:=Option.some.inj h1
 omega
theorem vMOk.swap {L:List VThing} {M:List (Int×Int)} (h:vMOk L M) {i k:Nat} (hi:i<L.length) (hk:k<L.length):vMOk (vswapL L i k) (vswapM L M i k):=by
 have ei:at' vtz L (i:Int)=vgN L i:=rfl
 have ek:at' vtz L (k:Int)=vgN L k:=rfl
 refine ⟨fun j hj=> ?_,fun id v hv=> ?_,mput_nodup _ _ _ (mput_nodup _ _ _ h.2.2)⟩
 ·rw [vswapL_length] at hj
  rw [vswap_at hi hk j hj]
  simp only [vswapM,ei,ek,mget_put]
  by_cases h1:j=k
  ·rw [if_pos h1,if_pos rfl,h1]
  ·rw [if_neg h1]
   by_cases h2:j=i
   ·rw [if_pos h2]
    have: ¬(vgN L k).Id=(vgN L i).Id:=fun e=>h1 (by rw [h2];exact (h.inj hk hi e).symm)
    rw [if_neg this,if_pos rfl,h2]
   ·rw [if_neg h2]
    have a1: ¬(vgN L j).Id=(vgN L i).Id:=fun e=>h2 (h.inj hj hi e)
    have a2: ¬(vgN L j).Id=(vgN L k).Id:=fun e=>h1 (h.inj hj hk e)
    rw [if_neg a1,if_neg a2]
    exact h.1 j hj
 ·simp only [vswapM,ei,ek,mget_put] at hv
  by_cases h1:id=(vgN L i).Id
  ·rw [if_pos h1] at hv
   refine ⟨k,by rw [vswapL_length];exact hk,(Option.some.inj hv).symm, ?_⟩
   rw [vswap_at hi hk k hk,if_pos rfl,h1]
  ·rw [if_neg h1] at hv
   by_cases h2:id=(vgN L k).Id
   ·rw [if_pos h2] at hv
    refine ⟨i,by rw [vswapL_length];exact hi,(Option.some.inj hv).symm, ?_⟩
    rw [vswap_at hi hk i hi]
    by_cases e:i=k
    ·rw [if_pos e,e,h2]
    ·rw [if_neg e,if_pos rfl,h2]
   ·rw [if_neg h2] at hv
    obtain ⟨j,hj,hvj,hid⟩:=h.2.1 id v hv
    refine ⟨j,by rw [vswapL_length];exact hj,hvj, ?_⟩
    have a1:j≠i:=fun e=>h1 (by rw [←hid,e])
    have a2:j≠k:=fun e=>h2 (by rw [←hid,e])
    rw [vswap_at hi hk j hj,if_neg a2,if_neg a1,hid]
def vRiseOk (L:List VThing) (i:Nat):Prop:=(∀j,0<j->j<L.length->j≠i->vle' (vgN L (vup j)) (vgN L j))/\ ∀j,0<i->j<L.length->0<j->vup j=i->vle' (vgN L (vup i)) (vgN L j)
def vSinkOk (L:List VThing) (i:Nat):Prop:=(∀j,0<j->j<L.length->vup j≠i->vle' (vgN L (vup j)) (vgN L j))/\ ∀j,0<i->j<L.length->0<j->vup j=i->vle' (vgN L (vup i)) (vgN L j)
theorem vrise_step {L:List VThing} {i:Nat} (hi:i<L.length) (h0:0<i) (hb: ∀j,0<j->j<L.length->j≠i->vup j≠i->vle' (vgN L (vup j)) (vgN L j))
  (hc: ∀j,j<L.length->0<j->vup j=i->vle' (vgN L (vup i)) (vgN L j)) (ha: ¬vle' (vgN L (vup i)) (vgN L i)):vRiseOk (vswapL L i (vup i)) (vup i):=by
 have hu:=vup_lt h0
 have hul:vup i<L.length:=by omega
 have ha':=vle_of_not' ha
 have key: ∀j,j<L.length->vgN (vswapL L i (vup i)) j=if j=vup i then vgN L i else if j=i then vgN L (vup i) else vgN L j:=fun j hj=>vswap_at hi hul j hj
 refine ⟨fun j hj0 hj hne=> ?_,fun j h1 hj hj0 hu2=> ?_⟩
 ·rw [vswapL_length] at hj
  have hupl:vup j<L.length:=Nat.lt_trans (vup_lt hj0) hj
  rw [key j hj,key (vup j) hupl,if_neg hne]
  by_cases e:j=i
  ·subst e
   rw [if_pos rfl,if_pos rfl]
   exact ha'
  ·rw [if_neg e]
   by_cases e2:vup j=vup i
   ·rw [if_pos e2]
    have:=hb j hj0 hj e (by omega)
    rw [e2] at this
    exact vle_trans' ha' this
   ·rw [if_neg e2]
    by_cases e3:vup j=i
    ·rw [if_pos e3]
     exact hc j hj hj0 e3
    ·rw [if_neg e3]
     exact hb j hj0 hj e e3
 ·rw [vswapL_length] at hj
  have huu:=vup_lt h1
  have e1: ¬vup (vup i)=vup i:=by omega
  have e2: ¬vup (vup i)=i:=by omega
  have hjn: ¬j=vup i:=by have:=vup_lt hj0;omega
  rw [key j hj,key (vup (vup i)) (by omega),if_neg e1,if_neg e2,if_neg hjn]
  have hpar:=hb (vup i) h1 hul (by omega) e2
  by_cases e:j=i
  ·rw [if_pos e]
   exact hpar
  ·rw [if_neg e]
   have:=hb j hj0 hj e (by omega)
   rw [hu2] at this
   exact vle_trans' hpar this
theorem vrise_all: ∀(n:Nat) (s:vHS) (i:Nat),i<=n->i<s.1.length->vRiseOk s.1 i->vMOk s.1 s.2->vHp (vgN (vriseN n s i).1) s.1.length/\ vMOk (vriseN n s i).1 (vriseN n s i).2/\ (vriseN n s i).1.Perm s.1/\ (vriseN n s i).1.length=s.1.length
 |0,s,i,hn,hi,hr,hm=>by
  have:i=0:=by omega
  subst this
  exact ⟨fun j hj0 hj=>hr.1 j hj0 hj (by omega),hm,List.Perm.refl _,rfl⟩
 |n+1,s,i,hn,hi,hr,hm=>by
  simp only [vriseN]
  by_cases h0:0<i
  ·rw [decide_eq_true h0,Bool.true_and]
   have hu:=vup_lt h0
   cases ha:vaheadA s.1 i (vup i)
   ·have hle:=(vahead_false _ _).1 ha
    refine ⟨fun j hj0 hj=> ?_,hm,List.Perm.refl _,rfl⟩
    by_cases e:j=i
    ·subst e;exact hle
    ·exact hr.1 j hj0 hj e
   ·have hle:=(vahead_iff _ _).1 ha
    have hr':=vrise_step hi h0 (fun j a b c _=>hr.1 j a b c) (fun j a b c=>hr.2 j h0 a b c) hle
    have hp:=vswap_perm hi (show vup i<s.1.length by omega)
    obtain ⟨a1,a2,a3,a4⟩:=vrise_all n (vswapH s i (vup i)) (vup i) (by omega) (by show vup i<(vswapL s.1 i (vup i)).length;rw [vswapL_length];omega) hr' (hm.swap hi (by omega))
    have el:(vswapH s i (vup i)).1.length=s.1.length:=vswapL_length _ _ _
    rw [el] at a1 a4
    exact ⟨a1,a2,a3.trans hp,a4⟩
  ·rw [decide_eq_false h0]
   refine ⟨fun j hj0 hj=>hr.1 j hj0 hj (by omega),hm,List.Perm.refl _,rfl⟩
theorem vfirstAt_min (L:List VThing) (i:Nat): ∀n,vle' (vgN L (vfirstAt L i n)) (vgN L i)/\ ∀m,m<n->2*i+1+m<L.length->vle' (vgN L (vfirstAt L i n)) (vgN L (2*i+1+m))
 |0=>⟨vle_refl' _,fun m h=>by omega⟩
 |n+1=>by
  have ih:=vfirstAt_min L i n
  simp only [vfirstAt]
  by_cases h:2*i+1+n<L.length
  ·rw [decide_eq_true h,Bool.true_and]
   cases ha:vaheadA L (2*i+1+n:Nat) (vfirstAt L i n:Nat)
   ·have hle:=(vahead_false _ _).1 ha
    refine ⟨ih.1,fun m hm hl=> ?_⟩
    by_cases e:m=n
    ·subst e;exact hle
    ·exact ih.2 m (by omega) hl
   ·have hle:=vle_of_not' ((vahead_iff _ _).1 ha)
    refine ⟨vle_trans' hle ih.1,fun m hm hl=> ?_⟩
    by_cases e:m=n
    ·subst e;exact vle_refl' _
    ·exact vle_trans' hle (ih.2 m (by omega) hl)
  ·rw [decide_eq_false h]
   refine ⟨ih.1,fun m hm hl=> ?_⟩
   by_cases e:m=n
   ·subst e;omega
   ·exact ih.2 m (by omega) hl
theorem vchild {j i:Nat} (h0:0<j) (h:vup j=i): ∃m,m<2/\ j=2*i+1+m:=⟨j-(2*i+1),by unfold vup at h;omega,by unfold vup at h;omega⟩
theorem vfirstAt_child (L:List VThing) (i:Nat): ∀n,n<=2->vfirstAt L i n=i \/(0<vfirstAt L i n/\ vup (vfirstAt L i n)=i)
 |0,_=> .inl rfl
 |n+1,hn=>by
  simp only [vfirstAt]
  cases decide (2*i+1+n<L.length)&&vaheadA L (2*i+1+n:Nat) (vfirstAt L i n:Nat)
  ·exact vfirstAt_child L i n (by omega)
  ·simp only [cond_true]
   refine .inr ⟨by omega, ?_⟩
   unfold vup
   omega
theorem vsink_step {L:List VThing} {i f:Nat} (hi:i<L.length) (hf:f<L.length) (hf0:0<f) (hfu:vup f=i) (hs:vSinkOk L i) (hmin:vle' (vgN L f) (vgN L i)) (hmin2: ∀m,m<2->2*i+1+m<L.length->vle' (vgN L f) (vgN L (2*i+1+m))):vSinkOk (vswapL L i f) f:=by
 have hlt:=vup_lt hf0
 have key: ∀j,j<L.length->vgN (vswapL L i f) j=if j=f then vgN L i else if j=i then vgN L f else vgN L j:=fun j hj=>vswap_at hi hf j hj
 refine ⟨fun j hj0 hj hne=> ?_,fun j _ hj hj0 hu=> ?_⟩
 ·rw [vswapL_length] at hj
  have hupl:vup j<L.length:=Nat.lt_trans (vup_lt hj0) hj
  rw [key j hj,key (vup j) hupl,if_neg hne]
  by_cases e:j=f
  ·subst e
   rw [if_pos rfl,if_pos hfu]
   exact hmin
  ·rw [if_neg e]
   by_cases e2:vup j=i
   ·rw [if_pos e2]
    obtain ⟨m,hm,rfl⟩:=vchild hj0 e2
    have: ¬(2*i+1+m)=i:=by omega
    rw [if_neg this]
    exact hmin2 m hm hj
   ·rw [if_neg e2]
    by_cases e3:j=i
    ·rw [if_pos e3]
     subst e3
     exact hs.2 f hj0 hf hf0 hfu
    ·rw [if_neg e3]
     exact hs.1 j hj0 hj e2
 ·rw [vswapL_length] at hj
  have hju:=vup_lt hj0
  rw [key j hj,hfu,key i hi]
  have a1: ¬i=f:=by omega
  have a2: ¬j=f:=by omega
  have a3: ¬j=i:=by omega
  rw [if_neg a1,if_pos rfl,if_neg a2,if_neg a3]
  have:=hs.1 j hj0 hj (by omega)
  rw [hu] at this
  exact this
theorem vsink_all: ∀(n:Nat) (s:vHS) (i:Nat),s.1.length-i<=n->i<s.1.length->vSinkOk s.1 i->vMOk s.1 s.2->vHp (vgN (vsinkN n s i).1) s.1.length/\ vMOk (vsinkN n s i).1 (vsinkN n s i).2/\ (vsinkN n s i).1.Perm s.1/\ (vsinkN n s i).1.length=s.1.length
 |0,s,i,hn,hi,_,_=>by omega
 |n+1,s,i,hn,hi,hs,hm=>by
  simp only [vsinkN]
  have hmin:=vfirstAt_min s.1 i 2
  have hfl:=vfirstAt_lt s.1 i hi 2
  cases hq:vfirstAt s.1 i 2==i
  ·have hne:vfirstAt s.1 i 2≠i:=by simpa using hq
   obtain ⟨hf0,hfu⟩:=(vfirstAt_child s.1 i 2 (Nat.le_refl _)).resolve_left hne
   have hlt:=vup_lt hf0
   have hs':=vsink_step hi hfl hf0 hfu hs hmin.1 hmin.2
   have el:(vswapH s i (vfirstAt s.1 i 2:Nat)).1.length=s.1.length:=vswapL_length _ _ _
   obtain ⟨a1,a2,a3,a4⟩:=vsink_all n (vswapH s i (vfirstAt s.1 i 2:Nat)) (vfirstAt s.1 i 2) (by rw [el];omega) (by rw [el];exact hfl) hs' (hm.swap hi hfl)
   rw [el] at a1 a4
   exact ⟨a1,a2,a3.trans (vswap_perm hi hfl),a4⟩
  ·have he:vfirstAt s.1 i 2=i:=by simpa using hq
   rw [he] at hmin
   refine ⟨fun j hj0 hj=> ?_,hm,List.Perm.refl _,rfl⟩
   by_cases e:vup j=i
   ·obtain ⟨m,hm2,rfl⟩:=vchild hj0 e
    rw [e]
    exact hmin.2 m hm2 hj
   ·exact hs.1 j hj0 hj e
noncomputable def tab6:Tab T O:=tab5
theorem tabOk6:TabOk R Tryz.prog tab6:=tabOk5
noncomputable def X6:Ctx T O:= { X0 with con:=conOf tab6 }
theorem X6Ok:TabOk R X6.P tab6:=tabOk6
end Go.Proofs.YtlfjbnflfdnoaaaGreat
namespace Go.Proofs.YtlfjbnflfdnoaaaGreat
open Go.Sx Go.Proofs Classical
noncomputable def vriseA (L:List VThing) (M:List (Int×Int)) (i:Int):Ann T O:=oneLoop 0 { σ:=Nat×List VThing×List (Int×Int),st:=fun S x=>(((S.keep [0]).int 1 x.1).chunk 1 (.vec 6 x.2.1 242)).chunk 2 (.map 0 x.2.2),inv:=fun _ x=>x.1<=i.toNat/\ x.2.1.length=L.length/\ vriseN i.toNat (L,M) i.toNat=vriseN x.1 x.2 x.1,m:=fun x=>x.1 }
def vriseText (L:List VThing) (M:List (Int×Int)) (i:Int):Prop:=let q4:=(True/\ (True/\ (True/\ True)));((∃x:Nat×List VThing×List (Int×Int),let q3:=((x.fst<=i.toNat)/\ ((x.snd.fst.length=L.length)/\ (vriseN i.toNat (L,M) i.toNat=vriseN x.fst x.snd x.fst)));(q3/\ ((True/\ (((↑x.fst:Int)=i)/\ True))/\ (q4/\ ((x.snd.fst=L)/\ ((x.snd.snd=M)/\ True))))))/\ (∀x:Nat×List VThing×List (Int×Int),let q0:=((IntKind.i64.wrap ((↑x.fst:Int)-(1:Int))).tdiv (2:Int));let q1:=(decide ((0:Int)<=(↑x.fst:Int)/\ (↑x.fst:Int)<(↑x.snd.fst.length:Int)/\ (0:Int)<=IntKind.i64.wrap q0/\ IntKind.i64.wrap q0<(↑x.snd.fst.length:Int)));let q2:=((True/\ True)/\ (q4/\ (((vriseN i.toNat (L,M) i.toNat).fst=x.snd.fst)/\ (((vriseN i.toNat (L,M) i.toNat).snd=x.snd.snd)/\ True))));let q3:=((x.fst<=i.toNat)/\ ((x.snd.fst.length=L.length)/\ (vriseN i.toNat (L,M) i.toNat=vriseN x.fst x.snd x.fst)));(q3->(match (decide ((↑x.fst:Int)>(0:Int))) with|true=>(match q1 with|true=>(match (vaheadA x.snd.fst (↑x.fst:Int) (IntKind.i64.wrap q0)) with|true=>(match q1 with|true=>(∃x':Nat×List VThing×List (Int×Int),(((x'.fst<=i.toNat)/\ ((x'.snd.fst.length=L.length)/\ (vriseN i.toNat (L,M) i.toNat=vriseN x'.fst x'.snd x'.fst)))/\ ((x'.fst<x.fst)/\ ((True/\ (((↑x'.fst:Int)=IntKind.i64.wrap q0)/\ True))/\ (q4/\ ((x'.snd.fst=vswapL x.snd.fst (↑x.fst:Int) (IntKind.i64.wrap q0))/\ ((x'.snd.snd=vswapM x.snd.fst x.snd.snd (↑x.fst:Int) (IntKind.i64.wrap q0))/\ True)))))))|false=>False)|false=>q2)|false=>False)|false=>q2))))
theorem vriseVc (L:List VThing) (M:List (Int×Int)) (i:Int):fnX X6 ((vriseA L M i)) Tryz.f173 [.ptr 0 0, .raw (.int .i64 i)] [.cells [.fn 83 [], .own 1, .own 2] 198, .vec 6 L 242, .map 0 M] (ends [.cells [.fn 83 [], .own 1, .own 2] 198, .vec 6 L 242, .map 0 M] ⟨some (.tup []),[(1,some (.vec 6 ((vriseN i.toNat (L,M) i.toNat).1) 242)),(2,some (.map 0 ((vriseN i.toNat (L,M) i.toNat).2)))]⟩)=vriseText L M i:=by kernel_rfl
theorem vriseHolds (L:List VThing) (M:List (Int×Int)) (i:Int) (hp:0<=i/\ i<L.length/\ L.length<=100000):vriseText L M i:=by
 unfold vriseText
 conv=>zeta
 obtain ⟨p0,p1,p2⟩:=hp
 obtain ⟨n,rfl⟩:=Int.eq_ofNat_of_zero_le p0
 rw [Int.toNat_natCast]
 refine ⟨⟨(n,L,M),⟨Nat.le_refl _,rfl,rfl⟩,⟨trivial,rfl,trivial⟩,⟨trivial,trivial,trivial,trivial⟩,rfl,rfl,trivial⟩, ?_⟩
 rintro ⟨x,L1,M1⟩ ⟨hx,hl,hs⟩
 dsimp only at hx hl hs ⊢
 cases x with
 |zero=>
  rw [show decide (((0:Nat):Int)>0)=false from rfl]
  rw [hs]
  exact ⟨⟨trivial,trivial⟩,⟨trivial,trivial,trivial,trivial⟩,rfl,rfl,trivial⟩
 |succ k=>
  have hu:vup (k+1)<k+1:=vup_lt (Nat.succ_pos k)
  have e1:IntKind.i64.wrap ((IntKind.i64.wrap (((k+1:Nat):Int)-1)).tdiv 2)=(vup (k+1):Int):=by
   rw [wrap_id (n:=((k+1:Nat):Int)-1) (by omega) (by omega),Int.tdiv_eq_ediv_of_nonneg (by omega),wrap_id (by omega) (by omega)]
   unfold vup
   omega
  rw [e1,show decide (((k+1:Nat):Int)>0)=true from decide_eq_true (by omega),show decide (0<=((k+1:Nat):Int)/\ ((k+1:Nat):Int)<(L1.length:Int)/\ 0<=(vup (k+1):Int)/\ (vup (k+1):Int)<(L1.length:Int))=true from decide_eq_true ⟨by omega,by omega,by omega,by omega⟩]
  simp only [vriseN] at hs
  rw [show decide (0<k+1)=true from decide_eq_true (Nat.succ_pos k),Bool.true_and] at hs
  cases ha:vaheadA L1 ((k+1:Nat):Int) (vup (k+1):Int)
  ·rw [ha] at hs
   rw [hs]
   exact ⟨⟨trivial,trivial⟩,⟨trivial,trivial,trivial,trivial⟩,rfl,rfl,trivial⟩
  ·rw [ha] at hs
   refine ⟨(vup (k+1),vswapL L1 (k+1:Nat) (vup (k+1)),vswapM L1 M1 (k+1:Nat) (vup (k+1))),⟨by dsimp only;omega,by rw [vswapL_length];exact hl, ?_⟩,by dsimp only;omega,⟨trivial,rfl,trivial⟩,⟨trivial,trivial,trivial,trivial⟩,rfl,rfl,trivial⟩
   rw [hs]
   exact vriseN_fuel _ _ _ _ (by omega) (Nat.le_refl _)
noncomputable def vriseCon:Con T O:=fun args cs=>match args,cs with
 |[.ptr 0 0, .raw (.int .i64 i)],[.cells [.fn 83 [], .own 1, .own 2] 198, .vec 6 L 242, .map 0 M]=>chk (decide (0<=i/\ i<L.length/\ L.length<=100000)) (.ret ⟨some (.tup []),[(1,some (.vec 6 ((vriseN i.toNat (L,M) i.toNat).1) 242)),(2,some (.map 0 ((vriseN i.toNat (L,M) i.toNat).2)))]⟩)
 |_,_=> .fail
theorem vriseOk:ConOk R Tryz.prog 173 vriseCon:=con_of_fn R (X6) (good (X6) rfl (TabOk.con R X6Ok)) mixed Tryz.call173 Tryz.func173 vriseCon (by
 intro args cs K h
 unfold vriseCon at h
 split at h
 ·rename_i i L M
  rw [Tree.holds_chk] at h
  obtain ⟨hp,h⟩:=h
  refine ⟨(vriseA L M i),_,fun v S hv=>⟨_,h,hv⟩, ?_⟩
  rw [vriseVc L M i]
  exact vriseHolds L M i (of_decide_eq_true hp)
 ·exact h.elim)
noncomputable def vsinkA (L:List VThing) (M:List (Int×Int)) (i:Int):Ann T O:=annOf [(0, { σ:=Nat×List VThing×List (Int×Int),st:=fun S x=>(((S.keep [0]).int 1 x.1).chunk 1 (.vec 6 x.2.1 242)).chunk 2 (.map 0 x.2.2),inv:=fun _ x=>x.1<L.length/\ x.2.1.length=L.length/\ vsinkN (L.length-i.toNat) (L,M) i.toNat=vsinkN (L.length-x.1) x.2 x.1,m:=fun x=>L.length-x.1 }),
 (2, { σ:=Nat,st:=fun S x=>((S.keep [0,1]).int 5 (2*S.gi 1+1+x)).int 4 (vfirstAt (S.cv 1 6) (S.gi 1).toNat x),inv:=fun S x=>x<=2/\ (x=0 \/2*(S.gi 1).toNat+x<L.length),m:=fun x=>2-x })] []
noncomputable def vsinkE0 (L:List VThing) (M:List (Int×Int)) (i:Int):Eff T O:=⟨some (.tup []),[(1,some (.vec 6 ((vsinkN (L.length-i.toNat) (L,M) i.toNat).1) 242)),(2,some (.map 0 ((vsinkN (L.length-i.toNat) (L,M) i.toNat).2)))]⟩
def vsinkText (L:List VThing) (M:List (Int×Int)) (i:Int):Prop:=let q7:=(True/\ (True/\ (True/\ True)));((∃x:Nat×List VThing×List (Int×Int),let q4:=((x.fst<L.length)/\ ((x.snd.fst.length=L.length)/\ (vsinkN (L.length-i.toNat) (L,M) i.toNat=vsinkN (L.length-x.fst) x.snd x.fst)));(q4/\ ((True/\ (((↑x.fst:Int)=i)/\ True))/\ (q7/\ ((x.snd.fst=L)/\ ((x.snd.snd=M)/\ True))))))/\ (∀x:Nat×List VThing×List (Int×Int),let q2:=(q7/\ ((x.snd.fst=x.snd.fst)/\ ((x.snd.snd=x.snd.snd)/\ True)));let q4:=((x.fst<L.length)/\ ((x.snd.fst.length=L.length)/\ (vsinkN (L.length-i.toNat) (L,M) i.toNat=vsinkN (L.length-x.fst) x.snd x.fst)));let q8:=((↑x.fst:Int)=(↑x.fst:Int));(q4->((∃x1:Nat,let q1:=(vfirstAt x.snd.fst (↑x.fst:Int).toNat x1);let q5:=((x1<=(2:Nat))/\ (x1=(0:Nat) \/(2:Nat)*(↑x.fst:Int).toNat+x1<L.length));(q5/\ ((True/\ (q8/\ (((↑q1:Int)=(↑x.fst:Int))/\ (((2:Int)*(↑x.fst:Int)+(1:Int)+(↑x1:Int)=IntKind.i64.wrap (IntKind.i64.wrap ((2:Int)*(↑x.fst:Int))+(1:Int)))/\ True))))/\ q2)))/\ (∀x1:Nat,let q1:=(vfirstAt x.snd.fst (↑x.fst:Int).toNat x1);let q0:=(match ((↑q1:Int)==(↑x.fst:Int)) with|true=>((True/\ True)/\ (q7/\ (((vsinkN (L.length-i.toNat) (L,M) i.toNat).fst=x.snd.fst)/\ (((vsinkN (L.length-i.toNat) (L,M) i.toNat).snd=x.snd.snd)/\ True))))|false=>(match (decide ((0:Int)<=(↑x.fst:Int)/\ (↑x.fst:Int)<(↑x.snd.fst.length:Int)/\ (0:Int)<=(↑q1:Int)/\ (↑q1:Int)<(↑x.snd.fst.length:Int))) with|true=>(∃x':Nat×List VThing×List (Int×Int),(((x'.fst<L.length)/\ ((x'.snd.fst.length=L.length)/\ (vsinkN (L.length-i.toNat) (L,M) i.toNat=vsinkN (L.length-x'.fst) x'.snd x'.fst)))/\ ((L.length-x'.fst<L.length-x.fst)/\ ((True/\ (((↑x'.fst:Int)=(↑q1:Int))/\ True))/\ (q7/\ ((x'.snd.fst=vswapL x.snd.fst (↑x.fst:Int) (↑q1:Int))/\ ((x'.snd.snd=vswapM x.snd.fst x.snd.snd (↑x.fst:Int) (↑q1:Int))/\ True)))))))|false=>False));let q5:=((x1<=(2:Nat))/\ (x1=(0:Nat) \/(2:Nat)*(↑x.fst:Int).toNat+x1<L.length));(q5->(match (decide ((2:Int)*(↑x.fst:Int)+(1:Int)+(↑x1:Int)<=IntKind.i64.wrap (IntKind.i64.wrap ((2:Int)*(↑x.fst:Int))+(2:Int)))) with|true=>(match (decide ((2:Int)*(↑x.fst:Int)+(1:Int)+(↑x1:Int)<(↑x.snd.fst.length:Int))) with|true=>(match (decide ((0:Int)<=(2:Int)*(↑x.fst:Int)+(1:Int)+(↑x1:Int)/\ (2:Int)*(↑x.fst:Int)+(1:Int)+(↑x1:Int)<(↑x.snd.fst.length:Int)/\ (0:Int)<=(↑q1:Int)/\ (↑q1:Int)<(↑x.snd.fst.length:Int))) with|true=>(match (vaheadA x.snd.fst ((2:Int)*(↑x.fst:Int)+(1:Int)+(↑x1:Int)) (↑q1:Int)) with|true=>(∃x':Nat,let q3:=(((2:Int)*(↑x.fst:Int)+(1:Int)+(↑x':Int)=IntKind.i64.wrap ((2:Int)*(↑x.fst:Int)+(1:Int)+(↑x1:Int)+(1:Int)))/\ True);let q6:=((x'<=(2:Nat))/\ (x'=(0:Nat) \/(2:Nat)*(↑x.fst:Int).toNat+x'<L.length));(q6/\ (((2:Nat)-x'<(2:Nat)-x1)/\ ((True/\ (q8/\ (((↑(vfirstAt x.snd.fst (↑x.fst:Int).toNat x'):Int)=(2:Int)*(↑x.fst:Int)+(1:Int)+(↑x1:Int))/\ q3)))/\ q2))))|false=>(∃x':Nat,let q3:=(((2:Int)*(↑x.fst:Int)+(1:Int)+(↑x':Int)=IntKind.i64.wrap ((2:Int)*(↑x.fst:Int)+(1:Int)+(↑x1:Int)+(1:Int)))/\ True);let q6:=((x'<=(2:Nat))/\ (x'=(0:Nat) \/(2:Nat)*(↑x.fst:Int).toNat+x'<L.length));(q6/\ (((2:Nat)-x'<(2:Nat)-x1)/\ ((True/\ (q8/\ (((↑(vfirstAt x.snd.fst (↑x.fst:Int).toNat x'):Int)=(↑q1:Int))/\ q3)))/\ q2)))))|false=>False)|false=>q0)|false=>q0)))))))
theorem vsinkVc (L:List VThing) (M:List (Int×Int)) (i:Int):fnX X6 ((vsinkA L M i)) Tryz.f191 [.ptr 0 0, .raw (.int .i64 i)] [.cells [.fn 83 [], .own 1, .own 2] 198, .vec 6 L 242, .map 0 M] (ends [.cells [.fn 83 [], .own 1, .own 2] 198, .vec 6 L 242, .map 0 M] (vsinkE0 L M i))=vsinkText L M i:=by kernel_rfl
theorem vsinkHolds (L:List VThing) (M:List (Int×Int)) (i:Int) (hp:0<=i/\ i<L.length/\ L.length<=100000):vsinkText L M i:=by
 unfold vsinkText
 conv=>zeta
 obtain ⟨p0,p1,p2⟩:=hp
 obtain ⟨n,rfl⟩:=Int.eq_ofNat_of_zero_le p0
 rw [Int.toNat_natCast]
 refine ⟨⟨(n,L,M),⟨by dsimp only;omega,rfl,rfl⟩,⟨trivial,rfl,trivial⟩,⟨trivial,trivial,trivial,trivial⟩,rfl,rfl,trivial⟩, ?_⟩
 rintro ⟨x,L1,M1⟩ ⟨hx,hl,hs⟩
 dsimp only at hx hl hs ⊢
 rw [Int.toNat_natCast]
 rw [wrap_id (n:=2*(x:Int)) (by omega) (by omega),wrap_id (n:=2*(x:Int)+1) (by omega) (by omega),wrap_id (n:=2*(x:Int)+2) (by omega) (by omega)]
 obtain ⟨r,hr⟩: ∃r,L.length-x=r+1:=⟨L.length-x-1,by omega⟩
 rw [hr] at hs
 simp only [vsinkN] at hs
 have hx1:x<L1.length:=by omega
 have fin: ∀y,vfirstAt L1 x y=vfirstAt L1 x 2->(match ((vfirstAt L1 x y:Nat):Int)==(x:Int) with
   |true=>(True/\ True)/\ (True/\ True/\ True/\ True)/\ (vsinkN (L.length-n) (L,M) n).1=L1/\ (vsinkN (L.length-n) (L,M) n).2=M1/\ True
   |false=>match decide (0<=(x:Int)/\ (x:Int)<(L1.length:Int)/\ 0<=((vfirstAt L1 x y:Nat):Int)/\ ((vfirstAt L1 x y:Nat):Int)<(L1.length:Int)) with
    |true=> ∃x':Nat×List VThing×List (Int×Int),(x'.1<L.length/\ x'.2.1.length=L.length/\ vsinkN (L.length-n) (L,M) n=vsinkN (L.length-x'.1) x'.2 x'.1)/\ L.length-x'.1<L.length-x/\ (True/\ (x'.1:Int)=((vfirstAt L1 x y:Nat):Int)/\ True)/\ (True/\ True/\ True/\ True)/\ x'.2.1=vswapL L1 (x:Int) ((vfirstAt L1 x y:Nat):Int)/\ x'.2.2=vswapM L1 M1 (x:Int) ((vfirstAt L1 x y:Nat):Int)/\ True
    |false=>False):=by
  intro y hy
  rw [hy]
  have hf:=vfirstAt_lt L1 x hx1 2
  cases hq:vfirstAt L1 x 2==x
  ·have hne:vfirstAt L1 x 2≠x:=by simpa using hq
   have hgt:=(vfirstAt_ge L1 x 2).resolve_left hne
   rw [show (((vfirstAt L1 x 2:Nat):Int)==(x:Int))=false by rw [beq_eq_false_iff_ne];omega,decide_eq_true (⟨by omega,by omega,by omega,by omega⟩:0<=(x:Int)/\ (x:Int)<(L1.length:Int)/\ 0<=((vfirstAt L1 x 2:Nat):Int)/\ ((vfirstAt L1 x 2:Nat):Int)<(L1.length:Int))]
   rw [hq] at hs
   refine ⟨(vfirstAt L1 x 2,vswapL L1 x (vfirstAt L1 x 2:Nat),vswapM L1 M1 x (vfirstAt L1 x 2:Nat)),⟨by dsimp only;omega,by rw [vswapL_length];exact hl, ?_⟩,by dsimp only;omega,⟨trivial,rfl,trivial⟩,⟨trivial,trivial,trivial,trivial⟩,rfl,rfl,trivial⟩
   rw [hs]
   exact vsinkN_fuel _ _ _ _ (by show (vswapL L1 x (vfirstAt L1 x 2:Nat)).length-_<=r;rw [vswapL_length];omega) (by show (vswapL L1 x (vfirstAt L1 x 2:Nat)).length-_<=_;rw [vswapL_length];dsimp only;omega) (by show _<(vswapL L1 x (vfirstAt L1 x 2:Nat)).length;rw [vswapL_length];exact hf)
  ·have he:vfirstAt L1 x 2=x:=by simpa using hq
   rw [show (((vfirstAt L1 x 2:Nat):Int)==(x:Int))=true by rw [beq_iff_eq];omega]
   rw [hq] at hs
   rw [hs]
   exact ⟨⟨trivial,trivial⟩,⟨trivial,trivial,trivial,trivial⟩,rfl,rfl,trivial⟩
 refine ⟨⟨0,⟨by omega, .inl rfl⟩,⟨trivial,rfl,rfl,by omega,trivial⟩,⟨trivial,trivial,trivial,trivial⟩,rfl,rfl,trivial⟩, ?_⟩
 rintro y ⟨hy,hy2⟩
 by_cases g:y<2
 ·rw [show decide (2*(x:Int)+1+(y:Int)<=2*(x:Int)+2)=true from decide_eq_true (by omega)]
  by_cases g2:2*x+1+y<L1.length
  ·have ec:2*(x:Int)+1+(y:Int)=((2*x+1+y:Nat):Int):=by omega
   have hf:=vfirstAt_lt L1 x hx1 y
   rw [show decide (2*(x:Int)+1+(y:Int)<(L1.length:Int))=true from decide_eq_true (by omega),show decide (0<=2*(x:Int)+1+(y:Int)/\ 2*(x:Int)+1+(y:Int)<(L1.length:Int)/\ 0<=((vfirstAt L1 x y:Nat):Int)/\ ((vfirstAt L1 x y:Nat):Int)<(L1.length:Int))=true from decide_eq_true ⟨by omega,by omega,by omega,by omega⟩]
   rw [wrap_id (n:=2*(x:Int)+1+(y:Int)+1) (by omega) (by omega)]
   have hstep:vfirstAt L1 x (y+1)=bif vaheadA L1 (2*(x:Int)+1+(y:Int)) ((vfirstAt L1 x y:Nat):Int) then 2*x+1+y else vfirstAt L1 x y:=by
    rw [ec]
    simp only [vfirstAt]
    rw [decide_eq_true g2,Bool.true_and]
   cases ha:vaheadA L1 (2*(x:Int)+1+(y:Int)) ((vfirstAt L1 x y:Nat):Int)
   ·rw [ha] at hstep
    exact ⟨y+1,⟨by omega, .inr (by omega)⟩,by omega,⟨trivial,rfl,by rw [hstep];rfl,by omega,trivial⟩,⟨trivial,trivial,trivial,trivial⟩,rfl,rfl,trivial⟩
   ·rw [ha] at hstep
    exact ⟨y+1,⟨by omega, .inr (by omega)⟩,by omega,⟨trivial,rfl,by rw [hstep];show ((2*x+1+y:Nat):Int)=_;omega,by omega,trivial⟩,⟨trivial,trivial,trivial,trivial⟩,rfl,rfl,trivial⟩
  ·rw [show decide (2*(x:Int)+1+(y:Int)<(L1.length:Int))=false from decide_eq_false (by omega)]
   exact fin y (vfirstAt_end L1 x y (by omega) 2 (by omega)).symm
 ·have e:y=2:=by omega
  subst e
  rw [show decide (2*(x:Int)+1+((2:Nat):Int)<=2*(x:Int)+2)=false from decide_eq_false (by omega)]
  exact fin 2 rfl
noncomputable def vsinkCon:Con T O:=fun args cs=>match args,cs with
 |[.ptr 0 0, .raw (.int .i64 i)],[.cells [.fn 83 [], .own 1, .own 2] 198, .vec 6 L 242, .map 0 M]=>chk (decide (0<=i/\ i<L.length/\ L.length<=100000)) (.ret (vsinkE0 L M i))
 |_,_=> .fail
theorem vsinkOk:ConOk R Tryz.prog 191 vsinkCon:=con_of_fn R (X6) (good (X6) rfl (TabOk.con R X6Ok)) mixed Tryz.call191 Tryz.func191 vsinkCon (by
 intro args cs K h
 unfold vsinkCon at h
 split at h
 ·rename_i i L M
  rw [Tree.holds_chk] at h
  obtain ⟨hp,h⟩:=h
  refine ⟨(vsinkA L M i),_,fun v S hv=>⟨_,h,hv⟩, ?_⟩
  rw [vsinkVc L M i]
  exact vsinkHolds L M i (of_decide_eq_true hp)
 ·exact h.elim)
noncomputable def tab7:Tab T O:=(173,vriseCon)::(191,vsinkCon)::tab6
theorem tabOk7:TabOk R Tryz.prog tab7:=TabOk.cons R vriseOk<|TabOk.cons R vsinkOk<|tabOk6
noncomputable def X7:Ctx T O:= { X0 with con:=conOf tab7 }
theorem X7Ok:TabOk R X7.P tab7:=tabOk7
end Go.Proofs.YtlfjbnflfdnoaaaGreat
namespace Go.Proofs.YtlfjbnflfdnoaaaGreat
open Go.Sx Go.Proofs Classical
def vtakeH (s:vHS) (i:Nat):vHS:=
 bif decide (i<s.1.length-1) then
  vsinkN (s.1.length-1-i) (vriseN i ((vswapL s.1 i (s.1.length-1:Nat)).take (s.1.length-1),mdel (at' vtz s.1 i).Id (vswapM s.1 s.2 i (s.1.length-1:Nat))) i) i
 else ((vswapL s.1 i (s.1.length-1:Nat)).take (s.1.length-1),mdel (at' vtz s.1 i).Id (vswapM s.1 s.2 i (s.1.length-1:Nat)))
theorem vriseN_length: ∀(n:Nat) (s:vHS) (i:Nat),(vriseN n s i).1.length=s.1.length
 |0,_,_=>rfl
 |n+1,s,i=>by
  simp only [vriseN]
  cases decide (0<i)&&vaheadA s.1 i (vup i)
  ·rfl
  ·simp only [cond_true]
   rw [vriseN_length n]
   exact vswapL_length _ _ _
def vthereB (id:Int) (M:List (Int×Int)):Bool:=(mget id M).isSome
def vwhereI (id:Int) (M:List (Int×Int)):Int:=(mget id M).getD 0
theorem vslOk_cut {k n:Nat} (h:k<=n):slOk none (some (k:Int)) none (n:Int)=true:=by simp [slOk,optB];omega
def vnoThings:List VThing:=[]
def vnoPlaces:List (Int×Int):=[]
noncomputable def vtakeE0 (L:List VThing) (M:List (Int×Int)) (i:Int):Eff T O:=⟨some (.agg [.raw (.int .i64 (at' vtz L i).Id), .raw (.int .i64 (at' vtz L i).XAt), .raw (.int .i64 (at' vtz L i).XID), .raw (.int .i64 (at' vtz L i).XKind)]),[(0,some (.cells [.fn 83 [], .own 3, .own 2] 198)),(1,none),(2,some (.map 0 (vtakeH (L,M) i.toNat).2)),(3,some (.vec 6 (vtakeH (L,M) i.toNat).1 242))]⟩
def vtakeText (L:List VThing) (M:List (Int×Int)) (i:Int):Prop:=let q4:=((↑L.length:Int)-(1:Int));let q1:=(IntKind.i64.wrap q4);let q3:=(at' vThingE.zero L i);let q0:=(vriseN i.toNat (cutL none (some q1) (vswapL L i q1),mdel q3.Id (vswapM L M i q1)) i.toNat);let q2:=((((at' vtz L i).Id=q3.Id)/\ (((at' vtz L i).XAt=q3.XAt)/\ (((at' vtz L i).XID=q3.XID)/\ (((at' vtz L i).XKind=q3.XKind)/\ True))))/\ True);let q5:=(vtakeH (L,M) i.toNat);(match (inb i L.length) with|true=>(match (inb i L.length) with|true=>(match (decide ((0:Int)<=i/\ i<(↑L.length:Int)/\ (0:Int)<=IntKind.i64.wrap q4/\ IntKind.i64.wrap q4<(↑L.length:Int))) with|true=>(match (slOk none (some q1) none (↑(vswapL L i q1).length:Int)&&decide (optB none (0:Int)=(0:Int))) with|true=>(match (decide (i<IntKind.i64.wrap q4)) with|true=>(match (decide ((0:Int)<=i/\ i<(↑(cutL none (some q1) (vswapL L i q1)).length:Int)/\ (cutL none (some q1) (vswapL L i q1)).length<=(100000:Nat))) with|true=>(match (decide ((0:Int)<=i/\ i<(↑q0.fst.length:Int)/\ q0.fst.length<=(100000:Nat))) with|true=>(q2/\ ((True/\ (True/\ (True/\ True)))/\ ((q5.snd=(vsinkN (q0.fst.length-i.toNat) q0 i.toNat).snd)/\ ((q5.fst=(vsinkN (q0.fst.length-i.toNat) q0 i.toNat).fst)/\ True))))|false=>False)|false=>False)|false=>(q2/\ ((True/\ (True/\ (True/\ True)))/\ ((q5.snd=mdel q3.Id (vswapM L M i q1))/\ ((q5.fst=cutL none (some q1) (vswapL L i q1))/\ True)))))|false=>False)|false=>False)|false=>False)|false=>False)
theorem vtakeVc (L:List VThing) (M:List (Int×Int)) (i:Int):fnX X7 (noAnn) Tryz.f171 [.ptr 0 0, .raw (.int .i64 i)] [.cells [.fn 83 [], .own 1, .own 2] 198, .vec 6 L 242, .map 0 M] (ends [.cells [.fn 83 [], .own 1, .own 2] 198, .vec 6 L 242, .map 0 M] (vtakeE0 L M i))=vtakeText L M i:=by kernel_rfl
theorem vtakeHolds (L:List VThing) (M:List (Int×Int)) (i:Int) (hp:0<=i/\ i<L.length/\ L.length<=100000):vtakeText L M i:=by
 unfold vtakeText
 conv=>zeta
 obtain ⟨p0,p1,p2⟩:=hp
 obtain ⟨n,rfl⟩:=Int.eq_ofNat_of_zero_le p0
 have hn:n<L.length:=by omega
 have ew:IntKind.i64.wrap ((L.length:Int)-1)=((L.length-1:Nat):Int):=by rw [wrap_id (by omega) (by omega)];omega
 have ec:cutL none (some ((L.length-1:Nat):Int)) (vswapL L n (L.length-1:Nat))=(vswapL L n (L.length-1:Nat)).take (L.length-1):=by simp [cutL,optB]
 rw [Int.toNat_natCast,ew,ec,inb_nat hn]
 rw [show decide (0<=(n:Int)/\ (n:Int)<(L.length:Int)/\ 0<=((L.length-1:Nat):Int)/\ ((L.length-1:Nat):Int)<(L.length:Int))=true from decide_eq_true ⟨by omega,by omega,by omega,by omega⟩]
 rw [show (slOk none (some ((L.length-1:Nat):Int)) none ((vswapL L n (L.length-1:Nat)).length:Int)&&decide (optB none 0=0))=true by
  rw [vswapL_length,vslOk_cut (by omega)]
  rfl]
 have el:((vswapL L n (L.length-1:Nat)).take (L.length-1)).length=L.length-1:=by rw [List.length_take,vswapL_length];omega
 by_cases h:n<L.length-1
 ·have eq:vtakeH (L,M) n=vsinkN (L.length-1-n) (vriseN n ((vswapL L n (L.length-1:Nat)).take (L.length-1),mdel (at' vtz L n).Id (vswapM L M n (L.length-1:Nat))) n) n:=by
   unfold vtakeH
   rw [decide_eq_true (show n<(L,M).1.length-1 from h)]
   rfl
  rw [vriseN_length]
  dsimp only
  rw [el,show decide ((n:Int)<((L.length-1:Nat):Int))=true from decide_eq_true (by omega),show decide (0<=(n:Int)/\ (n:Int)<((L.length-1:Nat):Int)/\ L.length-1<=100000)=true from decide_eq_true ⟨by omega,by omega,by omega⟩]
  rw [eq]
  repeat' first|trivial|rfl|apply And.intro
 ·have eq:vtakeH (L,M) n=((vswapL L n (L.length-1:Nat)).take (L.length-1),mdel (at' vtz L n).Id (vswapM L M n (L.length-1:Nat))):=by
   unfold vtakeH
   rw [decide_eq_false (show ¬n<(L,M).1.length-1 from h)]
   rfl
  rw [show decide ((n:Int)<((L.length-1:Nat):Int))=false from decide_eq_false (by omega)]
  rw [eq]
  repeat' first|trivial|rfl|apply And.intro
noncomputable def vtakeCon:Con T O:=fun args cs=>match args,cs with
 |[.ptr 0 0, .raw (.int .i64 i)],[.cells [.fn 83 [], .own 1, .own 2] 198, .vec 6 L 242, .map 0 M]=>chk (decide (0<=i/\ i<L.length/\ L.length<=100000)) (.ret (vtakeE0 L M i))
 |_,_=> .fail
theorem vtakeOk:ConOk R Tryz.prog 171 vtakeCon:=con_of_fn R (X7) (good (X7) rfl (TabOk.con R X7Ok)) mixed Tryz.call171 Tryz.func171 vtakeCon (by
 intro args cs K h
 unfold vtakeCon at h
 split at h
 ·rename_i i L M
  rw [Tree.holds_chk] at h
  obtain ⟨hp,h⟩:=h
  refine ⟨noAnn,_,fun v S hv=>⟨_,h,hv⟩, ?_⟩
  rw [vtakeVc L M i]
  exact vtakeHolds L M i (of_decide_eq_true hp)
 ·exact h.elim)
def vlenHText (L:List VThing) (M:List (Int×Int)):Prop:=((((↑L.length:Int)=(↑L.length:Int))/\ True)/\ ((True/\ (True/\ (True/\ True)))/\ ((L=L)/\ ((M=M)/\ True))))
theorem vlenHVc (L:List VThing) (M:List (Int×Int)):fnX X7 (noAnn) Tryz.f175 [.ptr 0 0] [.cells [.fn 83 [], .own 1, .own 2] 198, .vec 6 L 242, .map 0 M] (ends [.cells [.fn 83 [], .own 1, .own 2] 198, .vec 6 L 242, .map 0 M] ⟨some (.raw (.int .i64 L.length)),[(1,some (.vec 6 (L) 242)),(2,some (.map 0 (M)))]⟩)=vlenHText L M:=by kernel_rfl
theorem vlenHHolds (L:List VThing) (M:List (Int×Int)):vlenHText L M:=by
 unfold vlenHText
 exact ⟨⟨rfl,trivial⟩,⟨trivial,trivial,trivial,trivial⟩,rfl,rfl,trivial⟩
noncomputable def vlenHCon:Con T O:=fun args cs=>match args,cs with
 |[.ptr 0 0],[.cells [.fn 83 [], .own 1, .own 2] 198, .vec 6 L 242, .map 0 M]=> .ret ⟨some (.raw (.int .i64 L.length)),[(1,some (.vec 6 (L) 242)),(2,some (.map 0 (M)))]⟩
 |_,_=> .fail
theorem vlenHOk:ConOk R Tryz.prog 175 vlenHCon:=con_of_fn R (X7) (good (X7) rfl (TabOk.con R X7Ok)) mixed Tryz.call175 Tryz.func175 vlenHCon (by
 intro args cs K h
 unfold vlenHCon at h
 split at h
 ·rename_i L M
  refine ⟨noAnn,_,fun v S hv=>⟨_,h,hv⟩, ?_⟩
  rw [vlenHVc L M]
  exact vlenHHolds L M
 ·exact h.elim)
def vnewHText:Prop:=((True/\ True)/\ ((True/\ (True/\ (True/\ True)))/\ ((vnoThings=[])/\ ((vnoPlaces=[])/\ True))))
theorem vnewHVc:fnX X7 (noAnn) Tryz.f82 [.fn 83 []] [] (ends [] ⟨some (.ptr 0 0),[(0,some (.cells [.fn 83 [], .own 1, .own 2] 198)),(1,some (.vec 6 vnoThings 242)),(2,some (.map 0 vnoPlaces))]⟩)=vnewHText:=by kernel_rfl
theorem vnewHHolds:vnewHText:=by
 unfold vnewHText
 exact ⟨⟨trivial,trivial⟩,⟨trivial,trivial,trivial,trivial⟩,rfl,rfl,trivial⟩
noncomputable def vnewHCon:Con T O:=fun args cs=>match args,cs with
 |[.fn 83 []],[]=> .ret ⟨some (.ptr 0 0),[(0,some (.cells [.fn 83 [], .own 1, .own 2] 198)),(1,some (.vec 6 vnoThings 242)),(2,some (.map 0 vnoPlaces))]⟩
 |_,_=> .fail
theorem vnewHOk:ConOk R Tryz.prog 82 vnewHCon:=con_of_fn R (X7) (good (X7) rfl (TabOk.con R X7Ok)) mixed Tryz.call82 Tryz.func82 vnewHCon (by
 intro args cs K h
 unfold vnewHCon at h
 split at h
 ·
  refine ⟨noAnn,_,fun v S hv=>⟨_,h,hv⟩, ?_⟩
  rw [vnewHVc]
  exact vnewHHolds
 ·exact h.elim)
noncomputable def tab8:Tab T O:=(171,vtakeCon)::(175,vlenHCon)::(82,vnewHCon)::tab7
theorem tabOk8:TabOk R Tryz.prog tab8:=TabOk.cons R vtakeOk<|TabOk.cons R vlenHOk<|TabOk.cons R vnewHOk<|tabOk7
noncomputable def X8:Ctx T O:= { X0 with con:=conOf tab8 }
theorem X8Ok:TabOk R X8.P tab8:=tabOk8
end Go.Proofs.YtlfjbnflfdnoaaaGreat
namespace Go.Proofs.YtlfjbnflfdnoaaaGreat
open Go.Sx Go.Proofs Classical
def vpushH (s:vHS) (id:Int) (x:Ev):vHS:=vriseN s.1.length (s.1++[vthing id x],mput id s.1.length s.2) s.1.length
noncomputable def vpushCE1 (L:List VThing) (M:List (Int×Int)) (id:Int) (x:Ev):Eff T O:=⟨some (.raw (.bool true)),[(0,some (.cells [.fn 83 [], .own 3, .own 2] 198)),(1,none),(2,some (.map 0 (vpushH (L,M) id x).2)),(3,some (.vec 6 (vpushH (L,M) id x).1 242))]⟩
def vpushCText (L:List VThing) (M:List (Int×Int)) (id:Int) (x:Ev):Prop:=let q2:=(L++[VThing.mk id x.At x.ID x.Kind]);let q1:=((↑q2.length:Int)-(1:Int));let q0:=(vriseN (IntKind.i64.wrap q1).toNat (L++[VThing.mk id x.At x.ID x.Kind],mput id (↑L.length:Int) M) (IntKind.i64.wrap q1).toNat);let q3:=(True/\ (True/\ (True/\ True)));(match ((mget id M).isSome) with|true=>(match (vthereB id M) with|true=>(((false=false)/\ True)/\ (q3/\ ((L=L)/\ ((M=M)/\ True))))|false=>(((true=false)/\ True)/\ (q3/\ (((vpushH (L,M) id x).snd=M)/\ (((vpushH (L,M) id x).fst=L)/\ True)))))|false=>(match (roomy (L.length+(1:Nat)) (nat_lit 32)) with|true=>(match (decide ((0:Int)<=IntKind.i64.wrap q1/\ IntKind.i64.wrap q1<(↑q2.length:Int)/\ q2.length<=(100000:Nat))) with|true=>(match (vthereB id M) with|true=>(((false=true)/\ True)/\ ((True/\ (False/\ (True/\ True)))/\ (False/\ ((M=q0.snd)/\ True))))|false=>(((true=true)/\ True)/\ (q3/\ (((vpushH (L,M) id x).snd=q0.snd)/\ (((vpushH (L,M) id x).fst=q0.fst)/\ True)))))|false=>False)|false=>False))
theorem vpushCVc (L:List VThing) (M:List (Int×Int)) (id:Int) (x:Ev):fnX X8 (noAnn) Tryz.f145 [.ptr 0 0, .raw (.int .i64 id), .agg [.raw (.int .i64 x.At), .raw (.int .i64 x.ID), .raw (.int .i64 x.Kind)]] [.cells [.fn 83 [], .own 1, .own 2] 198, .vec 6 L 242, .map 0 M] (endsIf (vthereB id M) [.cells [.fn 83 [], .own 1, .own 2] 198, .vec 6 L 242, .map 0 M] ⟨some (.raw (.bool false)),[(1,some (.vec 6 (L) 242)),(2,some (.map 0 (M)))]⟩ (vpushCE1 L M id x))=vpushCText L M id x:=by kernel_rfl
theorem vpushCHolds (L:List VThing) (M:List (Int×Int)) (id:Int) (x:Ev) (hp:L.length<=1000):vpushCText L M id x:=by
 unfold vpushCText
 conv=>zeta
 have el:(L++[VThing.mk id x.At x.ID x.Kind]).length=L.length+1:=by simp
 have ew:IntKind.i64.wrap (((L++[VThing.mk id x.At x.ID x.Kind]).length:Int)-1)=(L.length:Int):=by rw [el,wrap_id (by omega) (by omega)];omega
 cases h:vthereB id M
 ·rw [show (mget id M).isSome=false from h,show roomy (L.length+1) 32=true by simp [roomy];omega,ew]
  rw [show decide ((0:Int)<=(L.length:Int)/\ (L.length:Int)<((L++[VThing.mk id x.At x.ID x.Kind]).length:Int)/\ (L++[VThing.mk id x.At x.ID x.Kind]).length<=(100000:Nat))=true from decide_eq_true (by rw [el];omega)]
  rw [Int.toNat_natCast]
  repeat' first|trivial|rfl|apply And.intro
 ·rw [show (mget id M).isSome=true from h]
  repeat' first|trivial|rfl|apply And.intro
noncomputable def vpushCCon:Con T O:=fun args cs=>match args,cs with
 |[.ptr 0 0, .raw (.int .i64 id), .agg [.raw (.int .i64 x_0), .raw (.int .i64 x_1), .raw (.int .i64 x_2)]],[.cells [.fn 83 [], .own 1, .own 2] 198, .vec 6 L 242, .map 0 M]=>chk (decide (L.length<=1000)) (.ite (vthereB id M) (.ret ⟨some (.raw (.bool false)),[(1,some (.vec 6 (L) 242)),(2,some (.map 0 (M)))]⟩) (.ret (vpushCE1 L M id (⟨x_0,x_1,x_2⟩:Ev))))
 |_,_=> .fail
theorem vpushCOk:ConOk R Tryz.prog 145 vpushCCon:=con_of_fn R (X8) (good (X8) rfl (TabOk.con R X8Ok)) mixed Tryz.call145 Tryz.func145 vpushCCon (by
 intro args cs K h
 unfold vpushCCon at h
 split at h
 ·rename_i id x_0 x_1 x_2 L M
  rw [Tree.holds_chk] at h
  obtain ⟨hp,h⟩:=h
  refine ⟨noAnn,_,fun v S hv=>holds_if h v S hv, ?_⟩
  rw [vpushCVc L M id (⟨x_0,x_1,x_2⟩:Ev)]
  exact vpushCHolds L M id (⟨x_0,x_1,x_2⟩:Ev) (of_decide_eq_true hp)
 ·exact h.elim)
noncomputable def vpopCE0 (L:List VThing) (M:List (Int×Int)):Eff T O:=⟨some (.tup [.raw (.int .i64 0), .agg [.raw (.int .i64 0), .raw (.int .i64 0), .raw (.int .i64 0)], .raw (.bool false)]),[(1,some (.vec 6 (L) 242)),(2,some (.map 0 (M)))]⟩
noncomputable def vpopCE1 (L:List VThing) (M:List (Int×Int)):Eff T O:=⟨some (.tup [.raw (.int .i64 (at' vtz L 0).Id), .agg [.raw (.int .i64 (at' vtz L 0).XAt), .raw (.int .i64 (at' vtz L 0).XID), .raw (.int .i64 (at' vtz L 0).XKind)], .raw (.bool true)]),[(0,some (.cells [.fn 83 [], .own 3, .own 2] 198)),(1,none),(2,some (.map 0 (vtakeH (L,M) 0).2)),(3,some (.vec 6 (vtakeH (L,M) 0).1 242))]⟩
def vpopCText (L:List VThing) (M:List (Int×Int)):Prop:=let q0:=(vtakeH (L,M) (Int.toNat (0:Int)));let q1:=(vtakeH (L,M) (0:Nat));let q2:=((0:Int)=(0:Int));let q3:=(True/\ (True/\ (True/\ True)));(match ((↑L.length:Int)==(0:Int)) with|true=>(match (L.length==(0:Nat)) with|true=>(((q2/\ ((q2/\ (q2/\ (q2/\ True)))/\ ((false=false)/\ True)))/\ True)/\ (q3/\ ((L=L)/\ ((M=M)/\ True))))|false=>(((((at' vtz L (0:Int)).Id=(0:Int))/\ ((((at' vtz L (0:Int)).XAt=(0:Int))/\ (((at' vtz L (0:Int)).XID=(0:Int))/\ (((at' vtz L (0:Int)).XKind=(0:Int))/\ True)))/\ ((true=false)/\ True)))/\ True)/\ (q3/\ ((q1.snd=M)/\ ((q1.fst=L)/\ True)))))|false=>(match (decide ((0:Int)<=(0:Int)/\ (0:Int)<(↑L.length:Int)/\ L.length<=(100000:Nat))) with|true=>(match (L.length==(0:Nat)) with|true=>(((((0:Int)=(at' vtz L (0:Int)).Id)/\ ((((0:Int)=(at' vtz L (0:Int)).XAt)/\ (((0:Int)=(at' vtz L (0:Int)).XID)/\ (((0:Int)=(at' vtz L (0:Int)).XKind)/\ True)))/\ ((false=true)/\ True)))/\ True)/\ ((True/\ (False/\ (True/\ True)))/\ (False/\ ((M=q0.snd)/\ True))))|false=>(((((at' vtz L (0:Int)).Id=(at' vtz L (0:Int)).Id)/\ ((((at' vtz L (0:Int)).XAt=(at' vtz L (0:Int)).XAt)/\ (((at' vtz L (0:Int)).XID=(at' vtz L (0:Int)).XID)/\ (((at' vtz L (0:Int)).XKind=(at' vtz L (0:Int)).XKind)/\ True)))/\ ((true=true)/\ True)))/\ True)/\ (q3/\ ((q1.snd=q0.snd)/\ ((q1.fst=q0.fst)/\ True)))))|false=>False))
theorem vpopCVc (L:List VThing) (M:List (Int×Int)):fnX X8 (noAnn) Tryz.f147 [.ptr 0 0] [.cells [.fn 83 [], .own 1, .own 2] 198, .vec 6 L 242, .map 0 M] (endsIf (L.length==0) [.cells [.fn 83 [], .own 1, .own 2] 198, .vec 6 L 242, .map 0 M] (vpopCE0 L M) (vpopCE1 L M))=vpopCText L M:=by kernel_rfl
theorem vpopCHolds (L:List VThing) (M:List (Int×Int)) (hp:L.length<=1000):vpopCText L M:=by
 unfold vpopCText
 conv=>zeta
 cases h:L.length==0
 ·have h0:L.length≠0:=by simpa using h
  rw [show ((L.length:Int)==(0:Int))=false by rw [beq_eq_false_iff_ne];omega,show decide ((0:Int)<=(0:Int)/\ (0:Int)<(L.length:Int)/\ L.length<=(100000:Nat))=true from decide_eq_true ⟨by omega,by omega,by omega⟩]
  repeat' first|trivial|rfl|apply And.intro
 ·have h0:L.length=0:=by simpa using h
  rw [show ((L.length:Int)==(0:Int))=true by rw [beq_iff_eq];omega]
  repeat' first|trivial|rfl|apply And.intro
noncomputable def vpopCCon:Con T O:=fun args cs=>match args,cs with
 |[.ptr 0 0],[.cells [.fn 83 [], .own 1, .own 2] 198, .vec 6 L 242, .map 0 M]=>chk (decide (L.length<=1000)) (.ite (L.length==0) (.ret (vpopCE0 L M)) (.ret (vpopCE1 L M)))
 |_,_=> .fail
theorem vpopCOk:ConOk R Tryz.prog 147 vpopCCon:=con_of_fn R (X8) (good (X8) rfl (TabOk.con R X8Ok)) mixed Tryz.call147 Tryz.func147 vpopCCon (by
 intro args cs K h
 unfold vpopCCon at h
 split at h
 ·rename_i L M
  rw [Tree.holds_chk] at h
  obtain ⟨hp,h⟩:=h
  refine ⟨noAnn,_,fun v S hv=>holds_if h v S hv, ?_⟩
  rw [vpopCVc L M]
  exact vpopCHolds L M (of_decide_eq_true hp)
 ·exact h.elim)
noncomputable def vminCE0 (L:List VThing) (M:List (Int×Int)):Eff T O:=⟨some (.tup [.raw (.int .i64 (bif L.length==0 then 0 else (at' vtz L 0).Id)), .agg [.raw (.int .i64 (bif L.length==0 then 0 else (at' vtz L 0).XAt)), .raw (.int .i64 (bif L.length==0 then 0 else (at' vtz L 0).XID)), .raw (.int .i64 (bif L.length==0 then 0 else (at' vtz L 0).XKind))], .raw (.bool (!(L.length==0)))]),[(1,some (.vec 6 (L) 242)),(2,some (.map 0 (M)))]⟩
def vminCText (L:List VThing) (M:List (Int×Int)):Prop:=let q0:=(at' vThingE.zero L (0:Int));let q1:=(bif L.length==(0:Nat) then (0:Int) else (at' vtz L (0:Int)).XKind);let q2:=(bif L.length==(0:Nat) then (0:Int) else (at' vtz L (0:Int)).XAt);let q3:=(bif L.length==(0:Nat) then (0:Int) else (at' vtz L (0:Int)).XID);let q4:=(bif L.length==(0:Nat) then (0:Int) else (at' vtz L (0:Int)).Id);let q5:=(inb (0:Int) L.length);let q6:=((True/\ (True/\ (True/\ True)))/\ ((L=L)/\ ((M=M)/\ True)));(match ((↑L.length:Int)==(0:Int)) with|true=>((((q4=(0:Int))/\ (((q2=(0:Int))/\ ((q3=(0:Int))/\ ((q1=(0:Int))/\ True)))/\ (((!L.length==(0:Nat))=false)/\ True)))/\ True)/\ q6)|false=>(match q5 with|true=>(match q5 with|true=>(match q5 with|true=>(match q5 with|true=>((((q4=q0.Id)/\ (((q2=q0.XAt)/\ ((q3=q0.XID)/\ ((q1=q0.XKind)/\ True)))/\ (((!L.length==(0:Nat))=true)/\ True)))/\ True)/\ q6)|false=>False)|false=>False)|false=>False)|false=>False))
theorem vminCVc (L:List VThing) (M:List (Int×Int)):fnX X8 (noAnn) Tryz.f174 [.ptr 0 0] [.cells [.fn 83 [], .own 1, .own 2] 198, .vec 6 L 242, .map 0 M] (ends [.cells [.fn 83 [], .own 1, .own 2] 198, .vec 6 L 242, .map 0 M] (vminCE0 L M))=vminCText L M:=by kernel_rfl
theorem vminCHolds (L:List VThing) (M:List (Int×Int)) (hp:L.length<=1000):vminCText L M:=by
 unfold vminCText
 conv=>zeta
 cases h:L.length==0
 ·have h0:L.length≠0:=by simpa using h
  rw [show ((L.length:Int)==(0:Int))=false by rw [beq_eq_false_iff_ne];omega,show inb (0:Int) L.length=true from inb_iff.2 ⟨by omega,by omega⟩]
  repeat' first|trivial|rfl|apply And.intro
 ·have h0:L.length=0:=by simpa using h
  rw [show ((L.length:Int)==(0:Int))=true by rw [beq_iff_eq];omega]
  repeat' first|trivial|rfl|apply And.intro
noncomputable def vminCCon:Con T O:=fun args cs=>match args,cs with
 |[.ptr 0 0],[.cells [.fn 83 [], .own 1, .own 2] 198, .vec 6 L 242, .map 0 M]=>chk (decide (L.length<=1000)) (.ret (vminCE0 L M))
 |_,_=> .fail
theorem vminCOk:ConOk R Tryz.prog 174 vminCCon:=con_of_fn R (X8) (good (X8) rfl (TabOk.con R X8Ok)) mixed Tryz.call174 Tryz.func174 vminCCon (by
 intro args cs K h
 unfold vminCCon at h
 split at h
 ·rename_i L M
  rw [Tree.holds_chk] at h
  obtain ⟨hp,h⟩:=h
  refine ⟨noAnn,_,fun v S hv=>⟨_,h,hv⟩, ?_⟩
  rw [vminCVc L M]
  exact vminCHolds L M (of_decide_eq_true hp)
 ·exact h.elim)
noncomputable def vremoveCE0 (L:List VThing) (M:List (Int×Int)) (id:Int):Eff T O:=⟨some (.tup [.agg [.raw (.int .i64 (at' vtz L (vwhereI id M)).XAt), .raw (.int .i64 (at' vtz L (vwhereI id M)).XID), .raw (.int .i64 (at' vtz L (vwhereI id M)).XKind)], .raw (.bool true)]),[(0,some (.cells [.fn 83 [], .own 3, .own 2] 198)),(1,none),(2,some (.map 0 (vtakeH (L,M) (vwhereI id M).toNat).2)),(3,some (.vec 6 (vtakeH (L,M) (vwhereI id M).toNat).1 242))]⟩
noncomputable def vremoveCE1 (L:List VThing) (M:List (Int×Int)):Eff T O:=⟨some (.tup [.agg [.raw (.int .i64 0), .raw (.int .i64 0), .raw (.int .i64 0)], .raw (.bool false)]),[(1,some (.vec 6 (L) 242)),(2,some (.map 0 (M)))]⟩
def vremoveCText (L:List VThing) (M:List (Int×Int)) (id:Int):Prop:=let q0:=((mget id M).getD (0:Int));let q1:=(at' vtz L (vwhereI id M));let q2:=(vtakeH (L,M) (vwhereI id M).toNat);let q3:=(True/\ (True/\ (True/\ True)));(match (!(mget id M).isSome) with|true=>(match (vthereB id M) with|true=>(((((q1.XAt=(0:Int))/\ ((q1.XID=(0:Int))/\ ((q1.XKind=(0:Int))/\ True)))/\ ((true=false)/\ True))/\ True)/\ (q3/\ ((q2.snd=M)/\ ((q2.fst=L)/\ True))))|false=>((((((0:Int)=(0:Int))/\ (((0:Int)=(0:Int))/\ (((0:Int)=(0:Int))/\ True)))/\ ((false=false)/\ True))/\ True)/\ (q3/\ ((L=L)/\ ((M=M)/\ True)))))|false=>(match (decide ((0:Int)<=(mget id M).getD (0:Int)/\ (mget id M).getD (0:Int)<(↑L.length:Int)/\ L.length<=(100000:Nat))) with|true=>(match (vthereB id M) with|true=>(((((q1.XAt=(at' vtz L q0).XAt)/\ ((q1.XID=(at' vtz L q0).XID)/\ ((q1.XKind=(at' vtz L q0).XKind)/\ True)))/\ ((true=true)/\ True))/\ True)/\ (q3/\ ((q2.snd=(vtakeH (L,M) (Int.toNat q0)).snd)/\ ((q2.fst=(vtakeH (L,M) (Int.toNat q0)).fst)/\ True))))|false=>((((((0:Int)=(at' vtz L q0).XAt)/\ (((0:Int)=(at' vtz L q0).XID)/\ (((0:Int)=(at' vtz L q0).XKind)/\ True)))/\ ((false=true)/\ True))/\ True)/\ ((True/\ (False/\ (True/\ True)))/\ (False/\ ((M=(vtakeH (L,M) (Int.toNat q0)).snd)/\ True)))))|false=>False))
theorem vremoveCVc (L:List VThing) (M:List (Int×Int)) (id:Int):fnX X8 (noAnn) Tryz.f142 [.ptr 0 0, .raw (.int .i64 id)] [.cells [.fn 83 [], .own 1, .own 2] 198, .vec 6 L 242, .map 0 M] (endsIf (vthereB id M) [.cells [.fn 83 [], .own 1, .own 2] 198, .vec 6 L 242, .map 0 M] (vremoveCE0 L M id) (vremoveCE1 L M))=vremoveCText L M id:=by kernel_rfl
theorem vremoveCHolds (L:List VThing) (M:List (Int×Int)) (id:Int) (hp:L.length<=1000/\ (vthereB id M=true->0<=vwhereI id M/\ vwhereI id M<L.length)):vremoveCText L M id:=by
 unfold vremoveCText
 conv=>zeta
 obtain ⟨h1,h2⟩:=hp
 cases h:vthereB id M
 ·rw [show (mget id M).isSome=false from h]
  repeat' first|trivial|rfl|apply And.intro
 ·obtain ⟨h3,h4⟩:=h2 h
  rw [show (mget id M).isSome=true from h,show decide ((0:Int)<=(mget id M).getD (0:Int)/\ (mget id M).getD (0:Int)<(L.length:Int)/\ L.length<=(100000:Nat))=true from decide_eq_true ⟨h3,h4,by omega⟩]
  repeat' first|trivial|rfl|apply And.intro
noncomputable def vremoveCCon:Con T O:=fun args cs=>match args,cs with
 |[.ptr 0 0, .raw (.int .i64 id)],[.cells [.fn 83 [], .own 1, .own 2] 198, .vec 6 L 242, .map 0 M]=>chk (decide (L.length<=1000/\ (vthereB id M=true->0<=vwhereI id M/\ vwhereI id M<L.length))) (.ite (vthereB id M) (.ret (vremoveCE0 L M id)) (.ret (vremoveCE1 L M)))
 |_,_=> .fail
theorem vremoveCOk:ConOk R Tryz.prog 142 vremoveCCon:=con_of_fn R (X8) (good (X8) rfl (TabOk.con R X8Ok)) mixed Tryz.call142 Tryz.func142 vremoveCCon (by
 intro args cs K h
 unfold vremoveCCon at h
 split at h
 ·rename_i id L M
  rw [Tree.holds_chk] at h
  obtain ⟨hp,h⟩:=h
  refine ⟨noAnn,_,fun v S hv=>holds_if h v S hv, ?_⟩
  rw [vremoveCVc L M id]
  exact vremoveCHolds L M id (of_decide_eq_true hp)
 ·exact h.elim)
noncomputable def tab9:Tab T O:=(145,vpushCCon)::(147,vpopCCon)::(174,vminCCon)::(142,vremoveCCon)::tab8
theorem tabOk9:TabOk R Tryz.prog tab9:=TabOk.cons R vpushCOk<|TabOk.cons R vpopCOk<|TabOk.cons R vminCOk<|TabOk.cons R vremoveCOk<|tabOk8
end Go.Proofs.YtlfjbnflfdnoaaaGreat
namespace Go.Proofs.YtlfjbnflfdnoaaaGreat
open Go.Sx Go.Proofs Classical
theorem vmget_mem {α:Type} {k:Int} {a:α}: ∀ {L:List (Int×α)},mget k L=some a->(k,a)∈L
 |[],h=>by cases h
 |(i,b)::L,h=>by
  simp only [mget] at h
  by_cases e:i=k
  ·rw [if_pos e] at h
   simp only [Option.some.injEq] at h
   subst h;subst e
   simp
  ·rw [if_neg e] at h
   simp [vmget_mem h]
theorem vmget_del {α:Type} (k j:Int): ∀L:List (Int×α),(L.map (·.1)).Nodup->mget j (mdel k L)=if j=k then none else mget j L
 |[],_=>by simp [mdel,mget]
 |(i,b)::L,hn=>by
  rw [List.map_cons,List.nodup_cons] at hn
  simp only [mdel]
  by_cases h:i=k
  ·rw [if_pos h]
   by_cases h2:j=k
   ·rw [if_pos h2]
    cases hm:mget j L with
    |none=>rfl
    |some a=>
     have:=vmget_mem hm
     exact absurd (List.mem_map.2 ⟨_,this,rfl⟩) (by rw [h2,←h];exact hn.1)
   ·rw [if_neg h2]
    simp only [mget]
    rw [if_neg (by omega)]
  ·rw [if_neg h]
   simp only [mget,vmget_del k j L hn.2]
   by_cases h2:i=j
   ·rw [if_pos h2,if_pos h2,if_neg (by omega)]
   ·rw [if_neg h2,if_neg h2]
structure vHOk (s:vHS) (C:List VThing):Prop where
 heap:vHp (vgN s.1) s.1.length
 map:vMOk s.1 s.2
 perm:s.1.Perm C
theorem vHOk.len {s:vHS} {C:List VThing} (h:vHOk s C):s.1.length=C.length:=h.perm.length_eq
theorem vHOk.new:vHOk (vnoThings,vnoPlaces) []:=⟨fun j _ h=>absurd h (by simp [vnoThings]),⟨fun i h=>absurd h (by simp [vnoThings]),fun id v h=>(by cases h),List.nodup_nil⟩,List.Perm.refl _⟩
theorem vgN_mem {L:List VThing} {i:Nat} (h:i<L.length):vgN L i∈L:=by rw [vgN_at h];exact List.getElem_mem h
theorem vHOk.where {s:vHS} {C:List VThing} (h:vHOk s C) {id:Int} (ht:vthereB id s.2=true): ∃i:Nat,i<s.1.length/\ vwhereI id s.2=i/\ (vgN s.1 i).Id=id/\ vgN s.1 i∈C:=by
 unfold vthereB at ht
 cases hm:mget id s.2 with
 |none=>rw [hm] at ht;cases ht
 |some v=>
  obtain ⟨i,hi,hv,hid⟩:=h.map.2.1 id v hm
  exact ⟨i,hi,by unfold vwhereI;rw [hm];exact hv,hid,h.perm.mem_iff.1 (vgN_mem hi)⟩
theorem vHOk.there {s:vHS} {C:List VThing} (h:vHOk s C) (id:Int):vthereB id s.2=true↔ ∃a∈C,a.Id=id:=by
 constructor
 ·intro ht
  obtain ⟨i,_,_,hid,hm⟩:=h.where ht
  exact ⟨_,hm,hid⟩
 ·rintro ⟨a,ha,rfl⟩
  obtain ⟨i,hi,e⟩:=List.getElem_of_mem (h.perm.mem_iff.2 ha)
  have:=h.map.1 i hi
  rw [vgN_at hi,e] at this
  unfold vthereB
  rw [this]
  rfl
theorem vHOk.one {s:vHS} {C:List VThing} (h:vHOk s C) {a b:VThing} (ha:a∈C) (hb:b∈C) (e:a.Id=b.Id):a=b:=by
 obtain ⟨i,hi,ea⟩:=List.getElem_of_mem (h.perm.mem_iff.2 ha)
 obtain ⟨k,hk,eb⟩:=List.getElem_of_mem (h.perm.mem_iff.2 hb)
 have:=h.map.inj hi hk (by rw [vgN_at hi,vgN_at hk,ea,eb,e])
 subst this
 rw [←ea,←eb]
theorem vHOk.min {s:vHS} {C:List VThing} (h:vHOk s C) (hl:0<s.1.length):vgN s.1 0∈C/\ ∀a∈C,vle' (vgN s.1 0) a:=by
 refine ⟨h.perm.mem_iff.1 (vgN_mem hl),fun a ha=> ?_⟩
 obtain ⟨i,hi,rfl⟩:=List.getElem_of_mem (h.perm.mem_iff.2 ha)
 rw [←vgN_at hi]
 have key: ∀n i,i<=n->i<s.1.length->vle' (vgN s.1 0) (vgN s.1 i):=by
  intro n
  induction n with
  |zero=>intro i hi _;have:i=0:=(by omega);subst this;exact vle_refl' _
  |succ n ih=>
   intro i hi hl
   by_cases h0:0<i
   ·have:=vup_lt h0
    exact vle_trans' (ih (vup i) (by omega) (by omega)) (h.heap i h0 hl)
   ·have:i=0:=(by omega);subst this;exact vle_refl' _
 exact key i i (Nat.le_refl _) hi
theorem vgN_left {L:List VThing} {t:VThing} {j:Nat} (h:j<L.length):vgN (L++[t]) j=vgN L j:=by
 have h2:j<(L++[t]).length:=by simp;omega
 rw [vgN_at h,vgN_at h2,List.getElem_append_left h]
theorem vgN_last {L:List VThing} {t:VThing}:vgN (L++[t]) L.length=t:=by
 have h2:L.length<(L++[t]).length:=by simp
 rw [vgN_at h2]
 simp
theorem vHOk.push {s:vHS} {C:List VThing} (h:vHOk s C) {id:Int} {x:Ev} (hid:vthereB id s.2=false):vHOk (vpushH s id x) (vthing id x::C):=by
 obtain ⟨L,M⟩:=s
 have hl:(L++[vthing id x]).length=L.length+1:=by simp
 have hno:mget id M=none:=by
  unfold vthereB at hid
  cases hm:mget id M with
  |none=>rfl
  |some v=>dsimp only at hid;rw [hm] at hid;cases hid
 have hm:vMOk (L++[vthing id x]) (mput id L.length M):=by
  refine ⟨fun i hi=> ?_,fun k v hv=> ?_,mput_nodup _ _ _ h.map.2.2⟩
  ·rw [mget_put]
   by_cases e:i=L.length
   ·subst e
    rw [vgN_last]
    exact if_pos rfl
   ·have hi':i<L.length:=by omega
    rw [vgN_left hi']
    have hg:=h.map.1 i hi'
    have hne: ¬(vgN L i).Id=id:=by
     intro e2
     have hg:mget (vgN L i).Id M=some (i:Int):=hg
     rw [e2,hno] at hg
     cases hg
    rw [if_neg hne]
    exact hg
  ·rw [mget_put] at hv
   by_cases e:k=id
   ·rw [if_pos e] at hv
    exact ⟨L.length,by omega,(Option.some.inj hv).symm,by rw [vgN_last,e];rfl⟩
   ·rw [if_neg e] at hv
    obtain ⟨i,hi,h1,h2⟩:=h.map.2.1 k v hv
    exact ⟨i,by have:i<L.length:=hi;omega,h1,by rw [vgN_left hi];exact h2⟩
 have hr:vRiseOk (L++[vthing id x]) L.length:=by
  refine ⟨fun j hj0 hj hne=> ?_,fun j h0 hj hj0 hu=> ?_⟩
  ·have hj':j<L.length:=by omega
   have:=vup_lt hj0
   rw [vgN_left hj',vgN_left (by omega)]
   exact h.heap j hj0 hj'
  ·have:=vup_lt hj0
   omega
 obtain ⟨a1,a2,a3,a4⟩:=vrise_all L.length (L++[vthing id x],mput id L.length M) L.length (Nat.le_refl _) (by rw [hl];omega) hr hm
 refine ⟨?_,a2, ?_⟩
 ·have e:(vpushH (L,M) id x).1.length=(L++[vthing id x]).length:=a4
  rw [e]
  exact a1
 ·refine a3.trans ?_
  refine (List.perm_append_singleton _ _).trans ?_
  exact List.Perm.cons _ h.perm
theorem vHOk.take {s:vHS} {C:List VThing} (h:vHOk s C) {i:Nat} (hi:i<s.1.length): ∃C',C.Perm (vgN s.1 i::C')/\ vHOk (vtakeH s i) C':=by
 obtain ⟨L,M⟩:=s
 dsimp only at hi
 have hn:L.length-1<L.length:=by omega
 have hperm:(vswapL L i (L.length-1:Nat)).Perm L:=vswap_perm hi hn
 have hmap:=h.map.swap hi hn
 have hl1:(vswapL L i (L.length-1:Nat)).length=L.length:=vswapL_length _ _ _
 have hat: ∀j,j<L.length->vgN (vswapL L i (L.length-1:Nat)) j=if j=L.length-1 then vgN L i else if j=i then vgN L (L.length-1) else vgN L j:=fun j hj=>vswap_at hi hn j hj
 have hl2:((vswapL L i (L.length-1:Nat)).take (L.length-1)).length=L.length-1:=by rw [List.length_take,hl1];omega
 have hat2: ∀j,j<L.length-1->vgN ((vswapL L i (L.length-1:Nat)).take (L.length-1)) j=if j=i then vgN L (L.length-1) else vgN L j:=by
  intro j hj
  have h1:j<(vswapL L i (L.length-1:Nat)).length:=by rw [hl1];omega
  have e:=hat j (by omega)
  rw [if_neg (by omega)] at e
  rw [vgN_at (by rw [hl2];exact hj),List.getElem_take,←vgN_at h1]
  exact e
 have hsplit:(vswapL L i (L.length-1:Nat))=(vswapL L i (L.length-1:Nat)).take (L.length-1)++[vgN L i]:=by
  have h1:L.length-1<(vswapL L i (L.length-1:Nat)).length:=by rw [hl1];exact hn
  have e:=hat (L.length-1) hn
  rw [if_pos rfl,vgN_at h1] at e
  rw [←e,←take_at h1]
  rw [List.take_of_length_le (by rw [hl1];omega)]
 have hp2:L.Perm (vgN L i::(vswapL L i (L.length-1:Nat)).take (L.length-1)):=by
  refine hperm.symm.trans ?_
  conv=>lhs;rw [hsplit]
  exact List.perm_append_singleton _ _
 have hm2:vMOk ((vswapL L i (L.length-1:Nat)).take (L.length-1)) (mdel (vgN L i).Id (vswapM L M i (L.length-1:Nat))):=by
  have same: ∀j,j<L.length-1->vgN ((vswapL L i (L.length-1:Nat)).take (L.length-1)) j=vgN (vswapL L i (L.length-1:Nat)) j:=by
   intro j hj
   rw [hat2 j hj,hat j (by omega),if_neg (show ¬j=L.length-1 by omega)]
  have hlast:=hat (L.length-1) hn
  rw [if_pos rfl] at hlast
  refine ⟨fun j hj=> ?_,fun id v hv=> ?_,mdel_nodup _ _ hmap.2.2⟩
  ·rw [hl2] at hj
   rw [same j hj,vmget_del _ _ _ hmap.2.2]
   have hne: ¬(vgN (vswapL L i (L.length-1:Nat)) j).Id=(vgN L i).Id:=by
    intro e
    rw [←hlast] at e
    have:=hmap.inj (by rw [hl1];omega) (by rw [hl1];exact hn) e
    omega
   rw [if_neg hne]
   exact hmap.1 j (by rw [hl1];omega)
  ·rw [vmget_del _ _ _ hmap.2.2] at hv
   by_cases e:id=(vgN L i).Id
   ·rw [if_pos e] at hv;cases hv
   ·rw [if_neg e] at hv
    obtain ⟨j,hj,h1,h2⟩:=hmap.2.1 id v hv
    rw [hl1] at hj
    have hne:j≠L.length-1:=by
     intro e2
     subst e2
     rw [hlast] at h2
     exact e h2.symm
    exact ⟨j,by rw [hl2];omega,h1,by rw [same j (by omega)];exact h2⟩
 have heap:=h.heap
 dsimp only at heap
 refine ⟨(vswapL L i (L.length-1:Nat)).take (L.length-1),h.perm.symm.trans hp2, ?_⟩
 unfold vtakeH
 dsimp only
 have ei:at' vtz L (i:Int)=vgN L i:=rfl
 rw [ei]
 by_cases hlt:i<L.length-1
 ·rw [decide_eq_true hlt]
  simp only [cond_true]
  have hb: ∀j,0<j->j<L.length-1->j≠i->vup j≠i->vle' (vgN ((vswapL L i (L.length-1:Nat)).take (L.length-1)) (vup j)) (vgN ((vswapL L i (L.length-1:Nat)).take (L.length-1)) j):=by
   intro j hj0 hj h1 h2
   have:=vup_lt hj0
   rw [hat2 j hj,hat2 (vup j) (by omega),if_neg h1,if_neg h2]
   exact heap j hj0 (by omega)
  have hc:0<i-> ∀j,j<L.length-1->0<j->vup j=i->vle' (vgN ((vswapL L i (L.length-1:Nat)).take (L.length-1)) (vup i)) (vgN ((vswapL L i (L.length-1:Nat)).take (L.length-1)) j):=by
   intro h0 j hj hj0 hu
   have u1:=vup_lt hj0
   have u2:=vup_lt h0
   rw [hat2 j hj,hat2 (vup i) (by omega),if_neg (show ¬j=i by omega),if_neg (show ¬vup i=i by omega)]
   have a:=heap j hj0 (by omega)
   rw [hu] at a
   exact vle_trans' (heap i h0 hi) a
  generalize hL2:(vswapL L i (L.length-1:Nat)).take (L.length-1)=L2 at*
  generalize hM2:mdel (vgN L i).Id (vswapM L M i (L.length-1:Nat))=M2 at*
  have hi2:i<L2.length:=by rw [hl2];exact hlt
  have hrise:vSinkOk (vriseN i (L2,M2) i).1 i/\ vMOk (vriseN i (L2,M2) i).1 (vriseN i (L2,M2) i).2/\ (vriseN i (L2,M2) i).1.Perm L2/\ (vriseN i (L2,M2) i).1.length=L2.length:=by
   cases i with
   |zero=>
    refine ⟨⟨fun j hj0 hj hu=> ?_,fun j h0=>absurd h0 (Nat.lt_irrefl _)⟩,hm2,List.Perm.refl _,rfl⟩
    exact hb j hj0 (by rw [←hl2];exact hj) (by omega) hu
   |succ k=>
    have h0:0<k+1:=Nat.succ_pos k
    have hu:=vup_lt h0
    simp only [vriseN]
    rw [decide_eq_true h0,Bool.true_and]
    cases ha:vaheadA L2 ((k+1:Nat):Int) (vup (k+1):Int)
    ·have hle:=(vahead_false _ _).1 ha
     refine ⟨⟨fun j hj0 hj hup=> ?_,fun j _ hj hj0 hup=>hc h0 j (by rw [←hl2];exact hj) hj0 hup⟩,hm2,List.Perm.refl _,rfl⟩
     by_cases e:j=k+1
     ·rw [e];exact hle
     ·exact hb j hj0 (by rw [←hl2];exact hj) e hup
    ·have hle:=(vahead_iff _ _).1 ha
     have hr':=vrise_step hi2 h0 (fun j a b c d=>hb j a (by rw [←hl2];exact b) c d) (fun j a b c=>hc h0 j (by rw [←hl2];exact a) b c) hle
     have hup:vup (k+1)<L2.length:=by omega
     obtain ⟨a1,a2,a3,a4⟩:=vrise_all k (vswapH (L2,M2) (k+1:Nat) (vup (k+1))) (vup (k+1)) (by omega) (by show vup (k+1)<(vswapL L2 (k+1:Nat) (vup (k+1))).length;rw [vswapL_length];exact hup) hr' (hm2.swap hi2 hup)
     have el:(vswapH (L2,M2) (k+1:Nat) (vup (k+1))).1.length=L2.length:=vswapL_length _ _ _
     rw [el] at a1 a4
     simp only [cond_true]
     refine ⟨⟨fun j hj0 hj _=>a1 j hj0 (by rw [←a4];exact hj),fun j _ hj hj0 hup2=> ?_⟩,a2,a3.trans (vswap_perm hi2 hup),a4⟩
     have b1:=a1 j hj0 (by rw [←a4];exact hj)
     rw [hup2] at b1
     exact vle_trans' (a1 (k+1) h0 hi2) b1
  obtain ⟨r1,r2,r3,r4⟩:=hrise
  obtain ⟨a1,a2,a3,a4⟩:=vsink_all (L.length-1-i) (vriseN i (L2,M2) i) i (by rw [r4,hl2];exact Nat.le_refl _) (by rw [r4];exact hi2) r1 r2
  exact ⟨by rw [a4];exact a1,a2,a3.trans r3⟩
 ·rw [decide_eq_false hlt]
  simp only [cond_false]
  refine ⟨fun j hj0 hj=> ?_,hm2,List.Perm.refl _⟩
  dsimp only at hj ⊢
  rw [hl2] at hj
  have:=vup_lt hj0
  rw [hat2 j hj,hat2 (vup j) (by omega),if_neg (show ¬j=i by omega),if_neg (show ¬vup j=i by omega)]
  exact heap j hj0 (by omega)
noncomputable def tab10:Tab T O:=tab9
theorem tabOk10:TabOk R Tryz.prog tab10:=tabOk9
noncomputable def X10:Ctx T O:= { X0 with con:=conOf tab10 }
theorem X10Ok:TabOk R X10.P tab10:=tabOk10
end Go.Proofs.YtlfjbnflfdnoaaaGreat
namespace Go.Proofs.YtlfjbnflfdnoaaaGreat
open Go.Sx Go.Proofs Classical
abbrev etz:EThing:=eThingE.zero
def EThing.X (a:EThing):Entry:=⟨a.XID,a.XSubIndex,a.XSubRelease,a.XSubDeadline,a.XSubBit,a.XSubGroup⟩
def ething (id:Int) (x:Entry):EThing:=⟨id,x.ID,x.SubIndex,x.SubRelease,x.SubDeadline,x.SubBit,x.SubGroup⟩
def eaheadB (a b:EThing):Bool:=prioLess a.X b.X||(!prioLess b.X a.X&&decide (a.Id<b.Id))
def eaheadA (L:List EThing) (i k:Int):Bool:=eaheadB (at' etz L i) (at' etz L k)
def eswapL (L:List EThing) (i k:Int):List EThing:=(L.set i.toNat (at' etz L k)).set k.toNat (at' etz L i)
def eswapM (L:List EThing) (M:List (Int×Int)) (i k:Int):List (Int×Int):=mput (at' etz L i).Id k (mput (at' etz L k).Id i M)
def eSmall (L:List EThing):Prop:=L.length<=100000
instance (L:List EThing):Decidable (eSmall L):=inferInstanceAs (Decidable (_<=_))
def enoneText (L:List EThing) (M:List (Int×Int)):Prop:=(((false=false)/\ True)/\ ((True/\ (True/\ (True/\ True)))/\ ((L=L)/\ ((M=M)/\ True))))
theorem enoneVc (L:List EThing) (M:List (Int×Int)):fnX X10 (noAnn) Tryz.f126 [.ptr 0 0] [.cells [.fn 40 [], .own 1, .own 2] 146, .vec 5 L 200, .map 0 M] (ends [.cells [.fn 40 [], .own 1, .own 2] 146, .vec 5 L 200, .map 0 M] ⟨some (.raw (.bool false)),[(1,some (.vec 5 (L) 200)),(2,some (.map 0 (M)))]⟩)=enoneText L M:=by kernel_rfl
theorem enoneHolds (L:List EThing) (M:List (Int×Int)):enoneText L M:=by
 unfold enoneText
 refine ⟨⟨rfl,trivial⟩,⟨trivial,trivial,trivial,trivial⟩,rfl,rfl,trivial⟩
noncomputable def enoneCon:Con T O:=fun args cs=>match args,cs with
 |[.ptr 0 0],[.cells [.fn 40 [], .own 1, .own 2] 146, .vec 5 L 200, .map 0 M]=> .ret ⟨some (.raw (.bool false)),[(1,some (.vec 5 (L) 200)),(2,some (.map 0 (M)))]⟩
 |_,_=> .fail
theorem enoneOk:ConOk R Tryz.prog 126 enoneCon:=con_of_fn R (X10) (good (X10) rfl (TabOk.con R X10Ok)) mixed Tryz.call126 Tryz.func126 enoneCon (by
 intro args cs K h
 unfold enoneCon at h
 split at h
 ·rename_i L M
  refine ⟨noAnn,_,fun v S hv=>⟨_,h,hv⟩, ?_⟩
  rw [enoneVc L M]
  exact enoneHolds L M
 ·exact h.elim)
def eaheadText (L:List EThing) (M:List (Int×Int)) (i k:Int):Prop:=let q0:=(at' eThingE.zero L i);let q1:=(at' eThingE.zero L k);let q2:=((True/\ (True/\ (True/\ True)))/\ ((L=L)/\ ((M=M)/\ True)));let q3:=(Entry.mk q0.XID q0.XSubIndex q0.XSubRelease q0.XSubDeadline q0.XSubBit q0.XSubGroup);let q4:=(Entry.mk q1.XID q1.XSubIndex q1.XSubRelease q1.XSubDeadline q1.XSubBit q1.XSubGroup);(match (inb i L.length) with|true=>(match (inb i L.length) with|true=>(match (inb k L.length) with|true=>(match (inb k L.length) with|true=>(match (prioLess q3 q4) with|true=>(((eaheadA L i k=true)/\ True)/\ q2)|false=>(match (!prioLess q4 q3) with|true=>(((eaheadA L i k=decide (q0.Id<q1.Id))/\ True)/\ q2)|false=>(((eaheadA L i k=false)/\ True)/\ q2)))|false=>False)|false=>False)|false=>False)|false=>False)
theorem eaheadVc (L:List EThing) (M:List (Int×Int)) (i k:Int):fnX X10 (noAnn) Tryz.f172 [.ptr 0 0, .raw (.int .i64 i), .raw (.int .i64 k)] [.cells [.fn 40 [], .own 1, .own 2] 146, .vec 5 L 200, .map 0 M] (ends [.cells [.fn 40 [], .own 1, .own 2] 146, .vec 5 L 200, .map 0 M] ⟨some (.raw (.bool (eaheadA L i k))),[(1,some (.vec 5 (L) 200)),(2,some (.map 0 (M)))]⟩)=eaheadText L M i k:=by kernel_rfl
theorem eaheadHolds (L:List EThing) (M:List (Int×Int)) (i k:Int) (hp:0<=i/\ i<L.length/\ 0<=k/\ k<L.length):eaheadText L M i k:=by
 unfold eaheadText
 conv=>zeta
 unfold eaheadA eaheadB EThing.X etz
 obtain ⟨h1,h2,h3,h4⟩:=hp
 rw [inb_iff.2 ⟨h1,h2⟩,inb_iff.2 ⟨h3,h4⟩]
 cases prioLess { ID:=(at' eThingE.zero L i).XID,SubIndex:=(at' eThingE.zero L i).XSubIndex,SubRelease:=(at' eThingE.zero L i).XSubRelease,SubDeadline:=(at' eThingE.zero L i).XSubDeadline,SubBit:=(at' eThingE.zero L i).XSubBit,SubGroup:=(at' eThingE.zero L i).XSubGroup } { ID:=(at' eThingE.zero L k).XID,SubIndex:=(at' eThingE.zero L k).XSubIndex,SubRelease:=(at' eThingE.zero L k).XSubRelease,SubDeadline:=(at' eThingE.zero L k).XSubDeadline,SubBit:=(at' eThingE.zero L k).XSubBit,SubGroup:=(at' eThingE.zero L k).XSubGroup }
 ·cases prioLess { ID:=(at' eThingE.zero L k).XID,SubIndex:=(at' eThingE.zero L k).XSubIndex,SubRelease:=(at' eThingE.zero L k).XSubRelease,SubDeadline:=(at' eThingE.zero L k).XSubDeadline,SubBit:=(at' eThingE.zero L k).XSubBit,SubGroup:=(at' eThingE.zero L k).XSubGroup } { ID:=(at' eThingE.zero L i).XID,SubIndex:=(at' eThingE.zero L i).XSubIndex,SubRelease:=(at' eThingE.zero L i).XSubRelease,SubDeadline:=(at' eThingE.zero L i).XSubDeadline,SubBit:=(at' eThingE.zero L i).XSubBit,SubGroup:=(at' eThingE.zero L i).XSubGroup }
  ·exact ⟨⟨rfl,trivial⟩,⟨trivial,trivial,trivial,trivial⟩,rfl,rfl,trivial⟩
  ·exact ⟨⟨rfl,trivial⟩,⟨trivial,trivial,trivial,trivial⟩,rfl,rfl,trivial⟩
 ·exact ⟨⟨rfl,trivial⟩,⟨trivial,trivial,trivial,trivial⟩,rfl,rfl,trivial⟩
noncomputable def eaheadCon:Con T O:=fun args cs=>match args,cs with
 |[.ptr 0 0, .raw (.int .i64 i), .raw (.int .i64 k)],[.cells [.fn 40 [], .own 1, .own 2] 146, .vec 5 L 200, .map 0 M]=>chk (decide (0<=i/\ i<L.length/\ 0<=k/\ k<L.length)) (.ret ⟨some (.raw (.bool (eaheadA L i k))),[(1,some (.vec 5 (L) 200)),(2,some (.map 0 (M)))]⟩)
 |_,_=> .fail
theorem eaheadOk:ConOk R Tryz.prog 172 eaheadCon:=con_of_fn R (X10) (good (X10) rfl (TabOk.con R X10Ok)) mixed Tryz.call172 Tryz.func172 eaheadCon (by
 intro args cs K h
 unfold eaheadCon at h
 split at h
 ·rename_i i k L M
  rw [Tree.holds_chk] at h
  obtain ⟨hp,h⟩:=h
  refine ⟨noAnn,_,fun v S hv=>⟨_,h,hv⟩, ?_⟩
  rw [eaheadVc L M i k]
  exact eaheadHolds L M i k (of_decide_eq_true hp)
 ·exact h.elim)
def eswapText (L:List EThing) (M:List (Int×Int)) (i k:Int):Prop:=let q0:=(L.set i.toNat (at' eThingE.zero L k));(match (inb i L.length) with|true=>(match (inb i L.length) with|true=>(match (inb k L.length) with|true=>(match (inb k L.length) with|true=>(match (inb i L.length) with|true=>(match (inb i L.length) with|true=>(match (inb k q0.length) with|true=>(match (inb k q0.length) with|true=>((True/\ True)/\ ((True/\ (True/\ (True/\ True)))/\ ((eswapL L i k=q0.set k.toNat (at' eThingE.zero L i))/\ ((eswapM L M i k=mput (at' eThingE.zero L i).Id k (mput (at' eThingE.zero L k).Id i M))/\ True))))|false=>False)|false=>False)|false=>False)|false=>False)|false=>False)|false=>False)|false=>False)|false=>False)
theorem eswapVc (L:List EThing) (M:List (Int×Int)) (i k:Int):fnX X10 (noAnn) Tryz.f161 [.ptr 0 0, .raw (.int .i64 i), .raw (.int .i64 k)] [.cells [.fn 40 [], .own 1, .own 2] 146, .vec 5 L 200, .map 0 M] (ends [.cells [.fn 40 [], .own 1, .own 2] 146, .vec 5 L 200, .map 0 M] ⟨some (.tup []),[(1,some (.vec 5 (eswapL L i k) 200)),(2,some (.map 0 (eswapM L M i k)))]⟩)=eswapText L M i k:=by kernel_rfl
theorem eswapHolds (L:List EThing) (M:List (Int×Int)) (i k:Int) (hp:0<=i/\ i<L.length/\ 0<=k/\ k<L.length):eswapText L M i k:=by
 unfold eswapText
 conv=>zeta
 obtain ⟨h1,h2,h3,h4⟩:=hp
 rw [List.length_set,inb_iff.2 ⟨h1,h2⟩,inb_iff.2 ⟨h3,h4⟩]
 exact ⟨⟨trivial,trivial⟩,⟨trivial,trivial,trivial,trivial⟩,rfl,rfl,trivial⟩
noncomputable def eswapCon:Con T O:=fun args cs=>match args,cs with
 |[.ptr 0 0, .raw (.int .i64 i), .raw (.int .i64 k)],[.cells [.fn 40 [], .own 1, .own 2] 146, .vec 5 L 200, .map 0 M]=>chk (decide (0<=i/\ i<L.length/\ 0<=k/\ k<L.length)) (.ret ⟨some (.tup []),[(1,some (.vec 5 (eswapL L i k) 200)),(2,some (.map 0 (eswapM L M i k)))]⟩)
 |_,_=> .fail
theorem eswapOk:ConOk R Tryz.prog 161 eswapCon:=con_of_fn R (X10) (good (X10) rfl (TabOk.con R X10Ok)) mixed Tryz.call161 Tryz.func161 eswapCon (by
 intro args cs K h
 unfold eswapCon at h
 split at h
 ·rename_i i k L M
  rw [Tree.holds_chk] at h
  obtain ⟨hp,h⟩:=h
  refine ⟨noAnn,_,fun v S hv=>⟨_,h,hv⟩, ?_⟩
  rw [eswapVc L M i k]
  exact eswapHolds L M i k (of_decide_eq_true hp)
 ·exact h.elim)
noncomputable def tab11:Tab T O:=(126,enoneCon)::(172,eaheadCon)::(161,eswapCon)::tab10
theorem tabOk11:TabOk R Tryz.prog tab11:=TabOk.cons R enoneOk<|TabOk.cons R eaheadOk<|TabOk.cons R eswapOk<|tabOk10
end Go.Proofs.YtlfjbnflfdnoaaaGreat
namespace Go.Proofs.YtlfjbnflfdnoaaaGreat
open Go.Sx Go.Proofs Classical
abbrev eHS:Type:=List EThing×List (Int×Int)
def eswapH (s:eHS) (i k:Int):eHS:=(eswapL s.1 i k,eswapM s.1 s.2 i k)
def eup (i:Nat):Nat:=(i-1)/2
def eriseN:Nat->eHS->Nat->eHS
 |0,s,_=>s
 |n+1,s,i=>bif decide (0<i)&&eaheadA s.1 i (eup i) then eriseN n (eswapH s i (eup i)) (eup i) else s
def efirstAt (L:List EThing) (i:Nat):Nat->Nat
 |0=>i
 |n+1=>bif decide (2*i+1+n<L.length)&&eaheadA L (2*i+1+n:Nat) (efirstAt L i n:Nat) then 2*i+1+n else efirstAt L i n
def esinkN:Nat->eHS->Nat->eHS
 |0,s,_=>s
 |n+1,s,i=>bif efirstAt s.1 i 2==i then s else esinkN n (eswapH s i (efirstAt s.1 i 2:Nat)) (efirstAt s.1 i 2)
theorem eswapL_length (L:List EThing) (i k:Int):(eswapL L i k).length=L.length:=by simp [eswapL]
theorem eup_lt {i:Nat} (h:0<i):eup i<i:=by unfold eup;omega
theorem eriseN_fuel: ∀(n m:Nat) (s:eHS) (i:Nat),i<=n->i<=m->eriseN n s i=eriseN m s i
 |0,0,_,_,_,_=>rfl
 |0,m+1,s,i,h,_=>by
  have:i=0:=by omega
  subst this
  rfl
 |n+1,0,s,i,_,h=>by
  have:i=0:=by omega
  subst this
  rfl
 |n+1,m+1,s,i,h1,h2=>by
  simp only [eriseN]
  by_cases h:0<i
  ·have:=eup_lt h
   rw [eriseN_fuel n m (eswapH s i (eup i)) (eup i) (by omega) (by omega)]
  ·rw [decide_eq_false h]
   rfl
theorem efirstAt_lt (L:List EThing) (i:Nat) (h:i<L.length): ∀n,efirstAt L i n<L.length
 |0=>h
 |n+1=>by
  simp only [efirstAt]
  cases hq:decide (2*i+1+n<L.length)&&eaheadA L (2*i+1+n:Nat) (efirstAt L i n:Nat)
  ·exact efirstAt_lt L i h n
  ·simp only [Bool.and_eq_true,decide_eq_true_eq] at hq
   exact hq.1
theorem efirstAt_ge (L:List EThing) (i:Nat): ∀n,efirstAt L i n=i \/2*i+1<=efirstAt L i n
 |0=> .inl rfl
 |n+1=>by
  simp only [efirstAt]
  cases decide (2*i+1+n<L.length)&&eaheadA L (2*i+1+n:Nat) (efirstAt L i n:Nat)
  ·exact efirstAt_ge L i n
  ·simp only [cond_true];omega
theorem esinkN_fuel: ∀(n m:Nat) (s:eHS) (i:Nat),s.1.length-i<=n->s.1.length-i<=m->i<s.1.length->esinkN n s i=esinkN m s i
 |0,_,s,i,h,_,h2=>by omega
 |n+1,0,s,i,_,h,h2=>by omega
 |n+1,m+1,s,i,h1,h2,h3=>by
  simp only [esinkN]
  cases hq:efirstAt s.1 i 2==i
  ·have hne:efirstAt s.1 i 2≠i:=by simpa using hq
   have hgt:=(efirstAt_ge s.1 i 2).resolve_left hne
   have hf:=efirstAt_lt s.1 i h3 2
   have el:(eswapH s i (efirstAt s.1 i 2:Nat)).1.length=s.1.length:=eswapL_length _ _ _
   rw [esinkN_fuel n m _ _ (by rw [el];omega) (by rw [el];omega) (by rw [el];exact hf)]
  ·rfl
theorem efirstAt_end (L:List EThing) (i x:Nat) (h:L.length<=2*i+1+x): ∀n,x<=n->efirstAt L i n=efirstAt L i x
 |0,hn=>by
  have:x=0:=by omega
  subst this;rfl
 |n+1,hn=>by
  by_cases e:x=n+1
  ·subst e;rfl
  ·simp only [efirstAt]
   rw [decide_eq_false (by omega)]
   exact efirstAt_end L i x h n (by omega)
def lt6 (a b:Entry):Prop:=a.SubDeadline<b.SubDeadline \/(a.SubDeadline=b.SubDeadline/\ ((a.SubBit=1/\ b.SubBit≠1) \/(a.SubBit=1/\ b.SubBit=1/\ (b.SubGroup<a.SubGroup \/(a.SubGroup=b.SubGroup/\ a.ID<b.ID))) \/(a.SubBit≠1/\ b.SubBit≠1/\ a.ID<b.ID)))
theorem cmpL_cases (a b:Int):(a<b/\ cmpL a b= -1) \/(b<a/\ cmpL a b=1) \/(a=b/\ cmpL a b=0):=by
 unfold cmpL nanL
 rw [show (a !=a)=false by simp,show (b !=b)=false by simp]
 simp only
 rcases Int.lt_trichotomy a b with h|h|h
 ·rw [decide_eq_true h];exact .inl ⟨h,rfl⟩
 ·rw [decide_eq_false (by omega),decide_eq_false (by omega)];exact .inr (.inr ⟨h,rfl⟩)
 ·rw [decide_eq_false (by omega),decide_eq_true (by omega)];exact .inr (.inl ⟨h,rfl⟩)
theorem cmpI_cases (a b:Int):(a<b/\ cmpI a b= -1) \/(b<a/\ cmpI a b=1) \/(a=b/\ cmpI a b=0):=cmpL_cases a b
theorem cmpI00:cmpI 0 0=0:=rfl
theorem cmpI11:cmpI 1 1=0:=rfl
theorem cmpI01:cmpI 0 1= -1:=rfl
theorem cmpI10:cmpI 1 0=1:=rfl
theorem order_lt (a b:Entry):prioOrder a b<0↔lt6 a b:=by
 unfold prioOrder prioOverlaps lt6
 cases ha:a.SubBit==1<;>cases hb:b.SubBit==1
 all_goals
  simp only [beq_eq_false_iff_ne,beq_iff_eq,ne_eq] at ha hb
  simp only [cmpI00,cmpI11,cmpI01,cmpI10,orL]
  rcases cmpL_cases a.SubDeadline b.SubDeadline with ⟨h1,e1⟩|⟨h1,e1⟩|⟨h1,e1⟩<;>rcases cmpL_cases b.SubGroup a.SubGroup with ⟨h2,e2⟩|⟨h2,e2⟩|⟨h2,e2⟩<;>rcases cmpI_cases a.ID b.ID with ⟨h3,e3⟩|⟨h3,e3⟩|⟨h3,e3⟩<;>rw [e1,e3]<;>(try rw [e2])<;>simp<;>omega
theorem less_iff0 (a b:Entry):prioLess a b=true↔lt6 a b:=by
 unfold prioLess
 rw [decide_eq_true_iff,order_lt]
theorem lessIff (a b:Entry):prioLess a b=decide (lt6 a b):=by
 rw [Bool.eq_iff_iff,less_iff0,decide_eq_true_iff]
def ekB (a:EThing):Int:=if a.XSubBit=1 then 0 else 1
def ekG (a:EThing):Int:=if a.XSubBit=1 then-a.XSubGroup else 0
def ele' (a b:EThing):Prop:=a.XSubDeadline<b.XSubDeadline \/(a.XSubDeadline=b.XSubDeadline/\ (ekB a<ekB b \/(ekB a=ekB b/\ (ekG a<ekG b \/(ekG a=ekG b/\ (a.XID<b.XID \/(a.XID=b.XID/\ a.Id<=b.Id)))))))
theorem eahead_iff (a b:EThing):eaheadB a b=true↔ ¬ele' b a:=by
 unfold eaheadB ele' EThing.X
 rw [lessIff,lessIff]
 simp only [Bool.or_eq_true,Bool.and_eq_true,Bool.not_eq_true',decide_eq_true_eq,decide_eq_false_iff_not]
 unfold lt6 ekB ekG
 dsimp only
 by_cases h1:a.XSubBit=1<;>by_cases h2:b.XSubBit=1<;>simp [h1,h2]<;>omega
theorem eahead_false (a b:EThing):eaheadB a b=false↔ele' b a:=by
 have:=eahead_iff a b
 cases h:eaheadB a b
 ·rw [h] at this;simp at this;simp [this]
 ·rw [h] at this;simp at this;simp [this]
theorem ele_refl' (a:EThing):ele' a a:=by unfold ele';omega
theorem ele_trans' {a b c:EThing} (h1:ele' a b) (h2:ele' b c):ele' a c:=by unfold ele' at*;omega
theorem ele_total' (a b:EThing):ele' a b \/ele' b a:=by unfold ele';omega
theorem ele_of_not' {a b:EThing} (h: ¬ele' a b):ele' b a:=(ele_total' a b).resolve_left h
def egN (L:List EThing) (j:Nat):EThing:=at' etz L (j:Int)
theorem egN_at {L:List EThing} {j:Nat} (h:j<L.length):egN L j=L[j]:=at_nat h
def eHp (g:Nat->EThing) (n:Nat):Prop:= ∀j,0<j->j<n->ele' (g (eup j)) (g j)
theorem eswap_at {L:List EThing} {i k:Nat} (hi:i<L.length) (hk:k<L.length) (j:Nat) (hj:j<L.length):egN (eswapL L i k) j=if j=k then egN L i else if j=i then egN L k else egN L j:=by
 have hl:j<(eswapL L i k).length:=by rw [eswapL_length];exact hj
 have e:eswapL L i k=(L.set i (egN L k)).set k (egN L i):=rfl
 rw [egN_at hl,List.getElem_of_eq e hl,List.getElem_set,List.getElem_set,egN_at hj]
 by_cases h1:k=j
 ·rw [if_pos h1,if_pos h1.symm]
 ·rw [if_neg h1,if_neg (show ¬j=k from fun h=>h1 h.symm)]
  by_cases h2:i=j
  ·rw [if_pos h2,if_pos h2.symm]
  ·rw [if_neg h2,if_neg (show ¬j=i from fun h=>h2 h.symm)]
theorem eswap_perm {L:List EThing} {i k:Nat} (hi:i<L.length) (hk:k<L.length):(eswapL L i k).Perm L:=by
 have e:eswapL L i k=(L.set i L[k]).set k L[i]:=by
  rw [←egN_at hi,←egN_at hk]
  rfl
 rw [e]
 exact List.set_set_perm hi hk
def eMOk (L:List EThing) (M:List (Int×Int)):Prop:=
 (∀i,i<L.length->mget (egN L i).Id M=some (i:Int))/\ (∀id v,mget id M=some v-> ∃i:Nat,i<L.length/\ v=i/\ (egN L i).Id=id)/\ (M.map (·.1)).Nodup
theorem eMOk.inj {L:List EThing} {M:List (Int×Int)} (h:eMOk L M) {i k:Nat} (hi:i<L.length) (hk:k<L.length) (e:(egN L i).Id=(egN L k).Id):i=k:=by
 have h1:=h.1 i hi
 have h2:=h.1 k hk
 rw [e,h2] at h1
 have:=Option.some.inj h1
 omega
theorem eMOk.swap {L:List EThing} {M:List (Int×Int)} (h:eMOk L M) {i k:Nat} (hi:i<L.length) (hk:k<L.length):eMOk (eswapL L i k) (eswapM L M i k):=by
 have ei:at' etz L (i:Int)=egN L i:=rfl
 have ek:at' etz L (k:Int)=egN L k:=rfl
 refine ⟨fun j hj=> ?_,fun id v hv=> ?_,mput_nodup _ _ _ (mput_nodup _ _ _ h.2.2)⟩
 ·rw [eswapL_length] at hj
  rw [eswap_at hi hk j hj]
  simp only [eswapM,ei,ek,mget_put]
  by_cases h1:j=k
  ·rw [if_pos h1,if_pos rfl,h1]
  ·rw [if_neg h1]
   by_cases h2:j=i
   ·rw [if_pos h2]
    have: ¬(egN L k).Id=(egN L i).Id:=fun e=>h1 (by rw [h2];exact (h.inj hk hi e).symm)
    rw [if_neg this,if_pos rfl,h2]
   ·rw [if_neg h2]
    have a1: ¬(egN L j).Id=(egN L i).Id:=fun e=>h2 (h.inj hj hi e)
    have a2: ¬(egN L j).Id=(egN L k).Id:=fun e=>h1 (h.inj hj hk e)
    rw [if_neg a1,if_neg a2]
    exact h.1 j hj
 ·simp only [eswapM,ei,ek,mget_put] at hv
  by_cases h1:id=(egN L i).Id
  ·rw [if_pos h1] at hv
   refine ⟨k,by rw [eswapL_length];exact hk,(Option.some.inj hv).symm, ?_⟩
   rw [eswap_at hi hk k hk,if_pos rfl,h1]
  ·rw [if_neg h1] at hv
   by_cases h2:id=(egN L k).Id
   ·rw [if_pos h2] at hv
    refine ⟨i,by rw [eswapL_length];exact hi,(Option.some.inj hv).symm, ?_⟩
    rw [eswap_at hi hk i hi]
    by_cases e:i=k
    ·rw [if_pos e,e,h2]
    ·rw [if_neg e,if_pos rfl,h2]
   ·rw [if_neg h2] at hv
    obtain ⟨j,hj,hvj,hid⟩:=h.2.1 id v hv
    refine ⟨j,by rw [eswapL_length];exact hj,hvj, ?_⟩
    have a1:j≠i:=fun e=>h1 (by rw [←hid,e])
    have a2:j≠k:=fun e=>h2 (by rw [←hid,e])
    rw [eswap_at hi hk j hj,if_neg a2,if_neg a1,hid]
def eRiseOk (L:List EThing) (i:Nat):Prop:=(∀j,0<j->j<L.length->j≠i->ele' (egN L (eup j)) (egN L j))/\ ∀j,0<i->j<L.length->0<j->eup j=i->ele' (egN L (eup i)) (egN L j)
def eSinkOk (L:List EThing) (i:Nat):Prop:=(∀j,0<j->j<L.length->eup j≠i->ele' (egN L (eup j)) (egN L j))/\ ∀j,0<i->j<L.length->0<j->eup j=i->ele' (egN L (eup i)) (egN L j)
theorem erise_step {L:List EThing} {i:Nat} (hi:i<L.length) (h0:0<i) (hb: ∀j,0<j->j<L.length->j≠i->eup j≠i->ele' (egN L (eup j)) (egN L j))
  (hc: ∀j,j<L.length->0<j->eup j=i->ele' (egN L (eup i)) (egN L j)) (ha: ¬ele' (egN L (eup i)) (egN L i)):eRiseOk (eswapL L i (eup i)) (eup i):=by
 have hu:=eup_lt h0
 have hul:eup i<L.length:=by omega
 have ha':=ele_of_not' ha
 have key: ∀j,j<L.length->egN (eswapL L i (eup i)) j=if j=eup i then egN L i else if j=i then egN L (eup i) else egN L j:=fun j hj=>eswap_at hi hul j hj
 refine ⟨fun j hj0 hj hne=> ?_,fun j h1 hj hj0 hu2=> ?_⟩
 ·rw [eswapL_length] at hj
  have hupl:eup j<L.length:=Nat.lt_trans (eup_lt hj0) hj
  rw [key j hj,key (eup j) hupl,if_neg hne]
  by_cases e:j=i
  ·subst e
   rw [if_pos rfl,if_pos rfl]
   exact ha'
  ·rw [if_neg e]
   by_cases e2:eup j=eup i
   ·rw [if_pos e2]
    have:=hb j hj0 hj e (by omega)
    rw [e2] at this
    exact ele_trans' ha' this
   ·rw [if_neg e2]
    by_cases e3:eup j=i
    ·rw [if_pos e3]
     exact hc j hj hj0 e3
    ·rw [if_neg e3]
     exact hb j hj0 hj e e3
 ·rw [eswapL_length] at hj
  have huu:=eup_lt h1
  have e1: ¬eup (eup i)=eup i:=by omega
  have e2: ¬eup (eup i)=i:=by omega
  have hjn: ¬j=eup i:=by have:=eup_lt hj0;omega
  rw [key j hj,key (eup (eup i)) (by omega),if_neg e1,if_neg e2,if_neg hjn]
  have hpar:=hb (eup i) h1 hul (by omega) e2
  by_cases e:j=i
  ·rw [if_pos e]
   exact hpar
  ·rw [if_neg e]
   have:=hb j hj0 hj e (by omega)
   rw [hu2] at this
   exact ele_trans' hpar this
theorem erise_all: ∀(n:Nat) (s:eHS) (i:Nat),i<=n->i<s.1.length->eRiseOk s.1 i->eMOk s.1 s.2->eHp (egN (eriseN n s i).1) s.1.length/\ eMOk (eriseN n s i).1 (eriseN n s i).2/\ (eriseN n s i).1.Perm s.1/\ (eriseN n s i).1.length=s.1.length
 |0,s,i,hn,hi,hr,hm=>by
  have:i=0:=by omega
  subst this
  exact ⟨fun j hj0 hj=>hr.1 j hj0 hj (by omega),hm,List.Perm.refl _,rfl⟩
 |n+1,s,i,hn,hi,hr,hm=>by
  simp only [eriseN]
  by_cases h0:0<i
  ·rw [decide_eq_true h0,Bool.true_and]
   have hu:=eup_lt h0
   cases ha:eaheadA s.1 i (eup i)
   ·have hle:=(eahead_false _ _).1 ha
    refine ⟨fun j hj0 hj=> ?_,hm,List.Perm.refl _,rfl⟩
    by_cases e:j=i
    ·subst e;exact hle
    ·exact hr.1 j hj0 hj e
   ·have hle:=(eahead_iff _ _).1 ha
    have hr':=erise_step hi h0 (fun j a b c _=>hr.1 j a b c) (fun j a b c=>hr.2 j h0 a b c) hle
    have hp:=eswap_perm hi (show eup i<s.1.length by omega)
    obtain ⟨a1,a2,a3,a4⟩:=erise_all n (eswapH s i (eup i)) (eup i) (by omega) (by show eup i<(eswapL s.1 i (eup i)).length;rw [eswapL_length];omega) hr' (hm.swap hi (by omega))
    have el:(eswapH s i (eup i)).1.length=s.1.length:=eswapL_length _ _ _
    rw [el] at a1 a4
    exact ⟨a1,a2,a3.trans hp,a4⟩
  ·rw [decide_eq_false h0]
   refine ⟨fun j hj0 hj=>hr.1 j hj0 hj (by omega),hm,List.Perm.refl _,rfl⟩
theorem efirstAt_min (L:List EThing) (i:Nat): ∀n,ele' (egN L (efirstAt L i n)) (egN L i)/\ ∀m,m<n->2*i+1+m<L.length->ele' (egN L (efirstAt L i n)) (egN L (2*i+1+m))
 |0=>⟨ele_refl' _,fun m h=>by omega⟩
 |n+1=>by
  have ih:=efirstAt_min L i n
  simp only [efirstAt]
  by_cases h:2*i+1+n<L.length
  ·rw [decide_eq_true h,Bool.true_and]
   cases ha:eaheadA L (2*i+1+n:Nat) (efirstAt L i n:Nat)
   ·have hle:=(eahead_false _ _).1 ha
    refine ⟨ih.1,fun m hm hl=> ?_⟩
    by_cases e:m=n
    ·subst e;exact hle
    ·exact ih.2 m (by omega) hl
   ·have hle:=ele_of_not' ((eahead_iff _ _).1 ha)
    refine ⟨ele_trans' hle ih.1,fun m hm hl=> ?_⟩
    by_cases e:m=n
    ·subst e;exact ele_refl' _
    ·exact ele_trans' hle (ih.2 m (by omega) hl)
  ·rw [decide_eq_false h]
   refine ⟨ih.1,fun m hm hl=> ?_⟩
   by_cases e:m=n
   ·subst e;omega
   ·exact ih.2 m (by omega) hl
theorem echild {j i:Nat} (h0:0<j) (h:eup j=i): ∃m,m<2/\ j=2*i+1+m:=⟨j-(2*i+1),by unfold eup at h;omega,by unfold eup at h;omega⟩
theorem efirstAt_child (L:List EThing) (i:Nat): ∀n,n<=2->efirstAt L i n=i \/(0<efirstAt L i n/\ eup (efirstAt L i n)=i)
 |0,_=> .inl rfl
 |n+1,hn=>by
  simp only [efirstAt]
  cases decide (2*i+1+n<L.length)&&eaheadA L (2*i+1+n:Nat) (efirstAt L i n:Nat)
  ·exact efirstAt_child L i n (by omega)
  ·simp only [cond_true]
   refine .inr ⟨by omega, ?_⟩
   unfold eup
   omega
theorem esink_step {L:List EThing} {i f:Nat} (hi:i<L.length) (hf:f<L.length) (hf0:0<f) (hfu:eup f=i) (hs:eSinkOk L i) (hmin:ele' (egN L f) (egN L i)) (hmin2: ∀m,m<2->2*i+1+m<L.length->ele' (egN L f) (egN L (2*i+1+m))):eSinkOk (eswapL L i f) f:=by
 have hlt:=eup_lt hf0
 have key: ∀j,j<L.length->egN (eswapL L i f) j=if j=f then egN L i else if j=i then egN L f else egN L j:=fun j hj=>eswap_at hi hf j hj
 refine ⟨fun j hj0 hj hne=> ?_,fun j _ hj hj0 hu=> ?_⟩
 ·rw [eswapL_length] at hj
  have hupl:eup j<L.length:=Nat.lt_trans (eup_lt hj0) hj
  rw [key j hj,key (eup j) hupl,if_neg hne]
  by_cases e:j=f
  ·subst e
   rw [if_pos rfl,if_pos hfu]
   exact hmin
  ·rw [if_neg e]
   by_cases e2:eup j=i
   ·rw [if_pos e2]
    obtain ⟨m,hm,rfl⟩:=echild hj0 e2
    have: ¬(2*i+1+m)=i:=by omega
    rw [if_neg this]
    exact hmin2 m hm hj
   ·rw [if_neg e2]
    by_cases e3:j=i
    ·rw [if_pos e3]
     subst e3
     exact hs.2 f hj0 hf hf0 hfu
    ·rw [if_neg e3]
     exact hs.1 j hj0 hj e2
 ·rw [eswapL_length] at hj
  have hju:=eup_lt hj0
  rw [key j hj,hfu,key i hi]
  have a1: ¬i=f:=by omega
  have a2: ¬j=f:=by omega
  have a3: ¬j=i:=by omega
  rw [if_neg a1,if_pos rfl,if_neg a2,if_neg a3]
  have:=hs.1 j hj0 hj (by omega)
  rw [hu] at this
  exact this
theorem esink_all: ∀(n:Nat) (s:eHS) (i:Nat),s.1.length-i<=n->i<s.1.length->eSinkOk s.1 i->eMOk s.1 s.2->eHp (egN (esinkN n s i).1) s.1.length/\ eMOk (esinkN n s i).1 (esinkN n s i).2/\ (esinkN n s i).1.Perm s.1/\ (esinkN n s i).1.length=s.1.length
 |0,s,i,hn,hi,_,_=>by omega
 |n+1,s,i,hn,hi,hs,hm=>by
  simp only [esinkN]
  have hmin:=efirstAt_min s.1 i 2
  have hfl:=efirstAt_lt s.1 i hi 2
  cases hq:efirstAt s.1 i 2==i
  ·have hne:efirstAt s.1 i 2≠i:=by simpa using hq
   obtain ⟨hf0,hfu⟩:=(efirstAt_child s.1 i 2 (Nat.le_refl _)).resolve_left hne
   have hlt:=eup_lt hf0
   have hs':=esink_step hi hfl hf0 hfu hs hmin.1 hmin.2
   have el:(eswapH s i (efirstAt s.1 i 2:Nat)).1.length=s.1.length:=eswapL_length _ _ _
   obtain ⟨a1,a2,a3,a4⟩:=esink_all n (eswapH s i (efirstAt s.1 i 2:Nat)) (efirstAt s.1 i 2) (by rw [el];omega) (by rw [el];exact hfl) hs' (hm.swap hi hfl)
   rw [el] at a1 a4
   exact ⟨a1,a2,a3.trans (eswap_perm hi hfl),a4⟩
  ·have he:efirstAt s.1 i 2=i:=by simpa using hq
   rw [he] at hmin
   refine ⟨fun j hj0 hj=> ?_,hm,List.Perm.refl _,rfl⟩
   by_cases e:eup j=i
   ·obtain ⟨m,hm2,rfl⟩:=echild hj0 e
    rw [e]
    exact hmin.2 m hm2 hj
   ·exact hs.1 j hj0 hj e
noncomputable def tab12:Tab T O:=tab11
theorem tabOk12:TabOk R Tryz.prog tab12:=tabOk11
noncomputable def X12:Ctx T O:= { X0 with con:=conOf tab12 }
theorem X12Ok:TabOk R X12.P tab12:=tabOk12
end Go.Proofs.YtlfjbnflfdnoaaaGreat
namespace Go.Proofs.YtlfjbnflfdnoaaaGreat
open Go.Sx Go.Proofs Classical
noncomputable def eriseA (L:List EThing) (M:List (Int×Int)) (i:Int):Ann T O:=oneLoop 0 { σ:=Nat×List EThing×List (Int×Int),st:=fun S x=>(((S.keep [0]).int 1 x.1).chunk 1 (.vec 5 x.2.1 200)).chunk 2 (.map 0 x.2.2),inv:=fun _ x=>x.1<=i.toNat/\ x.2.1.length=L.length/\ eriseN i.toNat (L,M) i.toNat=eriseN x.1 x.2 x.1,m:=fun x=>x.1 }
def eriseText (L:List EThing) (M:List (Int×Int)) (i:Int):Prop:=let q4:=(True/\ (True/\ (True/\ True)));((∃x:Nat×List EThing×List (Int×Int),let q3:=((x.fst<=i.toNat)/\ ((x.snd.fst.length=L.length)/\ (eriseN i.toNat (L,M) i.toNat=eriseN x.fst x.snd x.fst)));(q3/\ ((True/\ (((↑x.fst:Int)=i)/\ True))/\ (q4/\ ((x.snd.fst=L)/\ ((x.snd.snd=M)/\ True))))))/\ (∀x:Nat×List EThing×List (Int×Int),let q0:=((IntKind.i64.wrap ((↑x.fst:Int)-(1:Int))).tdiv (2:Int));let q1:=(decide ((0:Int)<=(↑x.fst:Int)/\ (↑x.fst:Int)<(↑x.snd.fst.length:Int)/\ (0:Int)<=IntKind.i64.wrap q0/\ IntKind.i64.wrap q0<(↑x.snd.fst.length:Int)));let q2:=((True/\ True)/\ (q4/\ (((eriseN i.toNat (L,M) i.toNat).fst=x.snd.fst)/\ (((eriseN i.toNat (L,M) i.toNat).snd=x.snd.snd)/\ True))));let q3:=((x.fst<=i.toNat)/\ ((x.snd.fst.length=L.length)/\ (eriseN i.toNat (L,M) i.toNat=eriseN x.fst x.snd x.fst)));(q3->(match (decide ((↑x.fst:Int)>(0:Int))) with|true=>(match q1 with|true=>(match (eaheadA x.snd.fst (↑x.fst:Int) (IntKind.i64.wrap q0)) with|true=>(match q1 with|true=>(∃x':Nat×List EThing×List (Int×Int),(((x'.fst<=i.toNat)/\ ((x'.snd.fst.length=L.length)/\ (eriseN i.toNat (L,M) i.toNat=eriseN x'.fst x'.snd x'.fst)))/\ ((x'.fst<x.fst)/\ ((True/\ (((↑x'.fst:Int)=IntKind.i64.wrap q0)/\ True))/\ (q4/\ ((x'.snd.fst=eswapL x.snd.fst (↑x.fst:Int) (IntKind.i64.wrap q0))/\ ((x'.snd.snd=eswapM x.snd.fst x.snd.snd (↑x.fst:Int) (IntKind.i64.wrap q0))/\ True)))))))|false=>False)|false=>q2)|false=>False)|false=>q2))))
theorem eriseVc (L:List EThing) (M:List (Int×Int)) (i:Int):fnX X12 ((eriseA L M i)) Tryz.f144 [.ptr 0 0, .raw (.int .i64 i)] [.cells [.fn 40 [], .own 1, .own 2] 146, .vec 5 L 200, .map 0 M] (ends [.cells [.fn 40 [], .own 1, .own 2] 146, .vec 5 L 200, .map 0 M] ⟨some (.tup []),[(1,some (.vec 5 ((eriseN i.toNat (L,M) i.toNat).1) 200)),(2,some (.map 0 ((eriseN i.toNat (L,M) i.toNat).2)))]⟩)=eriseText L M i:=by kernel_rfl
theorem eriseHolds (L:List EThing) (M:List (Int×Int)) (i:Int) (hp:0<=i/\ i<L.length/\ L.length<=100000):eriseText L M i:=by
 unfold eriseText
 conv=>zeta
 obtain ⟨p0,p1,p2⟩:=hp
 obtain ⟨n,rfl⟩:=Int.eq_ofNat_of_zero_le p0
 rw [Int.toNat_natCast]
 refine ⟨⟨(n,L,M),⟨Nat.le_refl _,rfl,rfl⟩,⟨trivial,rfl,trivial⟩,⟨trivial,trivial,trivial,trivial⟩,rfl,rfl,trivial⟩, ?_⟩
 rintro ⟨x,L1,M1⟩ ⟨hx,hl,hs⟩
 dsimp only at hx hl hs ⊢
 cases x with
 |zero=>
  rw [show decide (((0:Nat):Int)>0)=false from rfl]
  rw [hs]
  exact ⟨⟨trivial,trivial⟩,⟨trivial,trivial,trivial,trivial⟩,rfl,rfl,trivial⟩
 |succ k=>
  have hu:eup (k+1)<k+1:=eup_lt (Nat.succ_pos k)
  have e1:IntKind.i64.wrap ((IntKind.i64.wrap (((k+1:Nat):Int)-1)).tdiv 2)=(eup (k+1):Int):=by
   rw [wrap_id (n:=((k+1:Nat):Int)-1) (by omega) (by omega),Int.tdiv_eq_ediv_of_nonneg (by omega),wrap_id (by omega) (by omega)]
   unfold eup
   omega
  rw [e1,show decide (((k+1:Nat):Int)>0)=true from decide_eq_true (by omega),show decide (0<=((k+1:Nat):Int)/\ ((k+1:Nat):Int)<(L1.length:Int)/\ 0<=(eup (k+1):Int)/\ (eup (k+1):Int)<(L1.length:Int))=true from decide_eq_true ⟨by omega,by omega,by omega,by omega⟩]
  simp only [eriseN] at hs
  rw [show decide (0<k+1)=true from decide_eq_true (Nat.succ_pos k),Bool.true_and] at hs
  cases ha:eaheadA L1 ((k+1:Nat):Int) (eup (k+1):Int)
  ·rw [ha] at hs
   rw [hs]
   exact ⟨⟨trivial,trivial⟩,⟨trivial,trivial,trivial,trivial⟩,rfl,rfl,trivial⟩
  ·rw [ha] at hs
   refine ⟨(eup (k+1),eswapL L1 (k+1:Nat) (eup (k+1)),eswapM L1 M1 (k+1:Nat) (eup (k+1))),⟨by dsimp only;omega,by rw [eswapL_length];exact hl, ?_⟩,by dsimp only;omega,⟨trivial,rfl,trivial⟩,⟨trivial,trivial,trivial,trivial⟩,rfl,rfl,trivial⟩
   rw [hs]
   exact eriseN_fuel _ _ _ _ (by omega) (Nat.le_refl _)
noncomputable def eriseCon:Con T O:=fun args cs=>match args,cs with
 |[.ptr 0 0, .raw (.int .i64 i)],[.cells [.fn 40 [], .own 1, .own 2] 146, .vec 5 L 200, .map 0 M]=>chk (decide (0<=i/\ i<L.length/\ L.length<=100000)) (.ret ⟨some (.tup []),[(1,some (.vec 5 ((eriseN i.toNat (L,M) i.toNat).1) 200)),(2,some (.map 0 ((eriseN i.toNat (L,M) i.toNat).2)))]⟩)
 |_,_=> .fail
theorem eriseOk:ConOk R Tryz.prog 144 eriseCon:=con_of_fn R (X12) (good (X12) rfl (TabOk.con R X12Ok)) mixed Tryz.call144 Tryz.func144 eriseCon (by
 intro args cs K h
 unfold eriseCon at h
 split at h
 ·rename_i i L M
  rw [Tree.holds_chk] at h
  obtain ⟨hp,h⟩:=h
  refine ⟨(eriseA L M i),_,fun v S hv=>⟨_,h,hv⟩, ?_⟩
  rw [eriseVc L M i]
  exact eriseHolds L M i (of_decide_eq_true hp)
 ·exact h.elim)
noncomputable def esinkA (L:List EThing) (M:List (Int×Int)) (i:Int):Ann T O:=annOf [(0, { σ:=Nat×List EThing×List (Int×Int),st:=fun S x=>(((S.keep [0]).int 1 x.1).chunk 1 (.vec 5 x.2.1 200)).chunk 2 (.map 0 x.2.2),inv:=fun _ x=>x.1<L.length/\ x.2.1.length=L.length/\ esinkN (L.length-i.toNat) (L,M) i.toNat=esinkN (L.length-x.1) x.2 x.1,m:=fun x=>L.length-x.1 }),
 (2, { σ:=Nat,st:=fun S x=>((S.keep [0,1]).int 5 (2*S.gi 1+1+x)).int 4 (efirstAt (S.cv 1 5) (S.gi 1).toNat x),inv:=fun S x=>x<=2/\ (x=0 \/2*(S.gi 1).toNat+x<L.length),m:=fun x=>2-x })] []
noncomputable def esinkE0 (L:List EThing) (M:List (Int×Int)) (i:Int):Eff T O:=⟨some (.tup []),[(1,some (.vec 5 ((esinkN (L.length-i.toNat) (L,M) i.toNat).1) 200)),(2,some (.map 0 ((esinkN (L.length-i.toNat) (L,M) i.toNat).2)))]⟩
def esinkText (L:List EThing) (M:List (Int×Int)) (i:Int):Prop:=let q7:=(True/\ (True/\ (True/\ True)));((∃x:Nat×List EThing×List (Int×Int),let q4:=((x.fst<L.length)/\ ((x.snd.fst.length=L.length)/\ (esinkN (L.length-i.toNat) (L,M) i.toNat=esinkN (L.length-x.fst) x.snd x.fst)));(q4/\ ((True/\ (((↑x.fst:Int)=i)/\ True))/\ (q7/\ ((x.snd.fst=L)/\ ((x.snd.snd=M)/\ True))))))/\ (∀x:Nat×List EThing×List (Int×Int),let q2:=(q7/\ ((x.snd.fst=x.snd.fst)/\ ((x.snd.snd=x.snd.snd)/\ True)));let q4:=((x.fst<L.length)/\ ((x.snd.fst.length=L.length)/\ (esinkN (L.length-i.toNat) (L,M) i.toNat=esinkN (L.length-x.fst) x.snd x.fst)));let q8:=((↑x.fst:Int)=(↑x.fst:Int));(q4->((∃x1:Nat,let q1:=(efirstAt x.snd.fst (↑x.fst:Int).toNat x1);let q5:=((x1<=(2:Nat))/\ (x1=(0:Nat) \/(2:Nat)*(↑x.fst:Int).toNat+x1<L.length));(q5/\ ((True/\ (q8/\ (((↑q1:Int)=(↑x.fst:Int))/\ (((2:Int)*(↑x.fst:Int)+(1:Int)+(↑x1:Int)=IntKind.i64.wrap (IntKind.i64.wrap ((2:Int)*(↑x.fst:Int))+(1:Int)))/\ True))))/\ q2)))/\ (∀x1:Nat,let q1:=(efirstAt x.snd.fst (↑x.fst:Int).toNat x1);let q0:=(match ((↑q1:Int)==(↑x.fst:Int)) with|true=>((True/\ True)/\ (q7/\ (((esinkN (L.length-i.toNat) (L,M) i.toNat).fst=x.snd.fst)/\ (((esinkN (L.length-i.toNat) (L,M) i.toNat).snd=x.snd.snd)/\ True))))|false=>(match (decide ((0:Int)<=(↑x.fst:Int)/\ (↑x.fst:Int)<(↑x.snd.fst.length:Int)/\ (0:Int)<=(↑q1:Int)/\ (↑q1:Int)<(↑x.snd.fst.length:Int))) with|true=>(∃x':Nat×List EThing×List (Int×Int),(((x'.fst<L.length)/\ ((x'.snd.fst.length=L.length)/\ (esinkN (L.length-i.toNat) (L,M) i.toNat=esinkN (L.length-x'.fst) x'.snd x'.fst)))/\ ((L.length-x'.fst<L.length-x.fst)/\ ((True/\ (((↑x'.fst:Int)=(↑q1:Int))/\ True))/\ (q7/\ ((x'.snd.fst=eswapL x.snd.fst (↑x.fst:Int) (↑q1:Int))/\ ((x'.snd.snd=eswapM x.snd.fst x.snd.snd (↑x.fst:Int) (↑q1:Int))/\ True)))))))|false=>False));let q5:=((x1<=(2:Nat))/\ (x1=(0:Nat) \/(2:Nat)*(↑x.fst:Int).toNat+x1<L.length));(q5->(match (decide ((2:Int)*(↑x.fst:Int)+(1:Int)+(↑x1:Int)<=IntKind.i64.wrap (IntKind.i64.wrap ((2:Int)*(↑x.fst:Int))+(2:Int)))) with|true=>(match (decide ((2:Int)*(↑x.fst:Int)+(1:Int)+(↑x1:Int)<(↑x.snd.fst.length:Int))) with|true=>(match (decide ((0:Int)<=(2:Int)*(↑x.fst:Int)+(1:Int)+(↑x1:Int)/\ (2:Int)*(↑x.fst:Int)+(1:Int)+(↑x1:Int)<(↑x.snd.fst.length:Int)/\ (0:Int)<=(↑q1:Int)/\ (↑q1:Int)<(↑x.snd.fst.length:Int))) with|true=>(match (eaheadA x.snd.fst ((2:Int)*(↑x.fst:Int)+(1:Int)+(↑x1:Int)) (↑q1:Int)) with|true=>(∃x':Nat,let q3:=(((2:Int)*(↑x.fst:Int)+(1:Int)+(↑x':Int)=IntKind.i64.wrap ((2:Int)*(↑x.fst:Int)+(1:Int)+(↑x1:Int)+(1:Int)))/\ True);let q6:=((x'<=(2:Nat))/\ (x'=(0:Nat) \/(2:Nat)*(↑x.fst:Int).toNat+x'<L.length));(q6/\ (((2:Nat)-x'<(2:Nat)-x1)/\ ((True/\ (q8/\ (((↑(efirstAt x.snd.fst (↑x.fst:Int).toNat x'):Int)=(2:Int)*(↑x.fst:Int)+(1:Int)+(↑x1:Int))/\ q3)))/\ q2))))|false=>(∃x':Nat,let q3:=(((2:Int)*(↑x.fst:Int)+(1:Int)+(↑x':Int)=IntKind.i64.wrap ((2:Int)*(↑x.fst:Int)+(1:Int)+(↑x1:Int)+(1:Int)))/\ True);let q6:=((x'<=(2:Nat))/\ (x'=(0:Nat) \/(2:Nat)*(↑x.fst:Int).toNat+x'<L.length));(q6/\ (((2:Nat)-x'<(2:Nat)-x1)/\ ((True/\ (q8/\ (((↑(efirstAt x.snd.fst (↑x.fst:Int).toNat x'):Int)=(↑q1:Int))/\ q3)))/\ q2)))))|false=>False)|false=>q0)|false=>q0)))))))
theorem esinkVc (L:List EThing) (M:List (Int×Int)) (i:Int):fnX X12 ((esinkA L M i)) Tryz.f162 [.ptr 0 0, .raw (.int .i64 i)] [.cells [.fn 40 [], .own 1, .own 2] 146, .vec 5 L 200, .map 0 M] (ends [.cells [.fn 40 [], .own 1, .own 2] 146, .vec 5 L 200, .map 0 M] (esinkE0 L M i))=esinkText L M i:=by kernel_rfl
theorem esinkHolds (L:List EThing) (M:List (Int×Int)) (i:Int) (hp:0<=i/\ i<L.length/\ L.length<=100000):esinkText L M i:=by
 unfold esinkText
 conv=>zeta
 obtain ⟨p0,p1,p2⟩:=hp
 obtain ⟨n,rfl⟩:=Int.eq_ofNat_of_zero_le p0
 rw [Int.toNat_natCast]
 refine ⟨⟨(n,L,M),⟨by dsimp only;omega,rfl,rfl⟩,⟨trivial,rfl,trivial⟩,⟨trivial,trivial,trivial,trivial⟩,rfl,rfl,trivial⟩, ?_⟩
 rintro ⟨x,L1,M1⟩ ⟨hx,hl,hs⟩
 dsimp only at hx hl hs ⊢
 rw [Int.toNat_natCast]
 rw [wrap_id (n:=2*(x:Int)) (by omega) (by omega),wrap_id (n:=2*(x:Int)+1) (by omega) (by omega),wrap_id (n:=2*(x:Int)+2) (by omega) (by omega)]
 obtain ⟨r,hr⟩: ∃r,L.length-x=r+1:=⟨L.length-x-1,by omega⟩
 rw [hr] at hs
 simp only [esinkN] at hs
 have hx1:x<L1.length:=by omega
 have fin: ∀y,efirstAt L1 x y=efirstAt L1 x 2->(match ((efirstAt L1 x y:Nat):Int)==(x:Int) with
   |true=>(True/\ True)/\ (True/\ True/\ True/\ True)/\ (esinkN (L.length-n) (L,M) n).1=L1/\ (esinkN (L.length-n) (L,M) n).2=M1/\ True
   |false=>match decide (0<=(x:Int)/\ (x:Int)<(L1.length:Int)/\ 0<=((efirstAt L1 x y:Nat):Int)/\ ((efirstAt L1 x y:Nat):Int)<(L1.length:Int)) with
    |true=> ∃x':Nat×List EThing×List (Int×Int),(x'.1<L.length/\ x'.2.1.length=L.length/\ esinkN (L.length-n) (L,M) n=esinkN (L.length-x'.1) x'.2 x'.1)/\ L.length-x'.1<L.length-x/\ (True/\ (x'.1:Int)=((efirstAt L1 x y:Nat):Int)/\ True)/\ (True/\ True/\ True/\ True)/\ x'.2.1=eswapL L1 (x:Int) ((efirstAt L1 x y:Nat):Int)/\ x'.2.2=eswapM L1 M1 (x:Int) ((efirstAt L1 x y:Nat):Int)/\ True
    |false=>False):=by
  intro y hy
  rw [hy]
  have hf:=efirstAt_lt L1 x hx1 2
  cases hq:efirstAt L1 x 2==x
  ·have hne:efirstAt L1 x 2≠x:=by simpa using hq
   have hgt:=(efirstAt_ge L1 x 2).resolve_left hne
   rw [show (((efirstAt L1 x 2:Nat):Int)==(x:Int))=false by rw [beq_eq_false_iff_ne];omega,decide_eq_true (⟨by omega,by omega,by omega,by omega⟩:0<=(x:Int)/\ (x:Int)<(L1.length:Int)/\ 0<=((efirstAt L1 x 2:Nat):Int)/\ ((efirstAt L1 x 2:Nat):Int)<(L1.length:Int))]
   rw [hq] at hs
   refine ⟨(efirstAt L1 x 2,eswapL L1 x (efirstAt L1 x 2:Nat),eswapM L1 M1 x (efirstAt L1 x 2:Nat)),⟨by dsimp only;omega,by rw [eswapL_length];exact hl, ?_⟩,by dsimp only;omega,⟨trivial,rfl,trivial⟩,⟨trivial,trivial,trivial,trivial⟩,rfl,rfl,trivial⟩
   rw [hs]
   exact esinkN_fuel _ _ _ _ (by show (eswapL L1 x (efirstAt L1 x 2:Nat)).length-_<=r;rw [eswapL_length];omega) (by show (eswapL L1 x (efirstAt L1 x 2:Nat)).length-_<=_;rw [eswapL_length];dsimp only;omega) (by show _<(eswapL L1 x (efirstAt L1 x 2:Nat)).length;rw [eswapL_length];exact hf)
  ·have he:efirstAt L1 x 2=x:=by simpa using hq
   rw [show (((efirstAt L1 x 2:Nat):Int)==(x:Int))=true by rw [beq_iff_eq];omega]
   rw [hq] at hs
   rw [hs]
   exact ⟨⟨trivial,trivial⟩,⟨trivial,trivial,trivial,trivial⟩,rfl,rfl,trivial⟩
 refine ⟨⟨0,⟨by omega, .inl rfl⟩,⟨trivial,rfl,rfl,by omega,trivial⟩,⟨trivial,trivial,trivial,trivial⟩,rfl,rfl,trivial⟩, ?_⟩
 rintro y ⟨hy,hy2⟩
 by_cases g:y<2
 ·rw [show decide (2*(x:Int)+1+(y:Int)<=2*(x:Int)+2)=true from decide_eq_true (by omega)]
  by_cases g2:2*x+1+y<L1.length
  ·have ec:2*(x:Int)+1+(y:Int)=((2*x+1+y:Nat):Int):=by omega
   have hf:=efirstAt_lt L1 x hx1 y
   rw [show decide (2*(x:Int)+1+(y:Int)<(L1.length:Int))=true from decide_eq_true (by omega),show decide (0<=2*(x:Int)+1+(y:Int)/\ 2*(x:Int)+1+(y:Int)<(L1.length:Int)/\ 0<=((efirstAt L1 x y:Nat):Int)/\ ((efirstAt L1 x y:Nat):Int)<(L1.length:Int))=true from decide_eq_true ⟨by omega,by omega,by omega,by omega⟩]
   rw [wrap_id (n:=2*(x:Int)+1+(y:Int)+1) (by omega) (by omega)]
   have hstep:efirstAt L1 x (y+1)=bif eaheadA L1 (2*(x:Int)+1+(y:Int)) ((efirstAt L1 x y:Nat):Int) then 2*x+1+y else efirstAt L1 x y:=by
    rw [ec]
    simp only [efirstAt]
    rw [decide_eq_true g2,Bool.true_and]
   cases ha:eaheadA L1 (2*(x:Int)+1+(y:Int)) ((efirstAt L1 x y:Nat):Int)
   ·rw [ha] at hstep
    exact ⟨y+1,⟨by omega, .inr (by omega)⟩,by omega,⟨trivial,rfl,by rw [hstep];rfl,by omega,trivial⟩,⟨trivial,trivial,trivial,trivial⟩,rfl,rfl,trivial⟩
   ·rw [ha] at hstep
    exact ⟨y+1,⟨by omega, .inr (by omega)⟩,by omega,⟨trivial,rfl,by rw [hstep];show ((2*x+1+y:Nat):Int)=_;omega,by omega,trivial⟩,⟨trivial,trivial,trivial,trivial⟩,rfl,rfl,trivial⟩
  ·rw [show decide (2*(x:Int)+1+(y:Int)<(L1.length:Int))=false from decide_eq_false (by omega)]
   exact fin y (efirstAt_end L1 x y (by omega) 2 (by omega)).symm
 ·have e:y=2:=by omega
  subst e
  rw [show decide (2*(x:Int)+1+((2:Nat):Int)<=2*(x:Int)+2)=false from decide_eq_false (by omega)]
  exact fin 2 rfl
noncomputable def esinkCon:Con T O:=fun args cs=>match args,cs with
 |[.ptr 0 0, .raw (.int .i64 i)],[.cells [.fn 40 [], .own 1, .own 2] 146, .vec 5 L 200, .map 0 M]=>chk (decide (0<=i/\ i<L.length/\ L.length<=100000)) (.ret (esinkE0 L M i))
 |_,_=> .fail
theorem esinkOk:ConOk R Tryz.prog 162 esinkCon:=con_of_fn R (X12) (good (X12) rfl (TabOk.con R X12Ok)) mixed Tryz.call162 Tryz.func162 esinkCon (by
 intro args cs K h
 unfold esinkCon at h
 split at h
 ·rename_i i L M
  rw [Tree.holds_chk] at h
  obtain ⟨hp,h⟩:=h
  refine ⟨(esinkA L M i),_,fun v S hv=>⟨_,h,hv⟩, ?_⟩
  rw [esinkVc L M i]
  exact esinkHolds L M i (of_decide_eq_true hp)
 ·exact h.elim)
noncomputable def tab13:Tab T O:=(144,eriseCon)::(162,esinkCon)::tab12
theorem tabOk13:TabOk R Tryz.prog tab13:=TabOk.cons R eriseOk<|TabOk.cons R esinkOk<|tabOk12
noncomputable def X13:Ctx T O:= { X0 with con:=conOf tab13 }
theorem X13Ok:TabOk R X13.P tab13:=tabOk13
end Go.Proofs.YtlfjbnflfdnoaaaGreat
namespace Go.Proofs.YtlfjbnflfdnoaaaGreat
open Go.Sx Go.Proofs Classical
def etakeH (s:eHS) (i:Nat):eHS:=
 bif decide (i<s.1.length-1) then
  esinkN (s.1.length-1-i) (eriseN i ((eswapL s.1 i (s.1.length-1:Nat)).take (s.1.length-1),mdel (at' etz s.1 i).Id (eswapM s.1 s.2 i (s.1.length-1:Nat))) i) i
 else ((eswapL s.1 i (s.1.length-1:Nat)).take (s.1.length-1),mdel (at' etz s.1 i).Id (eswapM s.1 s.2 i (s.1.length-1:Nat)))
theorem eriseN_length: ∀(n:Nat) (s:eHS) (i:Nat),(eriseN n s i).1.length=s.1.length
 |0,_,_=>rfl
 |n+1,s,i=>by
  simp only [eriseN]
  cases decide (0<i)&&eaheadA s.1 i (eup i)
  ·rfl
  ·simp only [cond_true]
   rw [eriseN_length n]
   exact eswapL_length _ _ _
def ethereB (id:Int) (M:List (Int×Int)):Bool:=(mget id M).isSome
def ewhereI (id:Int) (M:List (Int×Int)):Int:=(mget id M).getD 0
theorem eslOk_cut {k n:Nat} (h:k<=n):slOk none (some (k:Int)) none (n:Int)=true:=by simp [slOk,optB];omega
def enoThings:List EThing:=[]
def enoPlaces:List (Int×Int):=[]
noncomputable def etakeE0 (L:List EThing) (M:List (Int×Int)) (i:Int):Eff T O:=⟨some (.agg [.raw (.int .i64 (at' etz L i).Id), .raw (.int .i64 (at' etz L i).XID), .raw (.int .i64 (at' etz L i).XSubIndex), .raw (.int .i64 (at' etz L i).XSubRelease), .raw (.int .i64 (at' etz L i).XSubDeadline), .raw (.int .i64 (at' etz L i).XSubBit), .raw (.int .i64 (at' etz L i).XSubGroup)]),[(0,some (.cells [.fn 40 [], .own 3, .own 2] 146)),(1,none),(2,some (.map 0 (etakeH (L,M) i.toNat).2)),(3,some (.vec 5 (etakeH (L,M) i.toNat).1 200))]⟩
def etakeText (L:List EThing) (M:List (Int×Int)) (i:Int):Prop:=let q4:=((↑L.length:Int)-(1:Int));let q1:=(IntKind.i64.wrap q4);let q3:=(at' eThingE.zero L i);let q0:=(eriseN i.toNat (cutL none (some q1) (eswapL L i q1),mdel q3.Id (eswapM L M i q1)) i.toNat);let q2:=((((at' etz L i).Id=q3.Id)/\ (((at' etz L i).XID=q3.XID)/\ (((at' etz L i).XSubIndex=q3.XSubIndex)/\ (((at' etz L i).XSubRelease=q3.XSubRelease)/\ (((at' etz L i).XSubDeadline=q3.XSubDeadline)/\ (((at' etz L i).XSubBit=q3.XSubBit)/\ (((at' etz L i).XSubGroup=q3.XSubGroup)/\ True)))))))/\ True);let q5:=(etakeH (L,M) i.toNat);(match (inb i L.length) with|true=>(match (inb i L.length) with|true=>(match (decide ((0:Int)<=i/\ i<(↑L.length:Int)/\ (0:Int)<=IntKind.i64.wrap q4/\ IntKind.i64.wrap q4<(↑L.length:Int))) with|true=>(match (slOk none (some q1) none (↑(eswapL L i q1).length:Int)&&decide (optB none (0:Int)=(0:Int))) with|true=>(match (decide (i<IntKind.i64.wrap q4)) with|true=>(match (decide ((0:Int)<=i/\ i<(↑(cutL none (some q1) (eswapL L i q1)).length:Int)/\ (cutL none (some q1) (eswapL L i q1)).length<=(100000:Nat))) with|true=>(match (decide ((0:Int)<=i/\ i<(↑q0.fst.length:Int)/\ q0.fst.length<=(100000:Nat))) with|true=>(q2/\ ((True/\ (True/\ (True/\ True)))/\ ((q5.snd=(esinkN (q0.fst.length-i.toNat) q0 i.toNat).snd)/\ ((q5.fst=(esinkN (q0.fst.length-i.toNat) q0 i.toNat).fst)/\ True))))|false=>False)|false=>False)|false=>(q2/\ ((True/\ (True/\ (True/\ True)))/\ ((q5.snd=mdel q3.Id (eswapM L M i q1))/\ ((q5.fst=cutL none (some q1) (eswapL L i q1))/\ True)))))|false=>False)|false=>False)|false=>False)|false=>False)
theorem etakeVc (L:List EThing) (M:List (Int×Int)) (i:Int):fnX X13 (noAnn) Tryz.f127 [.ptr 0 0, .raw (.int .i64 i)] [.cells [.fn 40 [], .own 1, .own 2] 146, .vec 5 L 200, .map 0 M] (ends [.cells [.fn 40 [], .own 1, .own 2] 146, .vec 5 L 200, .map 0 M] (etakeE0 L M i))=etakeText L M i:=by kernel_rfl
theorem etakeHolds (L:List EThing) (M:List (Int×Int)) (i:Int) (hp:0<=i/\ i<L.length/\ L.length<=100000):etakeText L M i:=by
 unfold etakeText
 conv=>zeta
 obtain ⟨p0,p1,p2⟩:=hp
 obtain ⟨n,rfl⟩:=Int.eq_ofNat_of_zero_le p0
 have hn:n<L.length:=by omega
 have ew:IntKind.i64.wrap ((L.length:Int)-1)=((L.length-1:Nat):Int):=by rw [wrap_id (by omega) (by omega)];omega
 have ec:cutL none (some ((L.length-1:Nat):Int)) (eswapL L n (L.length-1:Nat))=(eswapL L n (L.length-1:Nat)).take (L.length-1):=by simp [cutL,optB]
 rw [Int.toNat_natCast,ew,ec,inb_nat hn]
 rw [show decide (0<=(n:Int)/\ (n:Int)<(L.length:Int)/\ 0<=((L.length-1:Nat):Int)/\ ((L.length-1:Nat):Int)<(L.length:Int))=true from decide_eq_true ⟨by omega,by omega,by omega,by omega⟩]
 rw [show (slOk none (some ((L.length-1:Nat):Int)) none ((eswapL L n (L.length-1:Nat)).length:Int)&&decide (optB none 0=0))=true by
  rw [eswapL_length,eslOk_cut (by omega)]
  rfl]
 have el:((eswapL L n (L.length-1:Nat)).take (L.length-1)).length=L.length-1:=by rw [List.length_take,eswapL_length];omega
 by_cases h:n<L.length-1
 ·have eq:etakeH (L,M) n=esinkN (L.length-1-n) (eriseN n ((eswapL L n (L.length-1:Nat)).take (L.length-1),mdel (at' etz L n).Id (eswapM L M n (L.length-1:Nat))) n) n:=by
   unfold etakeH
   rw [decide_eq_true (show n<(L,M).1.length-1 from h)]
   rfl
  rw [eriseN_length]
  dsimp only
  rw [el,show decide ((n:Int)<((L.length-1:Nat):Int))=true from decide_eq_true (by omega),show decide (0<=(n:Int)/\ (n:Int)<((L.length-1:Nat):Int)/\ L.length-1<=100000)=true from decide_eq_true ⟨by omega,by omega,by omega⟩]
  rw [eq]
  repeat' first|trivial|rfl|apply And.intro
 ·have eq:etakeH (L,M) n=((eswapL L n (L.length-1:Nat)).take (L.length-1),mdel (at' etz L n).Id (eswapM L M n (L.length-1:Nat))):=by
   unfold etakeH
   rw [decide_eq_false (show ¬n<(L,M).1.length-1 from h)]
   rfl
  rw [show decide ((n:Int)<((L.length-1:Nat):Int))=false from decide_eq_false (by omega)]
  rw [eq]
  repeat' first|trivial|rfl|apply And.intro
noncomputable def etakeCon:Con T O:=fun args cs=>match args,cs with
 |[.ptr 0 0, .raw (.int .i64 i)],[.cells [.fn 40 [], .own 1, .own 2] 146, .vec 5 L 200, .map 0 M]=>chk (decide (0<=i/\ i<L.length/\ L.length<=100000)) (.ret (etakeE0 L M i))
 |_,_=> .fail
theorem etakeOk:ConOk R Tryz.prog 127 etakeCon:=con_of_fn R (X13) (good (X13) rfl (TabOk.con R X13Ok)) mixed Tryz.call127 Tryz.func127 etakeCon (by
 intro args cs K h
 unfold etakeCon at h
 split at h
 ·rename_i i L M
  rw [Tree.holds_chk] at h
  obtain ⟨hp,h⟩:=h
  refine ⟨noAnn,_,fun v S hv=>⟨_,h,hv⟩, ?_⟩
  rw [etakeVc L M i]
  exact etakeHolds L M i (of_decide_eq_true hp)
 ·exact h.elim)
def elenHText (L:List EThing) (M:List (Int×Int)):Prop:=((((↑L.length:Int)=(↑L.length:Int))/\ True)/\ ((True/\ (True/\ (True/\ True)))/\ ((L=L)/\ ((M=M)/\ True))))
theorem elenHVc (L:List EThing) (M:List (Int×Int)):fnX X13 (noAnn) Tryz.f85 [.ptr 0 0] [.cells [.fn 40 [], .own 1, .own 2] 146, .vec 5 L 200, .map 0 M] (ends [.cells [.fn 40 [], .own 1, .own 2] 146, .vec 5 L 200, .map 0 M] ⟨some (.raw (.int .i64 L.length)),[(1,some (.vec 5 (L) 200)),(2,some (.map 0 (M)))]⟩)=elenHText L M:=by kernel_rfl
theorem elenHHolds (L:List EThing) (M:List (Int×Int)):elenHText L M:=by
 unfold elenHText
 exact ⟨⟨rfl,trivial⟩,⟨trivial,trivial,trivial,trivial⟩,rfl,rfl,trivial⟩
noncomputable def elenHCon:Con T O:=fun args cs=>match args,cs with
 |[.ptr 0 0],[.cells [.fn 40 [], .own 1, .own 2] 146, .vec 5 L 200, .map 0 M]=> .ret ⟨some (.raw (.int .i64 L.length)),[(1,some (.vec 5 (L) 200)),(2,some (.map 0 (M)))]⟩
 |_,_=> .fail
theorem elenHOk:ConOk R Tryz.prog 85 elenHCon:=con_of_fn R (X13) (good (X13) rfl (TabOk.con R X13Ok)) mixed Tryz.call85 Tryz.func85 elenHCon (by
 intro args cs K h
 unfold elenHCon at h
 split at h
 ·rename_i L M
  refine ⟨noAnn,_,fun v S hv=>⟨_,h,hv⟩, ?_⟩
  rw [elenHVc L M]
  exact elenHHolds L M
 ·exact h.elim)
def enewHText:Prop:=((True/\ True)/\ ((True/\ (True/\ (True/\ True)))/\ ((enoThings=[])/\ ((enoPlaces=[])/\ True))))
theorem enewHVc:fnX X13 (noAnn) Tryz.f39 [.fn 40 []] [] (ends [] ⟨some (.ptr 0 0),[(0,some (.cells [.fn 40 [], .own 1, .own 2] 146)),(1,some (.vec 5 enoThings 200)),(2,some (.map 0 enoPlaces))]⟩)=enewHText:=by kernel_rfl
theorem enewHHolds:enewHText:=by
 unfold enewHText
 exact ⟨⟨trivial,trivial⟩,⟨trivial,trivial,trivial,trivial⟩,rfl,rfl,trivial⟩
noncomputable def enewHCon:Con T O:=fun args cs=>match args,cs with
 |[.fn 40 []],[]=> .ret ⟨some (.ptr 0 0),[(0,some (.cells [.fn 40 [], .own 1, .own 2] 146)),(1,some (.vec 5 enoThings 200)),(2,some (.map 0 enoPlaces))]⟩
 |_,_=> .fail
theorem enewHOk:ConOk R Tryz.prog 39 enewHCon:=con_of_fn R (X13) (good (X13) rfl (TabOk.con R X13Ok)) mixed Tryz.call39 Tryz.func39 enewHCon (by
 intro args cs K h
 unfold enewHCon at h
 split at h
 ·
  refine ⟨noAnn,_,fun v S hv=>⟨_,h,hv⟩, ?_⟩
  rw [enewHVc]
  exact enewHHolds
 ·exact h.elim)
noncomputable def tab14:Tab T O:=(127,etakeCon)::(85,elenHCon)::(39,enewHCon)::tab13
theorem tabOk14:TabOk R Tryz.prog tab14:=TabOk.cons R etakeOk<|TabOk.cons R elenHOk<|TabOk.cons R enewHOk<|tabOk13
noncomputable def X14:Ctx T O:= { X0 with con:=conOf tab14 }
theorem X14Ok:TabOk R X14.P tab14:=tabOk14
end Go.Proofs.YtlfjbnflfdnoaaaGreat
namespace Go.Proofs.YtlfjbnflfdnoaaaGreat
open Go.Sx Go.Proofs Classical
def epushH (s:eHS) (id:Int) (x:Entry):eHS:=eriseN s.1.length (s.1++[ething id x],mput id s.1.length s.2) s.1.length
noncomputable def epushCE1 (L:List EThing) (M:List (Int×Int)) (id:Int) (x:Entry):Eff T O:=⟨some (.raw (.bool true)),[(0,some (.cells [.fn 40 [], .own 3, .own 2] 146)),(1,none),(2,some (.map 0 (epushH (L,M) id x).2)),(3,some (.vec 5 (epushH (L,M) id x).1 200))]⟩
def epushCText (L:List EThing) (M:List (Int×Int)) (id:Int) (x:Entry):Prop:=let q1:=(L++[EThing.mk id x.ID x.SubIndex x.SubRelease x.SubDeadline x.SubBit x.SubGroup]);let q2:=((↑q1.length:Int)-(1:Int));let q0:=(eriseN (IntKind.i64.wrap q2).toNat (L++[EThing.mk id x.ID x.SubIndex x.SubRelease x.SubDeadline x.SubBit x.SubGroup],mput id (↑L.length:Int) M) (IntKind.i64.wrap q2).toNat);let q3:=(True/\ (True/\ (True/\ True)));(match ((mget id M).isSome) with|true=>(match (ethereB id M) with|true=>(((false=false)/\ True)/\ (q3/\ ((L=L)/\ ((M=M)/\ True))))|false=>(((true=false)/\ True)/\ (q3/\ (((epushH (L,M) id x).snd=M)/\ (((epushH (L,M) id x).fst=L)/\ True)))))|false=>(match (roomy (L.length+(1:Nat)) (nat_lit 56)) with|true=>(match (decide ((0:Int)<=IntKind.i64.wrap q2/\ IntKind.i64.wrap q2<(↑q1.length:Int)/\ q1.length<=(100000:Nat))) with|true=>(match (ethereB id M) with|true=>(((false=true)/\ True)/\ ((True/\ (False/\ (True/\ True)))/\ (False/\ ((M=q0.snd)/\ True))))|false=>(((true=true)/\ True)/\ (q3/\ (((epushH (L,M) id x).snd=q0.snd)/\ (((epushH (L,M) id x).fst=q0.fst)/\ True)))))|false=>False)|false=>False))
theorem epushCVc (L:List EThing) (M:List (Int×Int)) (id:Int) (x:Entry):fnX X14 (noAnn) Tryz.f98 [.ptr 0 0, .raw (.int .i64 id), .agg [.raw (.int .i64 x.ID), .raw (.int .i64 x.SubIndex), .raw (.int .i64 x.SubRelease), .raw (.int .i64 x.SubDeadline), .raw (.int .i64 x.SubBit), .raw (.int .i64 x.SubGroup)]] [.cells [.fn 40 [], .own 1, .own 2] 146, .vec 5 L 200, .map 0 M] (endsIf (ethereB id M) [.cells [.fn 40 [], .own 1, .own 2] 146, .vec 5 L 200, .map 0 M] ⟨some (.raw (.bool false)),[(1,some (.vec 5 (L) 200)),(2,some (.map 0 (M)))]⟩ (epushCE1 L M id x))=epushCText L M id x:=by kernel_rfl
theorem epushCHolds (L:List EThing) (M:List (Int×Int)) (id:Int) (x:Entry) (hp:L.length<=1000):epushCText L M id x:=by
 unfold epushCText
 conv=>zeta
 have el:(L++[EThing.mk id x.ID x.SubIndex x.SubRelease x.SubDeadline x.SubBit x.SubGroup]).length=L.length+1:=by simp
 have ew:IntKind.i64.wrap (((L++[EThing.mk id x.ID x.SubIndex x.SubRelease x.SubDeadline x.SubBit x.SubGroup]).length:Int)-1)=(L.length:Int):=by rw [el,wrap_id (by omega) (by omega)];omega
 cases h:ethereB id M
 ·rw [show (mget id M).isSome=false from h,show roomy (L.length+1) 56=true by simp [roomy];omega,ew]
  rw [show decide ((0:Int)<=(L.length:Int)/\ (L.length:Int)<((L++[EThing.mk id x.ID x.SubIndex x.SubRelease x.SubDeadline x.SubBit x.SubGroup]).length:Int)/\ (L++[EThing.mk id x.ID x.SubIndex x.SubRelease x.SubDeadline x.SubBit x.SubGroup]).length<=(100000:Nat))=true from decide_eq_true (by rw [el];omega)]
  rw [Int.toNat_natCast]
  repeat' first|trivial|rfl|apply And.intro
 ·rw [show (mget id M).isSome=true from h]
  repeat' first|trivial|rfl|apply And.intro
noncomputable def epushCCon:Con T O:=fun args cs=>match args,cs with
 |[.ptr 0 0, .raw (.int .i64 id), .agg [.raw (.int .i64 x_0), .raw (.int .i64 x_1), .raw (.int .i64 x_2), .raw (.int .i64 x_3), .raw (.int .i64 x_4), .raw (.int .i64 x_5)]],[.cells [.fn 40 [], .own 1, .own 2] 146, .vec 5 L 200, .map 0 M]=>chk (decide (L.length<=1000)) (.ite (ethereB id M) (.ret ⟨some (.raw (.bool false)),[(1,some (.vec 5 (L) 200)),(2,some (.map 0 (M)))]⟩) (.ret (epushCE1 L M id (⟨x_0,x_1,x_2,x_3,x_4,x_5⟩:Entry))))
 |_,_=> .fail
theorem epushCOk:ConOk R Tryz.prog 98 epushCCon:=con_of_fn R (X14) (good (X14) rfl (TabOk.con R X14Ok)) mixed Tryz.call98 Tryz.func98 epushCCon (by
 intro args cs K h
 unfold epushCCon at h
 split at h
 ·rename_i id x_0 x_1 x_2 x_3 x_4 x_5 L M
  rw [Tree.holds_chk] at h
  obtain ⟨hp,h⟩:=h
  refine ⟨noAnn,_,fun v S hv=>holds_if h v S hv, ?_⟩
  rw [epushCVc L M id (⟨x_0,x_1,x_2,x_3,x_4,x_5⟩:Entry)]
  exact epushCHolds L M id (⟨x_0,x_1,x_2,x_3,x_4,x_5⟩:Entry) (of_decide_eq_true hp)
 ·exact h.elim)
noncomputable def epopCE0 (L:List EThing) (M:List (Int×Int)):Eff T O:=⟨some (.tup [.raw (.int .i64 0), .agg [.raw (.int .i64 0), .raw (.int .i64 0), .raw (.int .i64 0), .raw (.int .i64 0), .raw (.int .i64 0), .raw (.int .i64 0)], .raw (.bool false)]),[(1,some (.vec 5 (L) 200)),(2,some (.map 0 (M)))]⟩
noncomputable def epopCE1 (L:List EThing) (M:List (Int×Int)):Eff T O:=⟨some (.tup [.raw (.int .i64 (at' etz L 0).Id), .agg [.raw (.int .i64 (at' etz L 0).XID), .raw (.int .i64 (at' etz L 0).XSubIndex), .raw (.int .i64 (at' etz L 0).XSubRelease), .raw (.int .i64 (at' etz L 0).XSubDeadline), .raw (.int .i64 (at' etz L 0).XSubBit), .raw (.int .i64 (at' etz L 0).XSubGroup)], .raw (.bool true)]),[(0,some (.cells [.fn 40 [], .own 3, .own 2] 146)),(1,none),(2,some (.map 0 (etakeH (L,M) 0).2)),(3,some (.vec 5 (etakeH (L,M) 0).1 200))]⟩
def epopCText (L:List EThing) (M:List (Int×Int)):Prop:=let q0:=((0:Int)=(0:Int));let q1:=(etakeH (L,M) (Int.toNat (0:Int)));let q2:=(etakeH (L,M) (0:Nat));let q3:=(True/\ (True/\ (True/\ True)));(match ((↑L.length:Int)==(0:Int)) with|true=>(match (L.length==(0:Nat)) with|true=>(((q0/\ ((q0/\ (q0/\ (q0/\ (q0/\ (q0/\ (q0/\ True))))))/\ ((false=false)/\ True)))/\ True)/\ (q3/\ ((L=L)/\ ((M=M)/\ True))))|false=>(((((at' etz L (0:Int)).Id=(0:Int))/\ ((((at' etz L (0:Int)).XID=(0:Int))/\ (((at' etz L (0:Int)).XSubIndex=(0:Int))/\ (((at' etz L (0:Int)).XSubRelease=(0:Int))/\ (((at' etz L (0:Int)).XSubDeadline=(0:Int))/\ (((at' etz L (0:Int)).XSubBit=(0:Int))/\ (((at' etz L (0:Int)).XSubGroup=(0:Int))/\ True))))))/\ ((true=false)/\ True)))/\ True)/\ (q3/\ ((q2.snd=M)/\ ((q2.fst=L)/\ True)))))|false=>(match (decide ((0:Int)<=(0:Int)/\ (0:Int)<(↑L.length:Int)/\ L.length<=(100000:Nat))) with|true=>(match (L.length==(0:Nat)) with|true=>(((((0:Int)=(at' etz L (0:Int)).Id)/\ ((((0:Int)=(at' etz L (0:Int)).XID)/\ (((0:Int)=(at' etz L (0:Int)).XSubIndex)/\ (((0:Int)=(at' etz L (0:Int)).XSubRelease)/\ (((0:Int)=(at' etz L (0:Int)).XSubDeadline)/\ (((0:Int)=(at' etz L (0:Int)).XSubBit)/\ (((0:Int)=(at' etz L (0:Int)).XSubGroup)/\ True))))))/\ ((false=true)/\ True)))/\ True)/\ ((True/\ (False/\ (True/\ True)))/\ (False/\ ((M=q1.snd)/\ True))))|false=>(((((at' etz L (0:Int)).Id=(at' etz L (0:Int)).Id)/\ ((((at' etz L (0:Int)).XID=(at' etz L (0:Int)).XID)/\ (((at' etz L (0:Int)).XSubIndex=(at' etz L (0:Int)).XSubIndex)/\ (((at' etz L (0:Int)).XSubRelease=(at' etz L (0:Int)).XSubRelease)/\ (((at' etz L (0:Int)).XSubDeadline=(at' etz L (0:Int)).XSubDeadline)/\ (((at' etz L (0:Int)).XSubBit=(at' etz L (0:Int)).XSubBit)/\ (((at' etz L (0:Int)).XSubGroup=(at' etz L (0:Int)).XSubGroup)/\ True))))))/\ ((true=true)/\ True)))/\ True)/\ (q3/\ ((q2.snd=q1.snd)/\ ((q2.fst=q1.fst)/\ True)))))|false=>False))
theorem epopCVc (L:List EThing) (M:List (Int×Int)):fnX X14 (noAnn) Tryz.f86 [.ptr 0 0] [.cells [.fn 40 [], .own 1, .own 2] 146, .vec 5 L 200, .map 0 M] (endsIf (L.length==0) [.cells [.fn 40 [], .own 1, .own 2] 146, .vec 5 L 200, .map 0 M] (epopCE0 L M) (epopCE1 L M))=epopCText L M:=by kernel_rfl
theorem epopCHolds (L:List EThing) (M:List (Int×Int)) (hp:L.length<=1000):epopCText L M:=by
 unfold epopCText
 conv=>zeta
 cases h:L.length==0
 ·have h0:L.length≠0:=by simpa using h
  rw [show ((L.length:Int)==(0:Int))=false by rw [beq_eq_false_iff_ne];omega,show decide ((0:Int)<=(0:Int)/\ (0:Int)<(L.length:Int)/\ L.length<=(100000:Nat))=true from decide_eq_true ⟨by omega,by omega,by omega⟩]
  repeat' first|trivial|rfl|apply And.intro
 ·have h0:L.length=0:=by simpa using h
  rw [show ((L.length:Int)==(0:Int))=true by rw [beq_iff_eq];omega]
  repeat' first|trivial|rfl|apply And.intro
noncomputable def epopCCon:Con T O:=fun args cs=>match args,cs with
 |[.ptr 0 0],[.cells [.fn 40 [], .own 1, .own 2] 146, .vec 5 L 200, .map 0 M]=>chk (decide (L.length<=1000)) (.ite (L.length==0) (.ret (epopCE0 L M)) (.ret (epopCE1 L M)))
 |_,_=> .fail
theorem epopCOk:ConOk R Tryz.prog 86 epopCCon:=con_of_fn R (X14) (good (X14) rfl (TabOk.con R X14Ok)) mixed Tryz.call86 Tryz.func86 epopCCon (by
 intro args cs K h
 unfold epopCCon at h
 split at h
 ·rename_i L M
  rw [Tree.holds_chk] at h
  obtain ⟨hp,h⟩:=h
  refine ⟨noAnn,_,fun v S hv=>holds_if h v S hv, ?_⟩
  rw [epopCVc L M]
  exact epopCHolds L M (of_decide_eq_true hp)
 ·exact h.elim)
noncomputable def eremoveCE0 (L:List EThing) (M:List (Int×Int)) (id:Int):Eff T O:=⟨some (.tup [.agg [.raw (.int .i64 (at' etz L (ewhereI id M)).XID), .raw (.int .i64 (at' etz L (ewhereI id M)).XSubIndex), .raw (.int .i64 (at' etz L (ewhereI id M)).XSubRelease), .raw (.int .i64 (at' etz L (ewhereI id M)).XSubDeadline), .raw (.int .i64 (at' etz L (ewhereI id M)).XSubBit), .raw (.int .i64 (at' etz L (ewhereI id M)).XSubGroup)], .raw (.bool true)]),[(0,some (.cells [.fn 40 [], .own 3, .own 2] 146)),(1,none),(2,some (.map 0 (etakeH (L,M) (ewhereI id M).toNat).2)),(3,some (.vec 5 (etakeH (L,M) (ewhereI id M).toNat).1 200))]⟩
noncomputable def eremoveCE1 (L:List EThing) (M:List (Int×Int)):Eff T O:=⟨some (.tup [.agg [.raw (.int .i64 0), .raw (.int .i64 0), .raw (.int .i64 0), .raw (.int .i64 0), .raw (.int .i64 0), .raw (.int .i64 0)], .raw (.bool false)]),[(1,some (.vec 5 (L) 200)),(2,some (.map 0 (M)))]⟩
def eremoveCText (L:List EThing) (M:List (Int×Int)) (id:Int):Prop:=let q0:=(at' etz L ((mget id M).getD (0:Int)));let q1:=(at' etz L (ewhereI id M));let q2:=(etakeH (L,M) (Int.toNat ((mget id M).getD (0:Int))));let q3:=((0:Int)=(0:Int));let q4:=(etakeH (L,M) (ewhereI id M).toNat);let q5:=(True/\ (True/\ (True/\ True)));(match (!(mget id M).isSome) with|true=>(match (ethereB id M) with|true=>(((((q1.XID=(0:Int))/\ ((q1.XSubIndex=(0:Int))/\ ((q1.XSubRelease=(0:Int))/\ ((q1.XSubDeadline=(0:Int))/\ ((q1.XSubBit=(0:Int))/\ ((q1.XSubGroup=(0:Int))/\ True))))))/\ ((true=false)/\ True))/\ True)/\ (q5/\ ((q4.snd=M)/\ ((q4.fst=L)/\ True))))|false=>((((q3/\ (q3/\ (q3/\ (q3/\ (q3/\ (q3/\ True))))))/\ ((false=false)/\ True))/\ True)/\ (q5/\ ((L=L)/\ ((M=M)/\ True)))))|false=>(match (decide ((0:Int)<=(mget id M).getD (0:Int)/\ (mget id M).getD (0:Int)<(↑L.length:Int)/\ L.length<=(100000:Nat))) with|true=>(match (ethereB id M) with|true=>(((((q1.XID=q0.XID)/\ ((q1.XSubIndex=q0.XSubIndex)/\ ((q1.XSubRelease=q0.XSubRelease)/\ ((q1.XSubDeadline=q0.XSubDeadline)/\ ((q1.XSubBit=q0.XSubBit)/\ ((q1.XSubGroup=q0.XSubGroup)/\ True))))))/\ ((true=true)/\ True))/\ True)/\ (q5/\ ((q4.snd=q2.snd)/\ ((q4.fst=q2.fst)/\ True))))|false=>((((((0:Int)=q0.XID)/\ (((0:Int)=q0.XSubIndex)/\ (((0:Int)=q0.XSubRelease)/\ (((0:Int)=q0.XSubDeadline)/\ (((0:Int)=q0.XSubBit)/\ (((0:Int)=q0.XSubGroup)/\ True))))))/\ ((false=true)/\ True))/\ True)/\ ((True/\ (False/\ (True/\ True)))/\ (False/\ ((M=q2.snd)/\ True)))))|false=>False))
theorem eremoveCVc (L:List EThing) (M:List (Int×Int)) (id:Int):fnX X14 (noAnn) Tryz.f94 [.ptr 0 0, .raw (.int .i64 id)] [.cells [.fn 40 [], .own 1, .own 2] 146, .vec 5 L 200, .map 0 M] (endsIf (ethereB id M) [.cells [.fn 40 [], .own 1, .own 2] 146, .vec 5 L 200, .map 0 M] (eremoveCE0 L M id) (eremoveCE1 L M))=eremoveCText L M id:=by kernel_rfl
theorem eremoveCHolds (L:List EThing) (M:List (Int×Int)) (id:Int) (hp:L.length<=1000/\ (ethereB id M=true->0<=ewhereI id M/\ ewhereI id M<L.length)):eremoveCText L M id:=by
 unfold eremoveCText
 conv=>zeta
 obtain ⟨h1,h2⟩:=hp
 cases h:ethereB id M
 ·rw [show (mget id M).isSome=false from h]
  repeat' first|trivial|rfl|apply And.intro
 ·obtain ⟨h3,h4⟩:=h2 h
  rw [show (mget id M).isSome=true from h,show decide ((0:Int)<=(mget id M).getD (0:Int)/\ (mget id M).getD (0:Int)<(L.length:Int)/\ L.length<=(100000:Nat))=true from decide_eq_true ⟨h3,h4,by omega⟩]
  repeat' first|trivial|rfl|apply And.intro
noncomputable def eremoveCCon:Con T O:=fun args cs=>match args,cs with
 |[.ptr 0 0, .raw (.int .i64 id)],[.cells [.fn 40 [], .own 1, .own 2] 146, .vec 5 L 200, .map 0 M]=>chk (decide (L.length<=1000/\ (ethereB id M=true->0<=ewhereI id M/\ ewhereI id M<L.length))) (.ite (ethereB id M) (.ret (eremoveCE0 L M id)) (.ret (eremoveCE1 L M)))
 |_,_=> .fail
theorem eremoveCOk:ConOk R Tryz.prog 94 eremoveCCon:=con_of_fn R (X14) (good (X14) rfl (TabOk.con R X14Ok)) mixed Tryz.call94 Tryz.func94 eremoveCCon (by
 intro args cs K h
 unfold eremoveCCon at h
 split at h
 ·rename_i id L M
  rw [Tree.holds_chk] at h
  obtain ⟨hp,h⟩:=h
  refine ⟨noAnn,_,fun v S hv=>holds_if h v S hv, ?_⟩
  rw [eremoveCVc L M id]
  exact eremoveCHolds L M id (of_decide_eq_true hp)
 ·exact h.elim)
noncomputable def tab15:Tab T O:=(98,epushCCon)::(86,epopCCon)::(94,eremoveCCon)::tab14
theorem tabOk15:TabOk R Tryz.prog tab15:=TabOk.cons R epushCOk<|TabOk.cons R epopCOk<|TabOk.cons R eremoveCOk<|tabOk14
end Go.Proofs.YtlfjbnflfdnoaaaGreat
namespace Go.Proofs.YtlfjbnflfdnoaaaGreat
open Go.Sx Go.Proofs Classical
theorem emget_mem {α:Type} {k:Int} {a:α}: ∀ {L:List (Int×α)},mget k L=some a->(k,a)∈L
 |[],h=>by cases h
 |(i,b)::L,h=>by
  simp only [mget] at h
  by_cases e:i=k
  ·rw [if_pos e] at h
   simp only [Option.some.injEq] at h
   subst h;subst e
   simp
  ·rw [if_neg e] at h
   simp [emget_mem h]
theorem emget_del {α:Type} (k j:Int): ∀L:List (Int×α),(L.map (·.1)).Nodup->mget j (mdel k L)=if j=k then none else mget j L
 |[],_=>by simp [mdel,mget]
 |(i,b)::L,hn=>by
  rw [List.map_cons,List.nodup_cons] at hn
  simp only [mdel]
  by_cases h:i=k
  ·rw [if_pos h]
   by_cases h2:j=k
   ·rw [if_pos h2]
    cases hm:mget j L with
    |none=>rfl
    |some a=>
     have:=emget_mem hm
     exact absurd (List.mem_map.2 ⟨_,this,rfl⟩) (by rw [h2,←h];exact hn.1)
   ·rw [if_neg h2]
    simp only [mget]
    rw [if_neg (by omega)]
  ·rw [if_neg h]
   simp only [mget,emget_del k j L hn.2]
   by_cases h2:i=j
   ·rw [if_pos h2,if_pos h2,if_neg (by omega)]
   ·rw [if_neg h2,if_neg h2]
structure eHOk (s:eHS) (C:List EThing):Prop where
 heap:eHp (egN s.1) s.1.length
 map:eMOk s.1 s.2
 perm:s.1.Perm C
theorem eHOk.len {s:eHS} {C:List EThing} (h:eHOk s C):s.1.length=C.length:=h.perm.length_eq
theorem eHOk.new:eHOk (enoThings,enoPlaces) []:=⟨fun j _ h=>absurd h (by simp [enoThings]),⟨fun i h=>absurd h (by simp [enoThings]),fun id v h=>(by cases h),List.nodup_nil⟩,List.Perm.refl _⟩
theorem egN_mem {L:List EThing} {i:Nat} (h:i<L.length):egN L i∈L:=by rw [egN_at h];exact List.getElem_mem h
theorem eHOk.where {s:eHS} {C:List EThing} (h:eHOk s C) {id:Int} (ht:ethereB id s.2=true): ∃i:Nat,i<s.1.length/\ ewhereI id s.2=i/\ (egN s.1 i).Id=id/\ egN s.1 i∈C:=by
 unfold ethereB at ht
 cases hm:mget id s.2 with
 |none=>rw [hm] at ht;cases ht
 |some v=>
  obtain ⟨i,hi,hv,hid⟩:=h.map.2.1 id v hm
  exact ⟨i,hi,by unfold ewhereI;rw [hm];exact hv,hid,h.perm.mem_iff.1 (egN_mem hi)⟩
theorem eHOk.there {s:eHS} {C:List EThing} (h:eHOk s C) (id:Int):ethereB id s.2=true↔ ∃a∈C,a.Id=id:=by
 constructor
 ·intro ht
  obtain ⟨i,_,_,hid,hm⟩:=h.where ht
  exact ⟨_,hm,hid⟩
 ·rintro ⟨a,ha,rfl⟩
  obtain ⟨i,hi,e⟩:=List.getElem_of_mem (h.perm.mem_iff.2 ha)
  have:=h.map.1 i hi
  rw [egN_at hi,e] at this
  unfold ethereB
  rw [this]
  rfl
theorem eHOk.one {s:eHS} {C:List EThing} (h:eHOk s C) {a b:EThing} (ha:a∈C) (hb:b∈C) (e:a.Id=b.Id):a=b:=by
 obtain ⟨i,hi,ea⟩:=List.getElem_of_mem (h.perm.mem_iff.2 ha)
 obtain ⟨k,hk,eb⟩:=List.getElem_of_mem (h.perm.mem_iff.2 hb)
 have:=h.map.inj hi hk (by rw [egN_at hi,egN_at hk,ea,eb,e])
 subst this
 rw [←ea,←eb]
theorem eHOk.min {s:eHS} {C:List EThing} (h:eHOk s C) (hl:0<s.1.length):egN s.1 0∈C/\ ∀a∈C,ele' (egN s.1 0) a:=by
 refine ⟨h.perm.mem_iff.1 (egN_mem hl),fun a ha=> ?_⟩
 obtain ⟨i,hi,rfl⟩:=List.getElem_of_mem (h.perm.mem_iff.2 ha)
 rw [←egN_at hi]
 have key: ∀n i,i<=n->i<s.1.length->ele' (egN s.1 0) (egN s.1 i):=by
  intro n
  induction n with
  |zero=>intro i hi _;have:i=0:=(by omega);subst this;exact ele_refl' _
  |succ n ih=>
   intro i hi hl
   by_cases h0:0<i
   ·have:=eup_lt h0
    exact ele_trans' (ih (eup i) (by omega) (by omega)) (h.heap i h0 hl)
   ·have:i=0:=(by omega);subst this;exact ele_refl' _
 exact key i i (Nat.le_refl _) hi
theorem egN_left {L:List EThing} {t:EThing} {j:Nat} (h:j<L.length):egN (L++[t]) j=egN L j:=by
 have h2:j<(L++[t]).length:=by simp;omega
 rw [egN_at h,egN_at h2,List.getElem_append_left h]
theorem egN_last {L:List EThing} {t:EThing}:egN (L++[t]) L.length=t:=by
 have h2:L.length<(L++[t]).length:=by simp
 rw [egN_at h2]
 simp
theorem eHOk.push {s:eHS} {C:List EThing} (h:eHOk s C) {id:Int} {x:Entry} (hid:ethereB id s.2=false):eHOk (epushH s id x) (ething id x::C):=by
 obtain ⟨L,M⟩:=s
 have hl:(L++[ething id x]).length=L.length+1:=by simp
 have hno:mget id M=none:=by
  unfold ethereB at hid
  cases hm:mget id M with
  |none=>rfl
  |some v=>dsimp only at hid;rw [hm] at hid;cases hid
 have hm:eMOk (L++[ething id x]) (mput id L.length M):=by
  refine ⟨fun i hi=> ?_,fun k v hv=> ?_,mput_nodup _ _ _ h.map.2.2⟩
  ·rw [mget_put]
   by_cases e:i=L.length
   ·subst e
    rw [egN_last]
    exact if_pos rfl
   ·have hi':i<L.length:=by omega
    rw [egN_left hi']
    have hg:=h.map.1 i hi'
    have hne: ¬(egN L i).Id=id:=by
     intro e2
     have hg:mget (egN L i).Id M=some (i:Int):=hg
     rw [e2,hno] at hg
     cases hg
    rw [if_neg hne]
    exact hg
  ·rw [mget_put] at hv
   by_cases e:k=id
   ·rw [if_pos e] at hv
    exact ⟨L.length,by omega,(Option.some.inj hv).symm,by rw [egN_last,e];rfl⟩
   ·rw [if_neg e] at hv
    obtain ⟨i,hi,h1,h2⟩:=h.map.2.1 k v hv
    exact ⟨i,by have:i<L.length:=hi;omega,h1,by rw [egN_left hi];exact h2⟩
 have hr:eRiseOk (L++[ething id x]) L.length:=by
  refine ⟨fun j hj0 hj hne=> ?_,fun j h0 hj hj0 hu=> ?_⟩
  ·have hj':j<L.length:=by omega
   have:=eup_lt hj0
   rw [egN_left hj',egN_left (by omega)]
   exact h.heap j hj0 hj'
  ·have:=eup_lt hj0
   omega
 obtain ⟨a1,a2,a3,a4⟩:=erise_all L.length (L++[ething id x],mput id L.length M) L.length (Nat.le_refl _) (by rw [hl];omega) hr hm
 refine ⟨?_,a2, ?_⟩
 ·have e:(epushH (L,M) id x).1.length=(L++[ething id x]).length:=a4
  rw [e]
  exact a1
 ·refine a3.trans ?_
  refine (List.perm_append_singleton _ _).trans ?_
  exact List.Perm.cons _ h.perm
theorem eHOk.take {s:eHS} {C:List EThing} (h:eHOk s C) {i:Nat} (hi:i<s.1.length): ∃C',C.Perm (egN s.1 i::C')/\ eHOk (etakeH s i) C':=by
 obtain ⟨L,M⟩:=s
 dsimp only at hi
 have hn:L.length-1<L.length:=by omega
 have hperm:(eswapL L i (L.length-1:Nat)).Perm L:=eswap_perm hi hn
 have hmap:=h.map.swap hi hn
 have hl1:(eswapL L i (L.length-1:Nat)).length=L.length:=eswapL_length _ _ _
 have hat: ∀j,j<L.length->egN (eswapL L i (L.length-1:Nat)) j=if j=L.length-1 then egN L i else if j=i then egN L (L.length-1) else egN L j:=fun j hj=>eswap_at hi hn j hj
 have hl2:((eswapL L i (L.length-1:Nat)).take (L.length-1)).length=L.length-1:=by rw [List.length_take,hl1];omega
 have hat2: ∀j,j<L.length-1->egN ((eswapL L i (L.length-1:Nat)).take (L.length-1)) j=if j=i then egN L (L.length-1) else egN L j:=by
  intro j hj
  have h1:j<(eswapL L i (L.length-1:Nat)).length:=by rw [hl1];omega
  have e:=hat j (by omega)
  rw [if_neg (by omega)] at e
  rw [egN_at (by rw [hl2];exact hj),List.getElem_take,←egN_at h1]
  exact e
 have hsplit:(eswapL L i (L.length-1:Nat))=(eswapL L i (L.length-1:Nat)).take (L.length-1)++[egN L i]:=by
  have h1:L.length-1<(eswapL L i (L.length-1:Nat)).length:=by rw [hl1];exact hn
  have e:=hat (L.length-1) hn
  rw [if_pos rfl,egN_at h1] at e
  rw [←e,←take_at h1]
  rw [List.take_of_length_le (by rw [hl1];omega)]
 have hp2:L.Perm (egN L i::(eswapL L i (L.length-1:Nat)).take (L.length-1)):=by
  refine hperm.symm.trans ?_
  conv=>lhs;rw [hsplit]
  exact List.perm_append_singleton _ _
 have hm2:eMOk ((eswapL L i (L.length-1:Nat)).take (L.length-1)) (mdel (egN L i).Id (eswapM L M i (L.length-1:Nat))):=by
  have same: ∀j,j<L.length-1->egN ((eswapL L i (L.length-1:Nat)).take (L.length-1)) j=egN (eswapL L i (L.length-1:Nat)) j:=by
   intro j hj
   rw [hat2 j hj,hat j (by omega),if_neg (show ¬j=L.length-1 by omega)]
  have hlast:=hat (L.length-1) hn
  rw [if_pos rfl] at hlast
  refine ⟨fun j hj=> ?_,fun id v hv=> ?_,mdel_nodup _ _ hmap.2.2⟩
  ·rw [hl2] at hj
   rw [same j hj,emget_del _ _ _ hmap.2.2]
   have hne: ¬(egN (eswapL L i (L.length-1:Nat)) j).Id=(egN L i).Id:=by
    intro e
    rw [←hlast] at e
    have:=hmap.inj (by rw [hl1];omega) (by rw [hl1];exact hn) e
    omega
   rw [if_neg hne]
   exact hmap.1 j (by rw [hl1];omega)
  ·rw [emget_del _ _ _ hmap.2.2] at hv
   by_cases e:id=(egN L i).Id
   ·rw [if_pos e] at hv;cases hv
   ·rw [if_neg e] at hv
    obtain ⟨j,hj,h1,h2⟩:=hmap.2.1 id v hv
    rw [hl1] at hj
    have hne:j≠L.length-1:=by
     intro e2
     subst e2
     rw [hlast] at h2
     exact e h2.symm
    exact ⟨j,by rw [hl2];omega,h1,by rw [same j (by omega)];exact h2⟩
 have heap:=h.heap
 dsimp only at heap
 refine ⟨(eswapL L i (L.length-1:Nat)).take (L.length-1),h.perm.symm.trans hp2, ?_⟩
 unfold etakeH
 dsimp only
 have ei:at' etz L (i:Int)=egN L i:=rfl
 rw [ei]
 by_cases hlt:i<L.length-1
 ·rw [decide_eq_true hlt]
  simp only [cond_true]
  have hb: ∀j,0<j->j<L.length-1->j≠i->eup j≠i->ele' (egN ((eswapL L i (L.length-1:Nat)).take (L.length-1)) (eup j)) (egN ((eswapL L i (L.length-1:Nat)).take (L.length-1)) j):=by
   intro j hj0 hj h1 h2
   have:=eup_lt hj0
   rw [hat2 j hj,hat2 (eup j) (by omega),if_neg h1,if_neg h2]
   exact heap j hj0 (by omega)
  have hc:0<i-> ∀j,j<L.length-1->0<j->eup j=i->ele' (egN ((eswapL L i (L.length-1:Nat)).take (L.length-1)) (eup i)) (egN ((eswapL L i (L.length-1:Nat)).take (L.length-1)) j):=by
   intro h0 j hj hj0 hu
   have u1:=eup_lt hj0
   have u2:=eup_lt h0
   rw [hat2 j hj,hat2 (eup i) (by omega),if_neg (show ¬j=i by omega),if_neg (show ¬eup i=i by omega)]
   have a:=heap j hj0 (by omega)
   rw [hu] at a
   exact ele_trans' (heap i h0 hi) a
  generalize hL2:(eswapL L i (L.length-1:Nat)).take (L.length-1)=L2 at*
  generalize hM2:mdel (egN L i).Id (eswapM L M i (L.length-1:Nat))=M2 at*
  have hi2:i<L2.length:=by rw [hl2];exact hlt
  have hrise:eSinkOk (eriseN i (L2,M2) i).1 i/\ eMOk (eriseN i (L2,M2) i).1 (eriseN i (L2,M2) i).2/\ (eriseN i (L2,M2) i).1.Perm L2/\ (eriseN i (L2,M2) i).1.length=L2.length:=by
   cases i with
   |zero=>
    refine ⟨⟨fun j hj0 hj hu=> ?_,fun j h0=>absurd h0 (Nat.lt_irrefl _)⟩,hm2,List.Perm.refl _,rfl⟩
    exact hb j hj0 (by rw [←hl2];exact hj) (by omega) hu
   |succ k=>
    have h0:0<k+1:=Nat.succ_pos k
    have hu:=eup_lt h0
    simp only [eriseN]
    rw [decide_eq_true h0,Bool.true_and]
    cases ha:eaheadA L2 ((k+1:Nat):Int) (eup (k+1):Int)
    ·have hle:=(eahead_false _ _).1 ha
     refine ⟨⟨fun j hj0 hj hup=> ?_,fun j _ hj hj0 hup=>hc h0 j (by rw [←hl2];exact hj) hj0 hup⟩,hm2,List.Perm.refl _,rfl⟩
     by_cases e:j=k+1
     ·rw [e];exact hle
     ·exact hb j hj0 (by rw [←hl2];exact hj) e hup
    ·have hle:=(eahead_iff _ _).1 ha
     have hr':=erise_step hi2 h0 (fun j a b c d=>hb j a (by rw [←hl2];exact b) c d) (fun j a b c=>hc h0 j (by rw [←hl2];exact a) b c) hle
     have hup:eup (k+1)<L2.length:=by omega
     obtain ⟨a1,a2,a3,a4⟩:=erise_all k (eswapH (L2,M2) (k+1:Nat) (eup (k+1))) (eup (k+1)) (by omega) (by show eup (k+1)<(eswapL L2 (k+1:Nat) (eup (k+1))).length;rw [eswapL_length];exact hup) hr' (hm2.swap hi2 hup)
     have el:(eswapH (L2,M2) (k+1:Nat) (eup (k+1))).1.length=L2.length:=eswapL_length _ _ _
     rw [el] at a1 a4
     simp only [cond_true]
     refine ⟨⟨fun j hj0 hj _=>a1 j hj0 (by rw [←a4];exact hj),fun j _ hj hj0 hup2=> ?_⟩,a2,a3.trans (eswap_perm hi2 hup),a4⟩
     have b1:=a1 j hj0 (by rw [←a4];exact hj)
     rw [hup2] at b1
     exact ele_trans' (a1 (k+1) h0 hi2) b1
  obtain ⟨r1,r2,r3,r4⟩:=hrise
  obtain ⟨a1,a2,a3,a4⟩:=esink_all (L.length-1-i) (eriseN i (L2,M2) i) i (by rw [r4,hl2];exact Nat.le_refl _) (by rw [r4];exact hi2) r1 r2
  exact ⟨by rw [a4];exact a1,a2,a3.trans r3⟩
 ·rw [decide_eq_false hlt]
  simp only [cond_false]
  refine ⟨fun j hj0 hj=> ?_,hm2,List.Perm.refl _⟩
  dsimp only at hj ⊢
  rw [hl2] at hj
  have:=eup_lt hj0
  rw [hat2 j hj,hat2 (eup j) (by omega),if_neg (show ¬j=i by omega),if_neg (show ¬eup j=i by omega)]
  exact heap j hj0 (by omega)
noncomputable def tab16:Tab T O:=tab15
theorem tabOk16:TabOk R Tryz.prog tab16:=tabOk15
noncomputable def X16:Ctx T O:= { X0 with con:=conOf tab16 }
theorem X16Ok:TabOk R X16.P tab16:=tabOk16
end Go.Proofs.YtlfjbnflfdnoaaaGreat
namespace Go.Proofs.YtlfjbnflfdnoaaaGreat
open Go.Sx Go.Proofs Classical
noncomputable def newCE0:Eff T O:=⟨some (.ptr 0 0),[(0,some (.cells [.ptr 1 0] 156)),(1,some (.cells [.fn 83 [], .own 2, .own 3] 198)),(2,some (.vec 6 vnoThings 242)),(3,some (.map 0 vnoPlaces))]⟩
def newCText:Prop:=((True/\ True)/\ ((True/\ True)/\ ((True/\ (True/\ (True/\ True)))/\ ((vnoThings=vnoThings)/\ ((vnoPlaces=vnoPlaces)/\ True)))))
theorem newCVc:fnX X16 (noAnn) Tryz.f41 [] [] (ends [] (newCE0))=newCText:=by kernel_rfl
theorem newCHolds:newCText:=by
 unfold newCText
 repeat' first|trivial|rfl|apply And.intro
noncomputable def newCCon:Con T O:=fun args cs=>match args,cs with
 |[],[]=> .ret (newCE0)
 |_,_=> .fail
theorem newCOk:ConOk R Tryz.prog 41 newCCon:=con_of_fn R (X16) (good (X16) rfl (TabOk.con R X16Ok)) mixed Tryz.call41 Tryz.func41 newCCon (by
 intro args cs K h
 unfold newCCon at h
 split at h
 ·
  refine ⟨noAnn,_,fun v S hv=>⟨_,h,hv⟩, ?_⟩
  rw [newCVc]
  exact newCHolds
 ·exact h.elim)
def noneCK0Text (L:List VThing) (M:List (Int×Int)):Prop:=(((false=false)/\ True)/\ ((True/\ True)/\ ((True/\ (True/\ (True/\ True)))/\ ((L=L)/\ ((M=M)/\ True)))))
theorem noneCK0Vc (L:List VThing) (M:List (Int×Int)):fnX X16 (noAnn) Tryz.f140 [.ptr 0 0] [.cells [.ptr 1 0] 156, .cells [.fn 83 [], .own 2, .own 3] 198, .vec 6 L 242, .map 0 M] (ends [.cells [.ptr 1 0] 156, .cells [.fn 83 [], .own 2, .own 3] 198, .vec 6 L 242, .map 0 M] ⟨some (.raw (.bool false)),[(2,some (.vec 6 L 242)),(3,some (.map 0 M))]⟩)=noneCK0Text L M:=by kernel_rfl
theorem noneCK0Holds (L:List VThing) (M:List (Int×Int)):noneCK0Text L M:=by
 unfold noneCK0Text
 repeat' first|trivial|rfl|apply And.intro
def noneCK1Text:Prop:=(((true=true)/\ True)/\ (((Value.pointer none=Value.pointer none)/\ True)/\ True))
theorem noneCK1Vc:fnX X16 (noAnn) Tryz.f140 [.ptr 0 0] [.cells [.raw (.pointer none)] 156] (ends [.cells [.raw (.pointer none)] 156] ⟨some (.raw (.bool true)),[]⟩)=noneCK1Text:=by kernel_rfl
theorem noneCK1Holds:noneCK1Text:=by
 unfold noneCK1Text
 repeat' first|trivial|rfl|apply And.intro
def noneCK2Text:Prop:=(((true=true)/\ True)/\ True)
theorem noneCK2Vc:fnX X16 (noAnn) Tryz.f140 [.raw (.pointer none)] [] (ends [] ⟨some (.raw (.bool true)),[]⟩)=noneCK2Text:=by kernel_rfl
theorem noneCK2Holds:noneCK2Text:=by
 unfold noneCK2Text
 repeat' first|trivial|rfl|apply And.intro
noncomputable def noneCCon:Con T O:=fun args cs=>match args,cs with
 |[.ptr 0 0],[.cells [.ptr 1 0] 156, .cells [.fn 83 [], .own 2, .own 3] 198, .vec 6 L 242, .map 0 M]=> .ret ⟨some (.raw (.bool false)),[(2,some (.vec 6 L 242)),(3,some (.map 0 M))]⟩
 |[.ptr 0 0],[.cells [.raw (.pointer none)] 156]=> .ret ⟨some (.raw (.bool true)),[]⟩
 |[.raw (.pointer none)],[]=> .ret ⟨some (.raw (.bool true)),[]⟩
 |_,_=> .fail
theorem noneCOk:ConOk R Tryz.prog 140 noneCCon:=con_of_fn R (X16) (good (X16) rfl (TabOk.con R X16Ok)) mixed Tryz.call140 Tryz.func140 noneCCon (by
 intro args cs K h
 unfold noneCCon at h
 split at h
 ·rename_i L M
  refine ⟨noAnn,_,fun v S hv=>⟨_,h,hv⟩, ?_⟩
  rw [noneCK0Vc L M]
  exact noneCK0Holds L M
 ·
  refine ⟨noAnn,_,fun v S hv=>⟨_,h,hv⟩, ?_⟩
  rw [noneCK1Vc]
  exact noneCK1Holds
 ·
  refine ⟨noAnn,_,fun v S hv=>⟨_,h,hv⟩, ?_⟩
  rw [noneCK2Vc]
  exact noneCK2Holds
 ·exact h.elim)
noncomputable def tab17:Tab T O:=(41,newCCon)::(140,noneCCon)::tab16
theorem tabOk17:TabOk R Tryz.prog tab17:=TabOk.cons R newCOk<|TabOk.cons R noneCOk<|tabOk16
noncomputable def X17:Ctx T O:= { X0 with con:=conOf tab17 }
theorem X17Ok:TabOk R X17.P tab17:=tabOk17
end Go.Proofs.YtlfjbnflfdnoaaaGreat
namespace Go.Proofs.YtlfjbnflfdnoaaaGreat
open Go.Sx Go.Proofs Classical
noncomputable def putCK0E0 (L:List VThing) (M:List (Int×Int)) (e:Ev):Eff T O:=⟨some (.raw (.int .i64 0)),[(1,some (.cells [.fn 83 [], .own 4, .own 3] 198)),(2,none),(3,some (.map 0 (vpushH (L,M) (calendarNumber e.ID e.Kind) e).2)),(4,some (.vec 6 (vpushH (L,M) (calendarNumber e.ID e.Kind) e).1 242))]⟩
def putCK0Text (L:List VThing) (M:List (Int×Int)) (e:Ev):Prop:=let q4:=(True/\ (True/\ (True/\ True)));let q1:=(vpushH (L,M) (calendarNumber e.ID e.Kind) e);let q5:=((True/\ True)/\ (q4/\ ((q1.snd=M)/\ ((q1.fst=L)/\ True))));let q3:=(bif calendarRight e.ID e.Kind&&decide ((0:Int)<=e.At) then (14:Int) else (1:Int));let q2:=(calendarRight e.ID e.Kind&&decide ((0:Int)<=e.At)&& !vthereB (calendarNumber e.ID e.Kind) M);let q0:=(match q2 with|true=>((((0:Int)=(1:Int))/\ True)/\ q5)|false=>(((q3=(1:Int))/\ True)/\ ((True/\ True)/\ (q4/\ ((L=L)/\ ((M=M)/\ True))))));(match (!calendarRight e.ID e.Kind) with|true=>q0|false=>(match (decide (e.At<(0:Int))) with|true=>q0|false=>(match (decide (L.length<=(1000:Nat))) with|true=>(match (vthereB (calendarNumber e.ID e.Kind) M) with|true=>(match q2 with|true=>((((0:Int)=(14:Int))/\ True)/\ q5)|false=>(((q3=(14:Int))/\ True)/\ ((True/\ True)/\ (q4/\ ((L=L)/\ ((M=M)/\ True))))))|false=>(match q2 with|true=>((((0:Int)=(0:Int))/\ True)/\ ((True/\ True)/\ (q4/\ ((q1.snd=q1.snd)/\ ((q1.fst=q1.fst)/\ True)))))|false=>(((q3=(0:Int))/\ True)/\ ((True/\ True)/\ ((True/\ (False/\ (True/\ True)))/\ (False/\ ((M=q1.snd)/\ True)))))))|false=>False)))
theorem putCK0Vc (L:List VThing) (M:List (Int×Int)) (e:Ev):fnX X17 (noAnn) Tryz.f99 [.ptr 0 0, .agg [.raw (.int .i64 e.At), .raw (.int .i64 e.ID), .raw (.int .i64 e.Kind)]] [.cells [.ptr 1 0] 156, .cells [.fn 83 [], .own 2, .own 3] 198, .vec 6 L 242, .map 0 M] (endsIf (calendarRight e.ID e.Kind&&decide (0<=e.At)&& !vthereB (calendarNumber e.ID e.Kind) M) [.cells [.ptr 1 0] 156, .cells [.fn 83 [], .own 2, .own 3] 198, .vec 6 L 242, .map 0 M] (putCK0E0 L M e) ⟨some (.raw (.int .i64 (bif calendarRight e.ID e.Kind&&decide (0<=e.At) then 14 else 1))),[(2,some (.vec 6 L 242)),(3,some (.map 0 M))]⟩)=putCK0Text L M e:=by kernel_rfl
theorem putCK0Holds (L:List VThing) (M:List (Int×Int)) (e:Ev) (hp:L.length<=1000):putCK0Text L M e:=by
 unfold putCK0Text
 conv=>zeta
 cases calendarRight e.ID e.Kind
 ·repeat' first|trivial|rfl|apply And.intro
 ·by_cases h0:0<=e.At
  ·rw [decide_eq_true h0,show decide (e.At<0)=false from decide_eq_false (by omega),decide_eq_true hp]
   cases vthereB (calendarNumber e.ID e.Kind) M
   ·repeat' first|trivial|rfl|apply And.intro
   ·repeat' first|trivial|rfl|apply And.intro
  ·rw [decide_eq_false h0,show decide (e.At<0)=true from decide_eq_true (by omega)]
   repeat' first|trivial|rfl|apply And.intro
def putCK1Text (e:Ev):Prop:=((((1:Int)=(1:Int))/\ True)/\ (((Value.pointer none=Value.pointer none)/\ True)/\ True))
theorem putCK1Vc (e:Ev):fnX X17 (noAnn) Tryz.f99 [.ptr 0 0, .agg [.raw (.int .i64 e.At), .raw (.int .i64 e.ID), .raw (.int .i64 e.Kind)]] [.cells [.raw (.pointer none)] 156] (ends [.cells [.raw (.pointer none)] 156] ⟨some (.raw (.int .i64 1)),[]⟩)=putCK1Text e:=by kernel_rfl
theorem putCK1Holds (e:Ev):putCK1Text e:=by
 unfold putCK1Text
 repeat' first|trivial|rfl|apply And.intro
def putCK2Text (e:Ev):Prop:=((((1:Int)=(1:Int))/\ True)/\ True)
theorem putCK2Vc (e:Ev):fnX X17 (noAnn) Tryz.f99 [.raw (.pointer none), .agg [.raw (.int .i64 e.At), .raw (.int .i64 e.ID), .raw (.int .i64 e.Kind)]] [] (ends [] ⟨some (.raw (.int .i64 1)),[]⟩)=putCK2Text e:=by kernel_rfl
theorem putCK2Holds (e:Ev):putCK2Text e:=by
 unfold putCK2Text
 repeat' first|trivial|rfl|apply And.intro
noncomputable def putCCon:Con T O:=fun args cs=>match args,cs with
 |[.ptr 0 0, .agg [.raw (.int .i64 e_0), .raw (.int .i64 e_1), .raw (.int .i64 e_2)]],[.cells [.ptr 1 0] 156, .cells [.fn 83 [], .own 2, .own 3] 198, .vec 6 L 242, .map 0 M]=>chk (decide (L.length<=1000)) (.ite (calendarRight (⟨e_0,e_1,e_2⟩:Ev).ID (⟨e_0,e_1,e_2⟩:Ev).Kind&&decide (0<=(⟨e_0,e_1,e_2⟩:Ev).At)&& !vthereB (calendarNumber (⟨e_0,e_1,e_2⟩:Ev).ID (⟨e_0,e_1,e_2⟩:Ev).Kind) M) (.ret (putCK0E0 L M (⟨e_0,e_1,e_2⟩:Ev))) (.ret ⟨some (.raw (.int .i64 (bif calendarRight (⟨e_0,e_1,e_2⟩:Ev).ID (⟨e_0,e_1,e_2⟩:Ev).Kind&&decide (0<=(⟨e_0,e_1,e_2⟩:Ev).At) then 14 else 1))),[(2,some (.vec 6 L 242)),(3,some (.map 0 M))]⟩))
 |[.ptr 0 0, .agg [.raw (.int .i64 _), .raw (.int .i64 _), .raw (.int .i64 _)]],[.cells [.raw (.pointer none)] 156]=> .ret ⟨some (.raw (.int .i64 1)),[]⟩
 |[.raw (.pointer none), .agg [.raw (.int .i64 _), .raw (.int .i64 _), .raw (.int .i64 _)]],[]=> .ret ⟨some (.raw (.int .i64 1)),[]⟩
 |_,_=> .fail
theorem putCOk:ConOk R Tryz.prog 99 putCCon:=con_of_fn R (X17) (good (X17) rfl (TabOk.con R X17Ok)) mixed Tryz.call99 Tryz.func99 putCCon (by
 intro args cs K h
 unfold putCCon at h
 split at h
 ·rename_i e_0 e_1 e_2 L M
  rw [Tree.holds_chk] at h
  obtain ⟨hp,h⟩:=h
  refine ⟨noAnn,_,fun v S hv=>holds_if h v S hv, ?_⟩
  rw [putCK0Vc L M (⟨e_0,e_1,e_2⟩:Ev)]
  exact putCK0Holds L M (⟨e_0,e_1,e_2⟩:Ev) (of_decide_eq_true hp)
 ·rename_i e_0 e_1 e_2
  refine ⟨noAnn,_,fun v S hv=>⟨_,h,hv⟩, ?_⟩
  rw [putCK1Vc (⟨e_0,e_1,e_2⟩:Ev)]
  exact putCK1Holds (⟨e_0,e_1,e_2⟩:Ev)
 ·rename_i e_0 e_1 e_2
  refine ⟨noAnn,_,fun v S hv=>⟨_,h,hv⟩, ?_⟩
  rw [putCK2Vc (⟨e_0,e_1,e_2⟩:Ev)]
  exact putCK2Holds (⟨e_0,e_1,e_2⟩:Ev)
 ·exact h.elim)
noncomputable def dropCK0E0 (L:List VThing) (M:List (Int×Int)) (id:Int) (kind:Int):Eff T O:=⟨some (.tup [.agg [.raw (.int .i64 (at' vtz L (vwhereI (calendarNumber id kind) M)).XAt), .raw (.int .i64 (at' vtz L (vwhereI (calendarNumber id kind) M)).XID), .raw (.int .i64 (at' vtz L (vwhereI (calendarNumber id kind) M)).XKind)], .raw (.bool true)]),[(1,some (.cells [.fn 83 [], .own 4, .own 3] 198)),(2,none),(3,some (.map 0 (vtakeH (L,M) (vwhereI (calendarNumber id kind) M).toNat).2)),(4,some (.vec 6 (vtakeH (L,M) (vwhereI (calendarNumber id kind) M).toNat).1 242))]⟩
noncomputable def dropCK0E1 (L:List VThing) (M:List (Int×Int)):Eff T O:=⟨some (.tup [.agg [.raw (.int .i64 0), .raw (.int .i64 0), .raw (.int .i64 0)], .raw (.bool false)]),[(2,some (.vec 6 L 242)),(3,some (.map 0 M))]⟩
def dropCK0Text (L:List VThing) (M:List (Int×Int)) (id kind:Int):Prop:=let q2:=(calendarNumber id kind);let q1:=(vwhereI q2 M);let q4:=(True/\ (True/\ (True/\ True)));let q3:=(vtakeH (L,M) q1.toNat);let q0:=(match (calendarRight id kind&&vthereB q2 M) with|true=>((((((at' vtz L q1).XAt=(0:Int))/\ (((at' vtz L q1).XID=(0:Int))/\ (((at' vtz L q1).XKind=(0:Int))/\ True)))/\ ((true=false)/\ True))/\ True)/\ ((True/\ True)/\ (q4/\ ((q3.snd=M)/\ ((q3.fst=L)/\ True)))))|false=>((((((0:Int)=(0:Int))/\ (((0:Int)=(0:Int))/\ (((0:Int)=(0:Int))/\ True)))/\ ((false=false)/\ True))/\ True)/\ ((True/\ True)/\ (q4/\ ((L=L)/\ ((M=M)/\ True))))));(match (!calendarRight id kind) with|true=>q0|false=>(match (decide (L.length<=(1000:Nat)/\ (vthereB q2 M=true->(0:Int)<=vwhereI q2 M/\ vwhereI q2 M<(↑L.length:Int)))) with|true=>(match (vthereB q2 M) with|true=>(match (calendarRight id kind&&vthereB q2 M) with|true=>((((((at' vtz L q1).XAt=(at' vtz L q1).XAt)/\ (((at' vtz L q1).XID=(at' vtz L q1).XID)/\ (((at' vtz L q1).XKind=(at' vtz L q1).XKind)/\ True)))/\ ((true=true)/\ True))/\ True)/\ ((True/\ True)/\ (q4/\ ((q3.snd=q3.snd)/\ ((q3.fst=q3.fst)/\ True)))))|false=>((((((0:Int)=(at' vtz L q1).XAt)/\ (((0:Int)=(at' vtz L q1).XID)/\ (((0:Int)=(at' vtz L q1).XKind)/\ True)))/\ ((false=true)/\ True))/\ True)/\ ((True/\ True)/\ ((True/\ (False/\ (True/\ True)))/\ (False/\ ((M=q3.snd)/\ True))))))|false=>q0)|false=>False))
theorem dropCK0Vc (L:List VThing) (M:List (Int×Int)) (id kind:Int):fnX X17 (noAnn) Tryz.f95 [.ptr 0 0, .raw (.int .i64 id), .raw (.int .i64 kind)] [.cells [.ptr 1 0] 156, .cells [.fn 83 [], .own 2, .own 3] 198, .vec 6 L 242, .map 0 M] (endsIf (calendarRight id kind&&vthereB (calendarNumber id kind) M) [.cells [.ptr 1 0] 156, .cells [.fn 83 [], .own 2, .own 3] 198, .vec 6 L 242, .map 0 M] (dropCK0E0 L M id kind) (dropCK0E1 L M))=dropCK0Text L M id kind:=by kernel_rfl
theorem dropCK0Holds (L:List VThing) (M:List (Int×Int)) (id kind:Int) (hp:L.length<=1000/\ (vthereB (calendarNumber id kind) M=true->0<=vwhereI (calendarNumber id kind) M/\ vwhereI (calendarNumber id kind) M<L.length)):dropCK0Text L M id kind:=by
 unfold dropCK0Text
 conv=>zeta
 cases calendarRight id kind
 ·repeat' first|trivial|rfl|apply And.intro
 ·rw [decide_eq_true hp]
  cases vthereB (calendarNumber id kind) M
  ·repeat' first|trivial|rfl|apply And.intro
  ·repeat' first|trivial|rfl|apply And.intro
def dropCK1Text (id kind:Int):Prop:=((((((0:Int)=(0:Int))/\ (((0:Int)=(0:Int))/\ (((0:Int)=(0:Int))/\ True)))/\ ((false=false)/\ True))/\ True)/\ (((Value.pointer none=Value.pointer none)/\ True)/\ True))
theorem dropCK1Vc (id kind:Int):fnX X17 (noAnn) Tryz.f95 [.ptr 0 0, .raw (.int .i64 id), .raw (.int .i64 kind)] [.cells [.raw (.pointer none)] 156] (ends [.cells [.raw (.pointer none)] 156] ⟨some (.tup [.agg [.raw (.int .i64 0), .raw (.int .i64 0), .raw (.int .i64 0)], .raw (.bool false)]),[]⟩)=dropCK1Text id kind:=by kernel_rfl
theorem dropCK1Holds (id kind:Int):dropCK1Text id kind:=by
 unfold dropCK1Text
 repeat' first|trivial|rfl|apply And.intro
def dropCK2Text (id kind:Int):Prop:=((((((0:Int)=(0:Int))/\ (((0:Int)=(0:Int))/\ (((0:Int)=(0:Int))/\ True)))/\ ((false=false)/\ True))/\ True)/\ True)
theorem dropCK2Vc (id kind:Int):fnX X17 (noAnn) Tryz.f95 [.raw (.pointer none), .raw (.int .i64 id), .raw (.int .i64 kind)] [] (ends [] ⟨some (.tup [.agg [.raw (.int .i64 0), .raw (.int .i64 0), .raw (.int .i64 0)], .raw (.bool false)]),[]⟩)=dropCK2Text id kind:=by kernel_rfl
theorem dropCK2Holds (id kind:Int):dropCK2Text id kind:=by
 unfold dropCK2Text
 repeat' first|trivial|rfl|apply And.intro
noncomputable def dropCCon:Con T O:=fun args cs=>match args,cs with
 |[.ptr 0 0, .raw (.int .i64 id), .raw (.int .i64 kind)],[.cells [.ptr 1 0] 156, .cells [.fn 83 [], .own 2, .own 3] 198, .vec 6 L 242, .map 0 M]=>chk (decide (L.length<=1000/\ (vthereB (calendarNumber id kind) M=true->0<=vwhereI (calendarNumber id kind) M/\ vwhereI (calendarNumber id kind) M<L.length))) (.ite (calendarRight id kind&&vthereB (calendarNumber id kind) M) (.ret (dropCK0E0 L M id kind)) (.ret (dropCK0E1 L M)))
 |[.ptr 0 0, .raw (.int .i64 _), .raw (.int .i64 _)],[.cells [.raw (.pointer none)] 156]=> .ret ⟨some (.tup [.agg [.raw (.int .i64 0), .raw (.int .i64 0), .raw (.int .i64 0)], .raw (.bool false)]),[]⟩
 |[.raw (.pointer none), .raw (.int .i64 _), .raw (.int .i64 _)],[]=> .ret ⟨some (.tup [.agg [.raw (.int .i64 0), .raw (.int .i64 0), .raw (.int .i64 0)], .raw (.bool false)]),[]⟩
 |_,_=> .fail
theorem dropCOk:ConOk R Tryz.prog 95 dropCCon:=con_of_fn R (X17) (good (X17) rfl (TabOk.con R X17Ok)) mixed Tryz.call95 Tryz.func95 dropCCon (by
 intro args cs K h
 unfold dropCCon at h
 split at h
 ·rename_i id kind L M
  rw [Tree.holds_chk] at h
  obtain ⟨hp,h⟩:=h
  refine ⟨noAnn,_,fun v S hv=>holds_if h v S hv, ?_⟩
  rw [dropCK0Vc L M id kind]
  exact dropCK0Holds L M id kind (of_decide_eq_true hp)
 ·rename_i id kind
  refine ⟨noAnn,_,fun v S hv=>⟨_,h,hv⟩, ?_⟩
  rw [dropCK1Vc id kind]
  exact dropCK1Holds id kind
 ·rename_i id kind
  refine ⟨noAnn,_,fun v S hv=>⟨_,h,hv⟩, ?_⟩
  rw [dropCK2Vc id kind]
  exact dropCK2Holds id kind
 ·exact h.elim)
noncomputable def nextCK0E0 (L:List VThing) (M:List (Int×Int)):Eff T O:=⟨some (.tup [.agg [.raw (.int .i64 (bif L.length==0 then 0 else (at' vtz L 0).XAt)), .raw (.int .i64 (bif L.length==0 then 0 else (at' vtz L 0).XID)), .raw (.int .i64 (bif L.length==0 then 0 else (at' vtz L 0).XKind))], .raw (.bool (!(L.length==0)))]),[(2,some (.vec 6 L 242)),(3,some (.map 0 M))]⟩
def nextCK0Text (L:List VThing) (M:List (Int×Int)):Prop:=(match (decide (L.length<=(1000:Nat))) with|true=>((((((bif L.length==(0:Nat) then (0:Int) else (at' vtz L (0:Int)).XAt)=bif L.length==(0:Nat) then (0:Int) else (at' vtz L (0:Int)).XAt)/\ (((bif L.length==(0:Nat) then (0:Int) else (at' vtz L (0:Int)).XID)=bif L.length==(0:Nat) then (0:Int) else (at' vtz L (0:Int)).XID)/\ (((bif L.length==(0:Nat) then (0:Int) else (at' vtz L (0:Int)).XKind)=bif L.length==(0:Nat) then (0:Int) else (at' vtz L (0:Int)).XKind)/\ True)))/\ (((!L.length==(0:Nat))= !L.length==(0:Nat))/\ True))/\ True)/\ ((True/\ True)/\ ((True/\ (True/\ (True/\ True)))/\ ((L=L)/\ ((M=M)/\ True)))))|false=>False)
theorem nextCK0Vc (L:List VThing) (M:List (Int×Int)):fnX X17 (noAnn) Tryz.f146 [.ptr 0 0] [.cells [.ptr 1 0] 156, .cells [.fn 83 [], .own 2, .own 3] 198, .vec 6 L 242, .map 0 M] (ends [.cells [.ptr 1 0] 156, .cells [.fn 83 [], .own 2, .own 3] 198, .vec 6 L 242, .map 0 M] (nextCK0E0 L M))=nextCK0Text L M:=by kernel_rfl
theorem nextCK0Holds (L:List VThing) (M:List (Int×Int)) (hp:L.length<=1000):nextCK0Text L M:=by
 unfold nextCK0Text
 rw [decide_eq_true hp]
 repeat' first|trivial|rfl|apply And.intro
def nextCK1Text:Prop:=((((((0:Int)=(0:Int))/\ (((0:Int)=(0:Int))/\ (((0:Int)=(0:Int))/\ True)))/\ ((false=false)/\ True))/\ True)/\ (((Value.pointer none=Value.pointer none)/\ True)/\ True))
theorem nextCK1Vc:fnX X17 (noAnn) Tryz.f146 [.ptr 0 0] [.cells [.raw (.pointer none)] 156] (ends [.cells [.raw (.pointer none)] 156] ⟨some (.tup [.agg [.raw (.int .i64 0), .raw (.int .i64 0), .raw (.int .i64 0)], .raw (.bool false)]),[]⟩)=nextCK1Text:=by kernel_rfl
theorem nextCK1Holds:nextCK1Text:=by
 unfold nextCK1Text
 repeat' first|trivial|rfl|apply And.intro
def nextCK2Text:Prop:=((((((0:Int)=(0:Int))/\ (((0:Int)=(0:Int))/\ (((0:Int)=(0:Int))/\ True)))/\ ((false=false)/\ True))/\ True)/\ True)
theorem nextCK2Vc:fnX X17 (noAnn) Tryz.f146 [.raw (.pointer none)] [] (ends [] ⟨some (.tup [.agg [.raw (.int .i64 0), .raw (.int .i64 0), .raw (.int .i64 0)], .raw (.bool false)]),[]⟩)=nextCK2Text:=by kernel_rfl
theorem nextCK2Holds:nextCK2Text:=by
 unfold nextCK2Text
 repeat' first|trivial|rfl|apply And.intro
noncomputable def nextCCon:Con T O:=fun args cs=>match args,cs with
 |[.ptr 0 0],[.cells [.ptr 1 0] 156, .cells [.fn 83 [], .own 2, .own 3] 198, .vec 6 L 242, .map 0 M]=>chk (decide (L.length<=1000)) (.ret (nextCK0E0 L M))
 |[.ptr 0 0],[.cells [.raw (.pointer none)] 156]=> .ret ⟨some (.tup [.agg [.raw (.int .i64 0), .raw (.int .i64 0), .raw (.int .i64 0)], .raw (.bool false)]),[]⟩
 |[.raw (.pointer none)],[]=> .ret ⟨some (.tup [.agg [.raw (.int .i64 0), .raw (.int .i64 0), .raw (.int .i64 0)], .raw (.bool false)]),[]⟩
 |_,_=> .fail
theorem nextCOk:ConOk R Tryz.prog 146 nextCCon:=con_of_fn R (X17) (good (X17) rfl (TabOk.con R X17Ok)) mixed Tryz.call146 Tryz.func146 nextCCon (by
 intro args cs K h
 unfold nextCCon at h
 split at h
 ·rename_i L M
  rw [Tree.holds_chk] at h
  obtain ⟨hp,h⟩:=h
  refine ⟨noAnn,_,fun v S hv=>⟨_,h,hv⟩, ?_⟩
  rw [nextCK0Vc L M]
  exact nextCK0Holds L M (of_decide_eq_true hp)
 ·
  refine ⟨noAnn,_,fun v S hv=>⟨_,h,hv⟩, ?_⟩
  rw [nextCK1Vc]
  exact nextCK1Holds
 ·
  refine ⟨noAnn,_,fun v S hv=>⟨_,h,hv⟩, ?_⟩
  rw [nextCK2Vc]
  exact nextCK2Holds
 ·exact h.elim)
noncomputable def tab18:Tab T O:=(99,putCCon)::(95,dropCCon)::(146,nextCCon)::tab17
theorem tabOk18:TabOk R Tryz.prog tab18:=TabOk.cons R putCOk<|TabOk.cons R dropCOk<|TabOk.cons R nextCOk<|tabOk17
noncomputable def X18:Ctx T O:= { X0 with con:=conOf tab18 }
theorem X18Ok:TabOk R X18.P tab18:=tabOk18
end Go.Proofs.YtlfjbnflfdnoaaaGreat
namespace Go.Proofs.YtlfjbnflfdnoaaaGreat
open Go.Sx Go.Proofs Classical
theorem sinkN_length: ∀(n:Nat) (s:vHS) (i:Nat),(vsinkN n s i).1.length=s.1.length
 |0,_,_=>rfl
 |n+1,s,i=>by
  simp only [vsinkN]
  cases vfirstAt s.1 i 2==i
  ·simp only [cond_false]
   rw [sinkN_length n]
   exact vswapL_length _ _ _
  ·rfl
theorem takeH_length (s:vHS) (i:Nat):(vtakeH s i).1.length=s.1.length-1:=by
 unfold vtakeH
 cases decide (i<s.1.length-1)
 ·simp only [cond_false]
  rw [List.length_take,vswapL_length]
  omega
 ·simp only [cond_true]
  rw [sinkN_length,vriseN_length]
  dsimp only
  rw [List.length_take,vswapL_length]
  omega
def dueN:Nat->vHS->Int->List Ev×vHS
 |0,s,_=>([],s)
 |n+1,s,t=>bif s.1.length==0||decide ((at' vtz s.1 0).XAt>t) then ([],s) else ((at' vtz s.1 0).X::(dueN n (vtakeH s 0) t).1,(dueN n (vtakeH s 0) t).2)
def dueA (s:vHS) (t:Int):List Ev×vHS:=dueN s.1.length s t
noncomputable def dueCK0A (L:List VThing) (M:List (Int×Int)) (t:Int):Ann T O:=oneLoop 2 { σ:=List Ev×vHS,st:=fun S x=>(((((((S.keep [0,1]).drop 2).chunk 3 (.map 0 x.2.2)).chunk 1 (.cells [.fn 83 [], .own S.next, .own 3] 198)).add (.vec 6 x.2.1 242))).new 5 (.vec 4 x.1 151)),inv:=fun _ x=>x.1.length+x.2.1.length<=L.length/\ (dueA (L,M) t).1=x.1++(dueA x.2 t).1/\ (dueA (L,M) t).2=(dueA x.2 t).2,m:=fun x=>x.2.1.length }
noncomputable def dueCK0E0 (L:List VThing) (M:List (Int×Int)) (t:Int):Eff T O:=⟨some (.own 5),[(5,some (.vec 4 (dueA (L,M) t).1 151)),(1,some (.cells [.fn 83 [], .own 4, .own 3] 198)),(2,none),(3,some (.map 0 ((dueA (L,M) t).2).2)),(4,some (.vec 6 ((dueA (L,M) t).2).1 242))]⟩
def dueCK0Text (L:List VThing) (M:List (Int×Int)) (t:Int):Prop:=let q5:=(True/\ (True/\ (True/\ True)));let q6:=(True/\ ((t=t)/\ (True/\ True)));((∃x:List Ev×vHS,let q3:=((x.fst.length+x.snd.fst.length<=L.length)/\ (((dueA (L,M) t).fst=x.fst++(dueA x.snd t).fst)/\ ((dueA (L,M) t).snd=(dueA x.snd t).snd)));(q3/\ (q6/\ ((True/\ True)/\ (q5/\ ((x.snd.snd=M)/\ ((x.snd.fst=L)/\ ((x.fst=[])/\ True))))))))/\ (∀x:List Ev×vHS,let q1:=((True/\ True)/\ ((True/\ True)/\ (q5/\ (((dueA (L,M) t).snd.snd=x.snd.snd)/\ (((dueA (L,M) t).fst=x.fst)/\ (((dueA (L,M) t).snd.fst=x.snd.fst)/\ True))))));let q3:=((x.fst.length+x.snd.fst.length<=L.length)/\ (((dueA (L,M) t).fst=x.fst++(dueA x.snd t).fst)/\ ((dueA (L,M) t).snd=(dueA x.snd t).snd)));let q4:=(bif x.snd.fst.length==(0:Nat) then (0:Int) else (at' vtz x.snd.fst (0:Int)).XAt);(q3->(match (decide (x.snd.fst.length<=(1000:Nat))) with|true=>(match (!!x.snd.fst.length==(0:Nat)) with|true=>q1|false=>(match (decide (q4>t)) with|true=>q1|false=>(match (decide (x.snd.fst.length<=(1000:Nat))) with|true=>(match (x.snd.fst.length==(0:Nat)) with|true=>(match (roomy (x.fst.length+(1:Nat)) (nat_lit 24)) with|true=>(∃x':List Ev×vHS,let q0:=((x'.fst=x.fst++[Ev.mk q4 (bif x.snd.fst.length==(0:Nat) then (0:Int) else (at' vtz x.snd.fst (0:Int)).XID) (bif x.snd.fst.length==(0:Nat) then (0:Int) else (at' vtz x.snd.fst (0:Int)).XKind)])/\ True);let q2:=((x'.fst.length+x'.snd.fst.length<=L.length)/\ (((dueA (L,M) t).fst=x'.fst++(dueA x'.snd t).fst)/\ ((dueA (L,M) t).snd=(dueA x'.snd t).snd)));(q2/\ ((x'.snd.fst.length<x.snd.fst.length)/\ (q6/\ ((True/\ True)/\ (q5/\ ((x'.snd.snd=x.snd.snd)/\ ((x'.snd.fst=x.snd.fst)/\ q0))))))))|false=>False)|false=>(match (roomy (x.fst.length+(1:Nat)) (nat_lit 24)) with|true=>(∃x':List Ev×vHS,let q0:=((x'.fst=x.fst++[Ev.mk q4 (bif x.snd.fst.length==(0:Nat) then (0:Int) else (at' vtz x.snd.fst (0:Int)).XID) (bif x.snd.fst.length==(0:Nat) then (0:Int) else (at' vtz x.snd.fst (0:Int)).XKind)])/\ True);let q2:=((x'.fst.length+x'.snd.fst.length<=L.length)/\ (((dueA (L,M) t).fst=x'.fst++(dueA x'.snd t).fst)/\ ((dueA (L,M) t).snd=(dueA x'.snd t).snd)));(q2/\ ((x'.snd.fst.length<x.snd.fst.length)/\ (q6/\ ((True/\ True)/\ (q5/\ ((x'.snd.snd=(vtakeH x.snd (0:Nat)).snd)/\ ((x'.snd.fst=(vtakeH x.snd (0:Nat)).fst)/\ q0))))))))|false=>False))|false=>False)))|false=>False))))
theorem dueCK0Vc (L:List VThing) (M:List (Int×Int)) (t:Int):fnX X18 ((dueCK0A L M t)) Tryz.f100 [.ptr 0 0, .raw (.int .i64 t)] [.cells [.ptr 1 0] 156, .cells [.fn 83 [], .own 2, .own 3] 198, .vec 6 L 242, .map 0 M] (ends [.cells [.ptr 1 0] 156, .cells [.fn 83 [], .own 2, .own 3] 198, .vec 6 L 242, .map 0 M] (dueCK0E0 L M t))=dueCK0Text L M t:=by kernel_rfl
theorem dueCK0Holds (L:List VThing) (M:List (Int×Int)) (t:Int) (hp:L.length<=1000):dueCK0Text L M t:=by
 unfold dueCK0Text
 conv=>zeta
 refine ⟨⟨([],L,M),⟨by simp,rfl,rfl⟩,by repeat' first|trivial|rfl|apply And.intro⟩, ?_⟩
 rintro ⟨O1,L1,M1⟩ ⟨h1,h2,h3⟩
 dsimp only at h1 h2 h3 ⊢
 rw [decide_eq_true (show L1.length<=1000 by omega)]
 by_cases h0:L1.length=0
 ·have e:dueA (L1,M1) t=([],(L1,M1)):=by unfold dueA;dsimp only;rw [h0];rfl
  rw [e,List.append_nil] at h2
  rw [e] at h3
  rw [h2,h3,show (L1.length==0)=true from beq_iff_eq.2 h0]
  repeat' first|trivial|rfl|apply And.intro
 ·have hb:(L1.length==0)=false:=beq_eq_false_iff_ne.2 h0
  obtain ⟨n,hn⟩: ∃n,L1.length=n+1:=⟨L1.length-1,by omega⟩
  have hl:(vtakeH (L1,M1) 0).1.length=n:=by rw [takeH_length];dsimp only;omega
  rw [hb]
  by_cases ha:(at' vtz L1 0).XAt>t
  ·have e:dueA (L1,M1) t=([],(L1,M1)):=by
    unfold dueA
    dsimp only
    rw [hn]
    simp only [dueN]
    rw [hb,decide_eq_true ha]
    rfl
   rw [e,List.append_nil] at h2
   rw [e] at h3
   rw [h2,h3]
   dsimp only [cond_false]
   rw [decide_eq_true ha]
   repeat' first|trivial|rfl|apply And.intro
  ·have e:dueA (L1,M1) t=((at' vtz L1 0).X::(dueA (vtakeH (L1,M1) 0) t).1,(dueA (vtakeH (L1,M1) 0) t).2):=by
    unfold dueA
    dsimp only
    rw [hn,hl]
    simp only [dueN]
    rw [hb,decide_eq_false ha]
    rfl
   rw [e] at h2 h3
   dsimp only [cond_false]
   rw [decide_eq_false ha,show roomy (O1.length+1) 24=true by simp [roomy];omega]
   refine ⟨(O1++[(at' vtz L1 0).X],vtakeH (L1,M1) 0),⟨by dsimp only;rw [hl,List.length_append,List.length_singleton];omega,by rw [h2];simp,h3⟩,by dsimp only;omega, ?_⟩
   repeat' first|trivial|rfl|apply And.intro
def dueCK1Text (t:Int):Prop:=(((Value.slice none (0:Nat) (0:Nat)=Value.slice none (0:Nat) (0:Nat))/\ True)/\ (((Value.pointer none=Value.pointer none)/\ True)/\ True))
theorem dueCK1Vc (t:Int):fnX X18 (annOf [] [(2,1)]) Tryz.f100 [.ptr 0 0, .raw (.int .i64 t)] [.cells [.raw (.pointer none)] 156] (ends [.cells [.raw (.pointer none)] 156] ⟨some (.raw (.slice none 0 0)),[]⟩)=dueCK1Text t:=by kernel_rfl
theorem dueCK1Holds (t:Int):dueCK1Text t:=by
 unfold dueCK1Text
 repeat' first|trivial|rfl|apply And.intro
def dueCK2Text (t:Int):Prop:=(((Value.slice none (0:Nat) (0:Nat)=Value.slice none (0:Nat) (0:Nat))/\ True)/\ True)
theorem dueCK2Vc (t:Int):fnX X18 (annOf [] [(2,1)]) Tryz.f100 [.raw (.pointer none), .raw (.int .i64 t)] [] (ends [] ⟨some (.raw (.slice none 0 0)),[]⟩)=dueCK2Text t:=by kernel_rfl
theorem dueCK2Holds (t:Int):dueCK2Text t:=by
 unfold dueCK2Text
 repeat' first|trivial|rfl|apply And.intro
noncomputable def dueCCon:Con T O:=fun args cs=>match args,cs with
 |[.ptr 0 0, .raw (.int .i64 t)],[.cells [.ptr 1 0] 156, .cells [.fn 83 [], .own 2, .own 3] 198, .vec 6 L 242, .map 0 M]=>chk (decide (L.length<=1000)) (.ret (dueCK0E0 L M t))
 |[.ptr 0 0, .raw (.int .i64 _)],[.cells [.raw (.pointer none)] 156]=> .ret ⟨some (.raw (.slice none 0 0)),[]⟩
 |[.raw (.pointer none), .raw (.int .i64 _)],[]=> .ret ⟨some (.raw (.slice none 0 0)),[]⟩
 |_,_=> .fail
theorem dueCOk:ConOk R Tryz.prog 100 dueCCon:=con_of_fn R (X18) (good (X18) rfl (TabOk.con R X18Ok)) mixed Tryz.call100 Tryz.func100 dueCCon (by
 intro args cs K h
 unfold dueCCon at h
 split at h
 ·rename_i t L M
  rw [Tree.holds_chk] at h
  obtain ⟨hp,h⟩:=h
  refine ⟨(dueCK0A L M t),_,fun v S hv=>⟨_,h,hv⟩, ?_⟩
  rw [dueCK0Vc L M t]
  exact dueCK0Holds L M t (of_decide_eq_true hp)
 ·rename_i t
  refine ⟨annOf [] [(2,1)],_,fun v S hv=>⟨_,h,hv⟩, ?_⟩
  rw [dueCK1Vc t]
  exact dueCK1Holds t
 ·rename_i t
  refine ⟨annOf [] [(2,1)],_,fun v S hv=>⟨_,h,hv⟩, ?_⟩
  rw [dueCK2Vc t]
  exact dueCK2Holds t
 ·exact h.elim)
noncomputable def tab19:Tab T O:=(100,dueCCon)::tab18
theorem tabOk19:TabOk R Tryz.prog tab19:=TabOk.cons R dueCOk<|tabOk18
noncomputable def X19:Ctx T O:= { X0 with con:=conOf tab19 }
theorem X19Ok:TabOk R X19.P tab19:=tabOk19
end Go.Proofs.YtlfjbnflfdnoaaaGreat
namespace Go.Proofs.YtlfjbnflfdnoaaaGreat
open Go.Sx Go.Proofs Classical
def cntW (w l o a b:Int):Int:=bif decide (l+b>=o) then w+a+1 else w+a
def cntL (l o b:Int):Int:=bif decide (l+b>=o) then l+b-o else l+b
def CntOk (w l o a b:Int):Prop:=0<=w/\ 0<=a/\ w+a<=4611686018427387904/\ 0<=l/\ 0<=b/\ l+b<=4611686018427387904/\ 0<=o
instance (w l o a b:Int):Decidable (CntOk w l o a b):=by unfold CntOk;exact inferInstance
def upC (w l:Int):Int:=bif decide (l>0) then w+1 else w
noncomputable def cs0 (s:Stp):List (Chunk T O):=[.cells [.raw (.int .i64 s.E), .raw (.int .i64 s.P), .raw (.int .i64 s.off), .raw (.int .i64 s.idx), .raw (.int .i64 s.whole), .raw (.int .i64 s.rest), .raw (.int .i64 s.ew), .raw (.int .i64 s.el), .raw (.int .i64 s.eo), .raw (.int .i64 s.long), .raw (.int .i64 s.part), .raw (.int .i64 s.gw), .raw (.int .i64 s.gl), .raw (.int .i64 s.go), .raw (.int .i64 s.sub.Index), .raw (.int .i64 s.sub.Release), .raw (.int .i64 s.sub.Deadline), .raw (.int .i64 s.sub.Bit), .raw (.int .i64 s.sub.Group)] 226]
noncomputable def cntK0E0 (s:Stp) (a:Int) (b:Int):Eff T O:=⟨some (.tup []),[(0,some (.cells [.raw (.int .i64 s.E), .raw (.int .i64 s.P), .raw (.int .i64 s.off), .raw (.int .i64 s.idx), .raw (.int .i64 s.whole), .raw (.int .i64 s.rest), .raw (.int .i64 (cntW s.ew s.el s.eo a b)), .raw (.int .i64 (cntL s.el s.eo b)), .raw (.int .i64 s.eo), .raw (.int .i64 s.long), .raw (.int .i64 s.part), .raw (.int .i64 s.gw), .raw (.int .i64 s.gl), .raw (.int .i64 s.go), .raw (.int .i64 s.sub.Index), .raw (.int .i64 s.sub.Release), .raw (.int .i64 s.sub.Deadline), .raw (.int .i64 s.sub.Bit), .raw (.int .i64 s.sub.Group)] 226))]⟩
def cntK0Text (s:Stp) (a b:Int):Prop:=let q0:=((s.eo=s.eo)/\ ((s.long=s.long)/\ ((s.part=s.part)/\ ((s.gw=s.gw)/\ ((s.gl=s.gl)/\ ((s.go=s.go)/\ ((s.sub.Index=s.sub.Index)/\ ((s.sub.Release=s.sub.Release)/\ ((s.sub.Deadline=s.sub.Deadline)/\ ((s.sub.Bit=s.sub.Bit)/\ ((s.sub.Group=s.sub.Group)/\ True)))))))))));(match (decide (IntKind.i64.wrap (s.el+b)>=s.eo)) with|true=>((True/\ True)/\ (((s.E=s.E)/\ ((s.P=s.P)/\ ((s.off=s.off)/\ ((s.idx=s.idx)/\ ((s.whole=s.whole)/\ ((s.rest=s.rest)/\ ((cntW s.ew s.el s.eo a b=IntKind.i64.wrap (IntKind.i64.wrap (s.ew+a)+(1:Int)))/\ ((cntL s.el s.eo b=IntKind.i64.wrap (IntKind.i64.wrap (s.el+b)-s.eo))/\ q0))))))))/\ True))|false=>((True/\ True)/\ (((s.E=s.E)/\ ((s.P=s.P)/\ ((s.off=s.off)/\ ((s.idx=s.idx)/\ ((s.whole=s.whole)/\ ((s.rest=s.rest)/\ ((cntW s.ew s.el s.eo a b=IntKind.i64.wrap (s.ew+a))/\ ((cntL s.el s.eo b=IntKind.i64.wrap (s.el+b))/\ q0))))))))/\ True)))
theorem cntK0Vc (s:Stp) (a b:Int):fnX X19 (noAnn) Tryz.f185 [.ptr 0 6, .raw (.int .i64 a), .raw (.int .i64 b)] (cs0 s) (ends (cs0 s) (cntK0E0 s a b))=cntK0Text s a b:=by kernel_rfl
theorem cntK0Holds (s:Stp) (a b:Int) (hp:CntOk s.ew s.el s.eo a b):cntK0Text s a b:=by
 unfold cntK0Text
 conv=>zeta
 obtain ⟨h1,h2,h3,h4,h5,h6,h7⟩:=hp
 rw [wrap_id (n:=s.ew+a) (by omega) (by omega),wrap_id (n:=s.el+b) (by omega) (by omega)]
 unfold cntW cntL
 by_cases h:s.el+b>=s.eo
 ·rw [decide_eq_true h,wrap_id (n:=s.el+b-s.eo) (by omega) (by omega),wrap_id (n:=s.ew+a+1) (by omega) (by omega)]
  repeat' first|trivial|rfl|apply And.intro
 ·rw [decide_eq_false h]
  repeat' first|trivial|rfl|apply And.intro
noncomputable def cntK1E0 (s:Stp) (a:Int) (b:Int):Eff T O:=⟨some (.tup []),[(0,some (.cells [.raw (.int .i64 s.E), .raw (.int .i64 s.P), .raw (.int .i64 s.off), .raw (.int .i64 s.idx), .raw (.int .i64 s.whole), .raw (.int .i64 s.rest), .raw (.int .i64 s.ew), .raw (.int .i64 s.el), .raw (.int .i64 s.eo), .raw (.int .i64 s.long), .raw (.int .i64 s.part), .raw (.int .i64 (cntW s.gw s.gl s.go a b)), .raw (.int .i64 (cntL s.gl s.go b)), .raw (.int .i64 s.go), .raw (.int .i64 s.sub.Index), .raw (.int .i64 s.sub.Release), .raw (.int .i64 s.sub.Deadline), .raw (.int .i64 s.sub.Bit), .raw (.int .i64 s.sub.Group)] 226))]⟩
def cntK1Text (s:Stp) (a b:Int):Prop:=let q0:=((s.go=s.go)/\ ((s.sub.Index=s.sub.Index)/\ ((s.sub.Release=s.sub.Release)/\ ((s.sub.Deadline=s.sub.Deadline)/\ ((s.sub.Bit=s.sub.Bit)/\ ((s.sub.Group=s.sub.Group)/\ True))))));(match (decide (IntKind.i64.wrap (s.gl+b)>=s.go)) with|true=>((True/\ True)/\ (((s.E=s.E)/\ ((s.P=s.P)/\ ((s.off=s.off)/\ ((s.idx=s.idx)/\ ((s.whole=s.whole)/\ ((s.rest=s.rest)/\ ((s.ew=s.ew)/\ ((s.el=s.el)/\ ((s.eo=s.eo)/\ ((s.long=s.long)/\ ((s.part=s.part)/\ ((cntW s.gw s.gl s.go a b=IntKind.i64.wrap (IntKind.i64.wrap (s.gw+a)+(1:Int)))/\ ((cntL s.gl s.go b=IntKind.i64.wrap (IntKind.i64.wrap (s.gl+b)-s.go))/\ q0)))))))))))))/\ True))|false=>((True/\ True)/\ (((s.E=s.E)/\ ((s.P=s.P)/\ ((s.off=s.off)/\ ((s.idx=s.idx)/\ ((s.whole=s.whole)/\ ((s.rest=s.rest)/\ ((s.ew=s.ew)/\ ((s.el=s.el)/\ ((s.eo=s.eo)/\ ((s.long=s.long)/\ ((s.part=s.part)/\ ((cntW s.gw s.gl s.go a b=IntKind.i64.wrap (s.gw+a))/\ ((cntL s.gl s.go b=IntKind.i64.wrap (s.gl+b))/\ q0)))))))))))))/\ True)))
theorem cntK1Vc (s:Stp) (a b:Int):fnX X19 (noAnn) Tryz.f185 [.ptr 0 11, .raw (.int .i64 a), .raw (.int .i64 b)] (cs0 s) (ends (cs0 s) (cntK1E0 s a b))=cntK1Text s a b:=by kernel_rfl
theorem cntK1Holds (s:Stp) (a b:Int) (hp:CntOk s.gw s.gl s.go a b):cntK1Text s a b:=by
 unfold cntK1Text
 conv=>zeta
 obtain ⟨h1,h2,h3,h4,h5,h6,h7⟩:=hp
 rw [wrap_id (n:=s.gw+a) (by omega) (by omega),wrap_id (n:=s.gl+b) (by omega) (by omega)]
 unfold cntW cntL
 by_cases h:s.gl+b>=s.go
 ·rw [decide_eq_true h,wrap_id (n:=s.gl+b-s.go) (by omega) (by omega),wrap_id (n:=s.gw+a+1) (by omega) (by omega)]
  repeat' first|trivial|rfl|apply And.intro
 ·rw [decide_eq_false h]
  repeat' first|trivial|rfl|apply And.intro
set_option maxHeartbeats 4000000 in
noncomputable def cntCon:Con T O:=fun args cs=>match args,cs with
 |[.ptr 0 6, .raw (.int .i64 a), .raw (.int .i64 b)],[.cells [.raw (.int .i64 s_0), .raw (.int .i64 s_1), .raw (.int .i64 s_2), .raw (.int .i64 s_3), .raw (.int .i64 s_4), .raw (.int .i64 s_5), .raw (.int .i64 s_6), .raw (.int .i64 s_7), .raw (.int .i64 s_8), .raw (.int .i64 s_9), .raw (.int .i64 s_10), .raw (.int .i64 s_11), .raw (.int .i64 s_12), .raw (.int .i64 s_13), .raw (.int .i64 s_14), .raw (.int .i64 s_15), .raw (.int .i64 s_16), .raw (.int .i64 s_17), .raw (.int .i64 s_18)] 226]=>chk (decide (CntOk (⟨s_0,s_1,s_2,s_3,s_4,s_5,s_6,s_7,s_8,s_9,s_10,s_11,s_12,s_13,s_14,s_15,s_16,s_17,s_18⟩:Stp).ew (⟨s_0,s_1,s_2,s_3,s_4,s_5,s_6,s_7,s_8,s_9,s_10,s_11,s_12,s_13,s_14,s_15,s_16,s_17,s_18⟩:Stp).el (⟨s_0,s_1,s_2,s_3,s_4,s_5,s_6,s_7,s_8,s_9,s_10,s_11,s_12,s_13,s_14,s_15,s_16,s_17,s_18⟩:Stp).eo a b)) (.ret (cntK0E0 (⟨s_0,s_1,s_2,s_3,s_4,s_5,s_6,s_7,s_8,s_9,s_10,s_11,s_12,s_13,s_14,s_15,s_16,s_17,s_18⟩:Stp) a b))
 |[.ptr 0 11, .raw (.int .i64 a), .raw (.int .i64 b)],[.cells [.raw (.int .i64 s_0), .raw (.int .i64 s_1), .raw (.int .i64 s_2), .raw (.int .i64 s_3), .raw (.int .i64 s_4), .raw (.int .i64 s_5), .raw (.int .i64 s_6), .raw (.int .i64 s_7), .raw (.int .i64 s_8), .raw (.int .i64 s_9), .raw (.int .i64 s_10), .raw (.int .i64 s_11), .raw (.int .i64 s_12), .raw (.int .i64 s_13), .raw (.int .i64 s_14), .raw (.int .i64 s_15), .raw (.int .i64 s_16), .raw (.int .i64 s_17), .raw (.int .i64 s_18)] 226]=>chk (decide (CntOk (⟨s_0,s_1,s_2,s_3,s_4,s_5,s_6,s_7,s_8,s_9,s_10,s_11,s_12,s_13,s_14,s_15,s_16,s_17,s_18⟩:Stp).gw (⟨s_0,s_1,s_2,s_3,s_4,s_5,s_6,s_7,s_8,s_9,s_10,s_11,s_12,s_13,s_14,s_15,s_16,s_17,s_18⟩:Stp).gl (⟨s_0,s_1,s_2,s_3,s_4,s_5,s_6,s_7,s_8,s_9,s_10,s_11,s_12,s_13,s_14,s_15,s_16,s_17,s_18⟩:Stp).go a b)) (.ret (cntK1E0 (⟨s_0,s_1,s_2,s_3,s_4,s_5,s_6,s_7,s_8,s_9,s_10,s_11,s_12,s_13,s_14,s_15,s_16,s_17,s_18⟩:Stp) a b))
 |_,_=> .fail
theorem cntOk:ConOk R Tryz.prog 185 cntCon:=con_of_fn R (X19) (good (X19) rfl (TabOk.con R X19Ok)) mixed Tryz.call185 Tryz.func185 cntCon (by
 intro args cs K h
 unfold cntCon at h
 split at h
 ·rename_i a b s_0 s_1 s_2 s_3 s_4 s_5 s_6 s_7 s_8 s_9 s_10 s_11 s_12 s_13 s_14 s_15 s_16 s_17 s_18
  rw [Tree.holds_chk] at h
  obtain ⟨hp,h⟩:=h
  refine ⟨noAnn,_,fun v S hv=>⟨_,h,hv⟩, ?_⟩
  have hv:=cntK0Vc (⟨s_0,s_1,s_2,s_3,s_4,s_5,s_6,s_7,s_8,s_9,s_10,s_11,s_12,s_13,s_14,s_15,s_16,s_17,s_18⟩:Stp) a b
  unfold cs0 at hv
  rw [hv]
  exact cntK0Holds (⟨s_0,s_1,s_2,s_3,s_4,s_5,s_6,s_7,s_8,s_9,s_10,s_11,s_12,s_13,s_14,s_15,s_16,s_17,s_18⟩:Stp) a b (of_decide_eq_true hp)
 ·rename_i a b s_0 s_1 s_2 s_3 s_4 s_5 s_6 s_7 s_8 s_9 s_10 s_11 s_12 s_13 s_14 s_15 s_16 s_17 s_18
  rw [Tree.holds_chk] at h
  obtain ⟨hp,h⟩:=h
  refine ⟨noAnn,_,fun v S hv=>⟨_,h,hv⟩, ?_⟩
  have hv:=cntK1Vc (⟨s_0,s_1,s_2,s_3,s_4,s_5,s_6,s_7,s_8,s_9,s_10,s_11,s_12,s_13,s_14,s_15,s_16,s_17,s_18⟩:Stp) a b
  unfold cs0 at hv
  rw [hv]
  exact cntK1Holds (⟨s_0,s_1,s_2,s_3,s_4,s_5,s_6,s_7,s_8,s_9,s_10,s_11,s_12,s_13,s_14,s_15,s_16,s_17,s_18⟩:Stp) a b (of_decide_eq_true hp)
 ·exact h.elim)
noncomputable def tab20:Tab T O:=(185,cntCon)::tab19
theorem tabOk20:TabOk R Tryz.prog tab20:=TabOk.cons R cntOk<|tabOk19
noncomputable def X20:Ctx T O:= { X0 with con:=conOf tab20 }
theorem X20Ok:TabOk R X20.P tab20:=tabOk20
end Go.Proofs.YtlfjbnflfdnoaaaGreat