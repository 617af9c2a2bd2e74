/-
  Part of a proof over the seat YtlfjbnflfdnoaaaGreat: printed by a small program or typed by hand.
-/
import Derived.Test.YtlfjbnflfdnoaaaGreatJEngS63
import Derived.Test.YtlfjbnflfdnoaaaGreatSxLift2
import Derived.Test.YtlfjbnflfdnoaaaGreatRows
namespace Go.Proofs.YtlfjbnflfdnoaaaGreat
open Go.Sx Go.Proofs Go.RowKit
namespace OfEngineEnd
theorem own:ownKnob Tryz.prog.godebug=none:=by kernel_rfl
theorem laidOut:laidOutB Tryz.prog=true:=by kernel_rfl
theorem readable_of {ts:List TypeId} (h:ts.all (fun t=>Tryz.prog.readableRec t&&decide (t<Tryz.prog.types.size))=true): ∀t∈ts,Tryz.prog.readableRec t=true/\ t<Tryz.prog.types.size:=by
 intro t ht
 have:=List.all_eq_true.1 h t ht
 simpa using this
theorem under4:Tryz.prog.underlying 4=some .bool:=by kernel_rfl
theorem under3:Tryz.prog.underlying 3=some (.int .i64):=by kernel_rfl
theorem under2:Tryz.prog.underlying 2=some (.int .i64):=by kernel_rfl
theorem params9:Tryz.f9.params= #[3,2,3]:=by kernel_rfl
set_option maxRecDepth 100000 in
theorem EngineEnd_lifted (os:Os) (started:os.Started) (H:Type) (enc:TypeId×Value->H):
  ReturnsInHanded {} Tryz.checked os 9 .any (Rows.engineEndSpec.pre6 enc Tryz.prog Tryz.f9 Rows.engineEndRow.domain false) (Rows.engineEndSpec.post enc Tryz.prog Tryz.f9 false true false false):=by
 refine returnsInHanded_of_change (C:=Tryz.checked) own started (by kernel_rfl) Tryz.func9
  (ChangeSpec.witness6 (enc:=enc) (C:=Tryz.checked) false ⟨#[], #[.int .i64 0, .int .i64 0, .int .i64 0],[]⟩ 8 (by kernel_rfl) (by kernel_rfl) (by kernel_rfl) (by kernel_rfl)) ?_
 intro W base args ds gs before hval0 hW _ _
 have hval: ∀(j:Nat) t v,Tryz.f9.params[j]?=some t->args[j]?=some v->Value.okWide Tryz.prog W .any base t v:=hval0
 have hW':=hW
 obtain ⟨p,q,hA0,hV,rfl,hfz,hnd⟩:=hW
 have hA:DataW.TrodAll enc Tryz.prog W 0 (fun _=>true) true Tryz.f9.params.toList args.toList ds p:=hA0
 rw [params9] at hA hval
 have hlen:=(trodAll_length hA).1
 obtain ⟨v0,v1,v2,rfl⟩:=arr3 hlen
 obtain ⟨x0,rfl,hx0⟩:=val_int under3 (hval 0 3 v0 rfl rfl)
 obtain ⟨x1,rfl,hx1⟩:=val_int under2 (hval 1 2 v1 rfl rfl)
 obtain ⟨x2,rfl,hx2⟩:=val_int under3 (hval 2 3 v2 rfl rfl)
 have hheap:=heapOk_nil (T:=T) (O:=O) R W
 have hcall:=law_calls R endCOk Tryz.call9 (args:=[.raw (.int .i64 x0), .raw (.int .i64 x1), .raw (.int .i64 x2)]) (cs:=[]) (rfl) (by simp [idsL,SV.ids]) (by simp [Chunk.ids]) hheap
 have hcall:Calls Tryz.prog 9 #[.int .i64 x0, .int .i64 x1, .int .i64 x2] W fun en W'=>en= .returned (.bool true)/\ Below W.heap.size W W':=by
  simpa [denL,SV.den] using hcall
 refine hcall.mono fun e W' ⟨he,hb⟩=> ?_
 subst he
 exact ⟨_,rfl,post_law laidOut (readable_of (by kernel_rfl)) (tb:=4) (by kernel_rfl) under4 rfl (fun l hl=>by
   match l,hl with
   |[_,_,_],_=>rfl) hW' hb⟩
end OfEngineEnd
theorem EngineEnd_holds:Rows.EngineEndSaid:=
 OpenClaim.holds_of_wide 9 Tryz.f9 rfl rfl rfl rfl rfl rfl rfl ⟨rfl,rfl,rfl,rfl,rfl⟩ rfl rfl rfl rfl rfl (by kernel_rfl) Tryz.func9 (by kernel_rfl)
  (of_decide_eq_true (by kernel_rfl)) (by unfold Func.isWrapper;first|(rw [if_pos (by decide+kernel)];kernel_rfl)|(rw [if_neg (by decide+kernel)];exact ⟨rfl,rfl⟩))
  (fun os started H enc _=>OfEngineEnd.EngineEnd_lifted os started H enc)
end Go.Proofs.YtlfjbnflfdnoaaaGreat