/-
  Part of a proof over the seat Ytdnndahaeammcaa: printed by a small program or typed by hand.
-/
import Derived.Test.YtdnndahaeammcaaHeapS13
import Derived.Test.YtdnndahaeammcaaSxLift2
import Derived.Test.YtdnndahaeammcaaRows
namespace Go.Proofs.Ytdnndahaeammcaa
open Go.Sx Go.Proofs Go.RowKit
namespace OfHeapNil
theorem own : ownKnob Try.prog.godebug = none := by kernel_rfl
theorem laidOut : laidOutB Try.prog = true := by kernel_rfl
theorem readable_of {ts : List TypeId} (h : ts.all (fun t => Try.prog.readableRec t && decide (t < Try.prog.types.size)) = true) : ∀ t ∈ ts, Try.prog.readableRec t = true ∧ t < Try.prog.types.size := by
  intro t ht
  have := List.all_eq_true.1 h t ht
  simpa using this
theorem under4 : Try.prog.underlying 4 = some .bool := by kernel_rfl
theorem under3 : Try.prog.underlying 3 = some (.int .i64) := by kernel_rfl
theorem params7 : Try.f7.params = #[3] := by kernel_rfl
theorem HeapNil_lifted (os : Os) (started : os.Started) (H : Type) (enc : TypeId × Value → H) :
    ReturnsInHanded {} Try.checked os 7 .any (Rows.heapNilSpec.pre6 enc Try.prog Try.f7 Rows.heapNilRow.domain false) (Rows.heapNilSpec.post enc Try.prog Try.f7 false true false false) := by
  refine returnsInHanded_of_change (C := Try.checked) own started (by kernel_rfl) Try.func7
    (ChangeSpec.witness6 (enc := enc) (C := Try.checked) false ⟨#[], #[.int .i64 0], []⟩ 8 (by kernel_rfl) (by kernel_rfl) (by kernel_rfl) (by kernel_rfl)) ?_
  intro W base args ds gs before hval0 hW _ _
  have hval : ∀ (j : Nat) t v, Try.f7.params[j]? = some t → args[j]? = some v → Value.okWide Try.prog W .any base t v := hval0
  have hW' := hW
  obtain ⟨p, q, hA0, hV, rfl, hfz, hnd⟩ := hW
  have hA : DataW.TrodAll enc Try.prog W 0 (fun _ => true) true Try.f7.params.toList args.toList ds p := hA0
  rw [params7] at hA hval
  have hlen := (trodAll_length hA).1
  obtain ⟨v0, rfl⟩ := arr1 hlen
  obtain ⟨x0, rfl, hx0⟩ := val_int under3 (hval 0 3 v0 rfl rfl)
  have hheap := heapOk_nil (T := T) (O := O) R W
  have hcall := law_calls R law07HeapNilOk Try.call7 (args := [.raw (.int .i64 x0)]) (cs := []) (rfl) (by simp [idsL, SV.ids]) (by simp [Chunk.ids]) hheap
  have hcall : Calls Try.prog 7 #[.int .i64 x0] W fun en W' => en = .returned (.bool true) ∧ Below W.heap.size W W' := by
    simpa [denL, SV.den] using hcall
  refine hcall.mono fun e W' ⟨he, hb⟩ => ?_
  subst he
  exact ⟨_, rfl, post_law laidOut (readable_of (by kernel_rfl)) (tb := 4) (by kernel_rfl) under4 rfl (fun l hl => by
      match l, hl with
      | [_], _ => rfl) hW' hb⟩
end OfHeapNil

theorem HeapNil_holds : Rows.HeapNilSaid :=
  OpenClaim.holds_of_wide 7 Try.f7 rfl rfl rfl rfl rfl rfl rfl ⟨rfl, rfl, rfl, rfl, rfl⟩ rfl rfl rfl rfl rfl (by kernel_rfl) Try.func7 (by kernel_rfl)
    (of_decide_eq_true (by kernel_rfl)) (by unfold Func.isWrapper; first | (rw [if_pos (by decide +kernel)]; kernel_rfl) | (rw [if_neg (by decide +kernel)]; exact ⟨rfl, rfl⟩))
    (fun os started H enc _ => OfHeapNil.HeapNil_lifted os started H enc)
end Go.Proofs.Ytdnndahaeammcaa
