/-
  Part of a proof over the seat Ythihpebdcamilaa: printed by a small program or typed by hand.
-/
import Derived.Test.YthihpebdcamilaaCalS13
import Derived.Test.YthihpebdcamilaaSxLift2
import Derived.Test.YthihpebdcamilaaRows
namespace Go.Proofs.Ythihpebdcamilaa
open Go.Sx Go.Proofs Go.RowKit
namespace OfCalendarNil
theorem own : ownKnob Try.prog.godebug = none := by kernel_rfl
theorem laidOut : laidOutB Try.prog = true := by kernel_rfl
theorem readable_of {ts : List TypeId} (h : ts.all (fun t => Try.prog.readableRec t && decide (t < Try.prog.types.size)) = true) : ∀ t ∈ ts, Try.prog.readableRec t = true ∧ t < Try.prog.types.size := by
  intro t ht
  have := List.all_eq_true.1 h t ht
  simpa using this
theorem under4 : Try.prog.underlying 4 = some .bool := by kernel_rfl
theorem under2 : Try.prog.underlying 2 = some (.int .i64) := by kernel_rfl
theorem under3 : Try.prog.underlying 3 = some (.int .i64) := by kernel_rfl
theorem arg27 {w : World} {r : Reach} {base : Nat} {v : Value} (h : Value.okWide Try.prog w r base 27 v) : ∃ (a0 : Int) (a1 : Int) (a2 : Int), v = .agg #[.int .i64 a0, .int .i64 a1, .int .i64 a2] := by
  obtain ⟨cs, rfl, hc⟩ := val_agg (ts := [2, 3, 3]) (by kernel_rfl) (by kernel_rfl) (by kernel_rfl) h
  match cs, hc with
  | [_, _, _], ⟨h0, h1, h2, _⟩ =>
    obtain ⟨a0, rfl, _⟩ := cell_int under2 h0
    obtain ⟨a1, rfl, _⟩ := cell_int under3 h1
    obtain ⟨a2, rfl, _⟩ := cell_int under3 h2
    exact ⟨a0, a1, a2, rfl⟩
theorem params6 : Try.f6.params = #[27] := by kernel_rfl
theorem CalendarNil_lifted (os : Os) (started : os.Started) (H : Type) (enc : TypeId × Value → H) :
    ReturnsInHanded {} Try.checked os 6 .any (Rows.calendarNilSpec.pre6 enc Try.prog Try.f6 Rows.calendarNilRow.domain false) (Rows.calendarNilSpec.post enc Try.prog Try.f6 false true false false) := by
  refine returnsInHanded_of_change (C := Try.checked) own started (by kernel_rfl) Try.func6
    (ChangeSpec.witness6 (enc := enc) (C := Try.checked) false ⟨#[], #[.agg #[.int .i64 0, .int .i64 0, .int .i64 0]], []⟩ 8 (by kernel_rfl) (by kernel_rfl) (by kernel_rfl) (by kernel_rfl)) ?_
  intro W base args ds gs before hval0 hW _ _
  have hval : ∀ (j : Nat) t v, Try.f6.params[j]? = some t → args[j]? = some v → Value.okWide Try.prog W .any base t v := hval0
  have hW' := hW
  obtain ⟨p, q, hA0, hV, rfl, hfz, hnd⟩ := hW
  have hA : DataW.TrodAll enc Try.prog W 0 (fun _ => true) true Try.f6.params.toList args.toList ds p := hA0
  rw [params6] at hA hval
  have hlen := (trodAll_length hA).1
  obtain ⟨v0, rfl⟩ := arr1 hlen
  obtain ⟨x0_0, x0_1, x0_2, rfl⟩ := arg27 (hval 0 27 v0 rfl rfl)
  have hheap := heapOk_nil (T := T) (O := O) R W
  have hcall := law_calls R law08CalendarNilOk Try.call6 (args := [.agg [.raw (.int .i64 x0_0), .raw (.int .i64 x0_1), .raw (.int .i64 x0_2)]]) (cs := []) (rfl) (by simp [idsL, SV.ids]) (by simp [Chunk.ids]) hheap
  have hcall : Calls Try.prog 6 #[.agg #[.int .i64 x0_0, .int .i64 x0_1, .int .i64 x0_2]] W fun en W' => en = .returned (.bool true) ∧ Below W.heap.size W W' := by
    simpa [denL, SV.den] using hcall
  refine hcall.mono fun e W' ⟨he, hb⟩ => ?_
  subst he
  exact ⟨_, rfl, post_law laidOut (readable_of (by kernel_rfl)) (tb := 4) (by kernel_rfl) under4 rfl (fun l hl => by
      match l, hl with
      | [_], _ => rfl) hW' hb⟩
end OfCalendarNil

theorem CalendarNil_holds : Rows.CalendarNilSaid :=
  OpenClaim.holds_of_wide 6 Try.f6 rfl rfl rfl rfl rfl rfl rfl ⟨rfl, rfl, rfl, rfl, rfl⟩ rfl rfl rfl rfl rfl (by kernel_rfl) Try.func6 (by kernel_rfl)
    (of_decide_eq_true (by kernel_rfl)) (by unfold Func.isWrapper; first | (rw [if_pos (by decide +kernel)]; kernel_rfl) | (rw [if_neg (by decide +kernel)]; exact ⟨rfl, rfl⟩))
    (fun os started H enc _ => OfCalendarNil.CalendarNil_lifted os started H enc)
end Go.Proofs.Ythihpebdcamilaa
