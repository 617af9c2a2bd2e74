/-
  Part of a proof over the seat Ythihpebdcamilaa: printed by a small program or typed by hand.
-/
import Derived.Test.YthihpebdcamilaaCalS15
import Derived.Test.YthihpebdcamilaaSxLift2
import Derived.Test.YthihpebdcamilaaRows
namespace Go.Proofs.Ythihpebdcamilaa
open Go.Sx Go.Proofs Go.RowKit
namespace OfCalendarDrop
theorem own : ownKnob Try.prog.godebug = none := by kernel_rfl
theorem laidOut : laidOutB Try.prog = true := by kernel_rfl
theorem readable_of {ts : List TypeId} (h : ts.all (fun t => Try.prog.readableRec t && decide (t < Try.prog.types.size)) = true) : ∀ t ∈ ts, Try.prog.readableRec t = true ∧ t < Try.prog.types.size := by
  intro t ht
  have := List.all_eq_true.1 h t ht
  simpa using this
theorem under4 : Try.prog.underlying 4 = some .bool := by kernel_rfl
theorem under22 : Try.prog.underlying 22 = some (.slice 27) := by kernel_rfl
theorem rowE3 (vs : List Value) (g0 : Each Leaf.has [.int .i64, .int .i64, .int .i64] vs) : ∃ a, vs = (T 3).vals a := by
  obtain ⟨_, vs0, rfl, h0, g1⟩ := each_one g0
  obtain ⟨x0, rfl, _⟩ := has_int h0
  obtain ⟨_, vs1, rfl, h1, g2⟩ := each_one g1
  obtain ⟨x1, rfl, _⟩ := has_int h1
  obtain ⟨_, vs2, rfl, h2, g3⟩ := each_one g2
  obtain ⟨x2, rfl, _⟩ := has_int h2
  obtain rfl := each_nil g3
  exact ⟨⟨x0, x1, x2⟩, rfl⟩
theorem under2 : Try.prog.underlying 2 = some (.int .i64) := by kernel_rfl
theorem under3 : Try.prog.underlying 3 = some (.int .i64) := by kernel_rfl
theorem arg27 {w : World} {r : Reach} {base : Nat} {v : Value} (h : Value.okWide Try.prog w r base 27 v) : ∃ (a0 : Int) (a1 : Int) (a2 : Int), v = .agg #[.int .i64 a0, .int .i64 a1, .int .i64 a2] := by
  obtain ⟨cs, rfl, hc⟩ := val_agg (ts := [2, 3, 3]) (by kernel_rfl) (by kernel_rfl) (by kernel_rfl) h
  match cs, hc with
  | [_, _, _], ⟨h0, h1, h2, _⟩ =>
    obtain ⟨a0, rfl, _⟩ := cell_int under2 h0
    obtain ⟨a1, rfl, _⟩ := cell_int under3 h1
    obtain ⟨a2, rfl, _⟩ := cell_int under3 h2
    exact ⟨a0, a1, a2, rfl⟩
theorem params5 : Try.f5.params = #[22, 27] := by kernel_rfl
theorem CalendarDrop_lifted (os : Os) (started : os.Started) (H : Type) (enc : TypeId × Value → H) :
    ReturnsInHanded {} Try.checked os 5 .any (Rows.calendarDropSpec.pre6 enc Try.prog Try.f5 Rows.calendarDropRow.domain false) (Rows.calendarDropSpec.post enc Try.prog Try.f5 false true false false) := by
  refine returnsInHanded_of_change (C := Try.checked) own started (by kernel_rfl) Try.func5
    (ChangeSpec.witness6 (enc := enc) (C := Try.checked) false ⟨#[], #[.slice none 0 0, .agg #[.int .i64 0, .int .i64 0, .int .i64 0]], []⟩ 8 (by kernel_rfl) (by kernel_rfl) (by kernel_rfl) (by kernel_rfl)) ?_
  intro W base args ds gs before hval0 hW _ _
  have hval : ∀ (j : Nat) t v, Try.f5.params[j]? = some t → args[j]? = some v → Value.okWide Try.prog W .any base t v := hval0
  have hW' := hW
  obtain ⟨p, q, hA0, hV, rfl, hfz, hnd⟩ := hW
  have hA : DataW.TrodAll enc Try.prog W 0 (fun _ => true) true Try.f5.params.toList args.toList ds p := hA0
  rw [params5] at hA hval
  have hlen := (trodAll_length hA).1
  obtain ⟨v0, v1, rfl⟩ := arr2 hlen
  clear hlen
  obtain ⟨_, ds0, _, _, hds0, ⟨fu0, tr0⟩, hA0⟩ := trodAll_cons hA
  obtain ⟨w0, L0, F0, hc0, hone0, hro0, rng0⟩ := open_row (E := T 3) (d := 8) under22 (by kernel_rfl) (by decide) (by kernel_rfl) rowE3 tr0
  obtain rfl : v0 = w0 := by
    obtain ⟨oa, ol, oc, rfl⟩ := Go.WideShapes.okWide_slice under22 (hval 0 22 v0 rfl rfl)
    exact (List.cons.inj hc0).1
  obtain ⟨x1_0, x1_1, x1_2, rfl⟩ := arg27 (hval 1 27 v1 rfl rfl)
  obtain ⟨Fs, hheap⟩ := heapOk_args (T := T) (O := O) R W [v0] [.ro 3 L0] (by
      intro v hv
      simp only [List.mem_cons, List.not_mem_nil, or_false] at hv
      rcases hv with rfl <;> assumption) (fun k c hc => match k, c, hc with
      | 0, c, hc => by
        simp only [List.getElem?_cons_zero, List.getElem?_cons_succ, Option.some.injEq] at hc
        subst hc
        exact ⟨rfl, F0, fun _ => hro0⟩
      | k + 1, c, hc => by simp at hc)
  have hcall := law_calls R law08CalendarDropOk Try.call5 (args := [.own 0, .agg [.raw (.int .i64 x1_0), .raw (.int .i64 x1_1), .raw (.int .i64 x1_2)]]) (cs := [.ro 3 L0]) (rfl) (by simp [idsL, SV.ids]) (by simp [Chunk.ids]) hheap
  have hcall : Calls Try.prog 5 #[v0, .agg #[.int .i64 x1_0, .int .i64 x1_1, .int .i64 x1_2]] W fun en W' => en = .returned (.bool true) ∧ Below W.heap.size W W' := by
    simpa [denL, SV.den] using hcall
  refine hcall.mono fun e W' ⟨he, hb⟩ => ?_
  subst he
  exact ⟨_, rfl, post_law laidOut (readable_of (by kernel_rfl)) (tb := 4) (by kernel_rfl) under4 rfl (fun l hl => by
      match l, hl with
      | [_, _], _ => rfl) hW' hb⟩
end OfCalendarDrop

theorem CalendarDrop_holds : Rows.CalendarDropSaid :=
  OpenClaim.holds_of_wide 5 Try.f5 rfl rfl rfl rfl rfl rfl rfl ⟨rfl, rfl, rfl, rfl, rfl⟩ rfl rfl rfl rfl rfl (by kernel_rfl) Try.func5 (by kernel_rfl)
    (of_decide_eq_true (by kernel_rfl)) (by unfold Func.isWrapper; first | (rw [if_pos (by decide +kernel)]; kernel_rfl) | (rw [if_neg (by decide +kernel)]; exact ⟨rfl, rfl⟩))
    (fun os started H enc _ => OfCalendarDrop.CalendarDrop_lifted os started H enc)
end Go.Proofs.Ythihpebdcamilaa
