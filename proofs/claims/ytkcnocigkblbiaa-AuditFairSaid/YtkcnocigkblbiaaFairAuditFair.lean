/-
  Part of a proof over the seat Ytkcnocigkblbiaa: printed by a small program or typed by hand.
-/
import Derived.Test.YtkcnocigkblbiaaFairS18
import Derived.Test.YtkcnocigkblbiaaSxLift2
import Derived.Test.YtkcnocigkblbiaaRows
namespace Go.Proofs.Ytkcnocigkblbiaa
open Go.Sx Go.Proofs Go.RowKit
namespace OfAuditFair
theorem own : ownKnob Try.prog.godebug = none := by kernel_rfl
theorem laidOut : laidOutB Try.prog = true := by kernel_rfl
theorem readable_of {ts : List TypeId} (h : ts.all (fun t => Try.prog.readableRec t && decide (t < Try.prog.types.size)) = true) : ∀ t ∈ ts, Try.prog.readableRec t = true ∧ t < Try.prog.types.size := by
  intro t ht
  have := List.all_eq_true.1 h t ht
  simpa using this
theorem under4 : Try.prog.underlying 4 = some .bool := by kernel_rfl
theorem under37 : Try.prog.underlying 37 = some (.slice 3) := by kernel_rfl
theorem under3 : Try.prog.underlying 3 = some (.int .i64) := by kernel_rfl
theorem arg36 {w : World} {r : Reach} {base : Nat} {v : Value} (h : Value.okWide Try.prog w r base 36 v) : ∃ (a0 : Int) (a1 : Int), v = .agg #[.int .i64 a0, .int .i64 a1] := by
  obtain ⟨cs, rfl, hc⟩ := val_agg (ts := [3, 3]) (by kernel_rfl) (by kernel_rfl) (by kernel_rfl) h
  match cs, hc with
  | [_, _], ⟨h0, h1, _⟩ =>
    obtain ⟨a0, rfl, _⟩ := cell_int under3 h0
    obtain ⟨a1, rfl, _⟩ := cell_int under3 h1
    exact ⟨a0, a1, rfl⟩
theorem rowE0 (vs : List Value) (g0 : Each Leaf.has [.int .i64] vs) : ∃ a, vs = (T 0).vals a := by
  obtain ⟨_, vs0, rfl, h0, g1⟩ := each_one g0
  obtain ⟨x0, rfl, _⟩ := has_int h0
  obtain rfl := each_nil g1
  exact ⟨x0, rfl⟩
theorem params7 : Try.f7.params = #[36, 37] := by kernel_rfl
theorem AuditFair_lifted (os : Os) (started : os.Started) (H : Type) (enc : TypeId × Value → H) :
    ReturnsInHanded {} Try.checked os 7 .any (Rows.auditFairSpec.pre6 enc Try.prog Try.f7 Rows.auditFairRow.domain false) (Rows.auditFairSpec.post enc Try.prog Try.f7 false true false false) := by
  refine returnsInHanded_of_change (C := Try.checked) own started (by kernel_rfl) Try.func7
    (ChangeSpec.witness6 (enc := enc) (C := Try.checked) false ⟨#[], #[.agg #[.int .i64 0, .int .i64 0], .slice none 0 0], []⟩ 8 (by kernel_rfl) (by kernel_rfl) (by kernel_rfl) (by kernel_rfl)) ?_
  intro W base args ds gs before hval0 hW _ _
  have hval : ∀ (j : Nat) t v, Try.f7.params[j]? = some t → args[j]? = some v → Value.okWide Try.prog W .any base t v := hval0
  have hW' := hW
  obtain ⟨p, q, hA0, hV, rfl, hfz, hnd⟩ := hW
  have hA : DataW.TrodAll enc Try.prog W 0 (fun _ => true) true Try.f7.params.toList args.toList ds p := hA0
  rw [params7] at hA hval
  have hlen := (trodAll_length hA).1
  obtain ⟨v0, v1, rfl⟩ := arr2 hlen
  clear hlen
  obtain ⟨_, ds0, _, _, hds0, ⟨fu0, tr0⟩, hA0⟩ := trodAll_cons hA
  obtain ⟨_, ds1, _, _, hds1, ⟨fu1, tr1⟩, hA1⟩ := trodAll_cons hA0
  obtain ⟨x0_0, x0_1, rfl⟩ := arg36 (hval 0 36 v0 rfl rfl)
  obtain ⟨w1, L1, F1, hc1, hone1, hro1, rng1⟩ := open_row (E := T 0) (d := 8) under37 (by kernel_rfl) (by decide) (by kernel_rfl) rowE0 tr1
  obtain rfl : v1 = w1 := by
    obtain ⟨oa, ol, oc, rfl⟩ := Go.WideShapes.okWide_slice under37 (hval 1 37 v1 rfl rfl)
    exact (List.cons.inj hc1).1
  obtain ⟨Fs, hheap⟩ := heapOk_args (T := T) (O := O) R W [v1] [.ro 0 L1] (by
      intro v hv
      simp only [List.mem_cons, List.not_mem_nil, or_false] at hv
      rcases hv with rfl <;> assumption) (fun k c hc => match k, c, hc with
      | 0, c, hc => by
        simp only [List.getElem?_cons_zero, List.getElem?_cons_succ, Option.some.injEq] at hc
        subst hc
        exact ⟨rfl, F1, fun _ => hro1⟩
      | k + 1, c, hc => by simp at hc)
  have hcall := law_calls R law20AuditFairOk Try.call7 (args := [.agg [.raw (.int .i64 x0_0), .raw (.int .i64 x0_1)], .own 0]) (cs := [.ro 0 L1]) (rfl) (by simp [idsL, SV.ids]) (by simp [Chunk.ids]) hheap
  have hcall : Calls Try.prog 7 #[.agg #[.int .i64 x0_0, .int .i64 x0_1], v1] W fun en W' => en = .returned (.bool true) ∧ Below W.heap.size W W' := by
    simpa [denL, SV.den] using hcall
  refine hcall.mono fun e W' ⟨he, hb⟩ => ?_
  subst he
  exact ⟨_, rfl, post_law laidOut (readable_of (by kernel_rfl)) (tb := 4) (by kernel_rfl) under4 rfl (fun l hl => by
      match l, hl with
      | [_, _], _ => rfl) hW' hb⟩
end OfAuditFair

theorem AuditFair_holds : Rows.AuditFairSaid :=
  OpenClaim.holds_of_wide 7 Try.f7 rfl rfl rfl rfl rfl rfl rfl ⟨rfl, rfl, rfl, rfl, rfl⟩ rfl rfl rfl rfl rfl (by kernel_rfl) Try.func7 (by kernel_rfl)
    (of_decide_eq_true (by kernel_rfl)) (by unfold Func.isWrapper; first | (rw [if_pos (by decide +kernel)]; kernel_rfl) | (rw [if_neg (by decide +kernel)]; exact ⟨rfl, rfl⟩))
    (fun os started H enc _ => OfAuditFair.AuditFair_lifted os started H enc)
end Go.Proofs.Ytkcnocigkblbiaa
