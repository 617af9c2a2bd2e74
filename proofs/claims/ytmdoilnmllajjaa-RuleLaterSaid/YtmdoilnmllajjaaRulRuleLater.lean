/-
  Part of a proof over the seat Ytmdoilnmllajjaa: printed by a small program or typed by hand.
-/
import Derived.Test.YtmdoilnmllajjaaRulS8
import Derived.Test.YtmdoilnmllajjaaSxLift2
import Derived.SizedLaws
import Derived.Test.YtmdoilnmllajjaaRows
namespace Go.Proofs.Ytmdoilnmllajjaa
open Go.Sx Go.Proofs Go.RowKit
namespace OfRuleLater
theorem own : ownKnob Try.prog.godebug = none := by kernel_rfl
theorem laidOut : laidOutB Try.prog = true := by kernel_rfl
theorem readable_of {ts : List TypeId} (h : ts.all (fun t => Try.prog.readableRec t && decide (t < Try.prog.types.size)) = true) : ∀ t ∈ ts, Try.prog.readableRec t = true ∧ t < Try.prog.types.size := by
  intro t ht
  have := List.all_eq_true.1 h t ht
  simpa using this
theorem under4 : Try.prog.underlying 4 = some .bool := by kernel_rfl
theorem under41 : Try.prog.underlying 41 = some (.slice 43) := by kernel_rfl
theorem under3 : Try.prog.underlying 3 = some (.int .i64) := by kernel_rfl
theorem arg22 {w : World} {r : Reach} {base : Nat} {v : Value} (h : Value.okWide Try.prog w r base 22 v) : ∃ (a0 : Int) (a1 : Int), v = .agg #[.int .i64 a0, .int .i64 a1] := by
  obtain ⟨cs, rfl, hc⟩ := val_agg (ts := [3, 3]) (by kernel_rfl) (by kernel_rfl) (by kernel_rfl) h
  match cs, hc with
  | [_, _], ⟨h0, h1, _⟩ =>
    obtain ⟨a0, rfl, _⟩ := cell_int under3 h0
    obtain ⟨a1, rfl, _⟩ := cell_int under3 h1
    exact ⟨a0, a1, rfl⟩
theorem under2 : Try.prog.underlying 2 = some (.int .i64) := by kernel_rfl
theorem arg40 {w : World} {r : Reach} {base : Nat} {v : Value} (h : Value.okWide Try.prog w r base 40 v) : ∃ (a0 : Int) (a1 : Int) (a2 : Int), v = .agg #[.int .i64 a0, .int .i64 a1, .int .i64 a2] := by
  obtain ⟨cs, rfl, hc⟩ := val_agg (ts := [2, 2, 2]) (by kernel_rfl) (by kernel_rfl) (by kernel_rfl) h
  match cs, hc with
  | [_, _, _], ⟨h0, h1, h2, _⟩ =>
    obtain ⟨a0, rfl, _⟩ := cell_int under2 h0
    obtain ⟨a1, rfl, _⟩ := cell_int under2 h1
    obtain ⟨a2, rfl, _⟩ := cell_int under2 h2
    exact ⟨a0, a1, a2, rfl⟩
theorem rowE2 (vs : List Value) (g0 : Each Leaf.has [.int .i64, .int .i64, .int .i64] vs) : ∃ a, vs = (T 2).vals a := by
  obtain ⟨_, vs0, rfl, h0, g1⟩ := each_one g0
  obtain ⟨x0, rfl, _⟩ := has_int h0
  obtain ⟨_, vs1, rfl, h1, g2⟩ := each_one g1
  obtain ⟨x1, rfl, _⟩ := has_int h1
  obtain ⟨_, vs2, rfl, h2, g3⟩ := each_one g2
  obtain ⟨x2, rfl, _⟩ := has_int h2
  obtain rfl := each_nil g3
  exact ⟨⟨x0, x1, x2⟩, rfl⟩
theorem params7 : Try.f7.params = #[22, 40, 41] := by kernel_rfl
theorem RuleLater_lifted (os : Os) (started : os.Started) (H : Type) (enc : TypeId × Value → H) :
    ReturnsInHanded {} Try.checked os 7 .any (Rows.ruleLaterSpec.pre6 enc Try.prog Try.f7 Rows.ruleLaterRow.domain false) (Rows.ruleLaterSpec.post enc Try.prog Try.f7 false true false false) := by
  refine returnsInHanded_of_change_sized (C := Try.checked) own started (by kernel_rfl) Try.func7
    (ChangeSpec.witness6 (enc := enc) (C := Try.checked) false ⟨#[], #[.agg #[.int .i64 0, .int .i64 0], .agg #[.int .i64 0, .int .i64 0, .int .i64 0], .slice none 0 0], []⟩ 8 (by kernel_rfl) (by kernel_rfl) (by kernel_rfl) (by kernel_rfl)) ?_
  intro W base args ds gs before hval0 hW _ hsz _
  have hval : ∀ (j : Nat) t v, Try.f7.params[j]? = some t → args[j]? = some v → Value.okWide Try.prog W .any base t v := hval0
  have hW' := hW
  obtain ⟨p, q, hA0, hV, rfl, hfz, hnd⟩ := hW
  have hA : DataW.TrodAll enc Try.prog W 0 (fun _ => true) true Try.f7.params.toList args.toList ds p := hA0
  rw [params7] at hA hval
  have hlen := (trodAll_length hA).1
  obtain ⟨v0, v1, v2, rfl⟩ := arr3 hlen
  clear hlen
  obtain ⟨_, ds0, _, _, hds0, ⟨fu0, tr0⟩, hA0⟩ := trodAll_cons hA
  obtain ⟨_, ds1, _, _, hds1, ⟨fu1, tr1⟩, hA1⟩ := trodAll_cons hA0
  obtain ⟨_, ds2, _, _, hds2, ⟨fu2, tr2⟩, hA2⟩ := trodAll_cons hA1
  obtain ⟨x0_0, x0_1, rfl⟩ := arg22 (hval 0 22 v0 rfl rfl)
  obtain ⟨x1_0, x1_1, x1_2, rfl⟩ := arg40 (hval 1 40 v1 rfl rfl)
  obtain ⟨w2, L2, F2, hc2, hone2, hro2, rng2⟩ := open_row (E := T 2) (d := 8) under41 (by kernel_rfl) (by decide) (by kernel_rfl) rowE2 tr2
  obtain rfl : v2 = w2 := by
    obtain ⟨oa, ol, oc, rfl⟩ := Go.WideShapes.okWide_slice under41 (hval 2 41 v2 rfl rfl)
    exact (List.cons.inj hc2).1
  have sz2 : L2.length ≤ 140737488355328 := by
    rcases row_sized (E := T 2) under41 hro2 (hc2 ▸ tr2) with hnil | ⟨es, sp, he, hl⟩
    · rw [hnil]; exact Nat.zero_le _
    · have : (es.length + sp.length) * Try.prog.bytesOf 43 ≤ reachBytes := sized_slice hsz (j := 2) (t := 41) (elems := es) (spare := sp) (by rw [params7]; rfl) (by rw [hds0]; rw [hds1]; rw [hds2]; exact congrArg some he) under41
      have hb : Try.prog.bytesOf 43 = 24 := by kernel_rfl
      rw [hb] at this
      simp only [reachBytes] at this
      omega
  obtain ⟨Fs, hheap⟩ := heapOk_args (T := T) (O := O) R W [v2] [.ro 2 L2] (by
      intro v hv
      simp only [List.mem_cons, List.not_mem_nil, or_false] at hv
      rcases hv with rfl <;> assumption) (fun k c hc => match k, c, hc with
      | 0, c, hc => by
        simp only [List.getElem?_cons_zero, List.getElem?_cons_succ, Option.some.injEq] at hc
        subst hc
        exact ⟨rfl, F2, fun _ => hro2⟩
      | k + 1, c, hc => by simp at hc)
  have hcall := law_calls R law11RuleLaterOk Try.call7 (args := [.agg [.raw (.int .i64 x0_0), .raw (.int .i64 x0_1)], .agg [.raw (.int .i64 x1_0), .raw (.int .i64 x1_1), .raw (.int .i64 x1_2)], .own 0]) (cs := [.ro 2 L2]) (by
    show Tree.holds _ (chk (decide _) _)
    rw [Tree.holds_chk]
    refine ⟨decide_eq_true ?_, rfl⟩
    exact sz2) (by simp [idsL, SV.ids]) (by simp [Chunk.ids]) hheap
  have hcall : Calls Try.prog 7 #[.agg #[.int .i64 x0_0, .int .i64 x0_1], .agg #[.int .i64 x1_0, .int .i64 x1_1, .int .i64 x1_2], v2] W fun en W' => en = .returned (.bool true) ∧ Below W.heap.size W W' := by
    simpa [denL, SV.den] using hcall
  refine hcall.mono fun e W' ⟨he, hb⟩ => ?_
  subst he
  exact ⟨_, rfl, post_law laidOut (readable_of (by kernel_rfl)) (tb := 4) (by kernel_rfl) under4 rfl (fun l hl => by
      match l, hl with
      | [_, _, _], _ => rfl) hW' hb⟩
end OfRuleLater

theorem RuleLater_holds : Rows.RuleLaterSaid :=
  OpenClaim.holds_of_wide 7 Try.f7 rfl rfl rfl rfl rfl rfl rfl ⟨rfl, rfl, rfl, rfl, rfl⟩ rfl rfl rfl rfl rfl (by kernel_rfl) Try.func7 (by kernel_rfl)
    (of_decide_eq_true (by kernel_rfl)) (by unfold Func.isWrapper; first | (rw [if_pos (by decide +kernel)]; kernel_rfl) | (rw [if_neg (by decide +kernel)]; exact ⟨rfl, rfl⟩))
    (fun os started H enc _ => OfRuleLater.RuleLater_lifted os started H enc)
end Go.Proofs.Ytmdoilnmllajjaa
