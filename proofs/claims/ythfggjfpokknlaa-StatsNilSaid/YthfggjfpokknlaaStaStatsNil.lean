/-
  Part of a proof over the seat Ythfggjfpokknlaa: printed by a small program or typed by hand.
-/
import Derived.Test.YthfggjfpokknlaaStaS12
import Derived.Test.YthfggjfpokknlaaSxLift2
import Derived.Test.YthfggjfpokknlaaRows
namespace Go.Proofs.Ythfggjfpokknlaa
open Go.Sx Go.Proofs Go.RowKit
namespace OfStatsNil
theorem own : ownKnob Try.prog.godebug = none := by kernel_rfl
theorem laidOut : laidOutB Try.prog = true := by kernel_rfl
theorem readable_of {ts : List TypeId} (h : ts.all (fun t => Try.prog.readableRec t && decide (t < Try.prog.types.size)) = true) : ∀ t ∈ ts, Try.prog.readableRec t = true ∧ t < Try.prog.types.size := by
  intro t ht
  have := List.all_eq_true.1 h t ht
  simpa using this
theorem under4 : Try.prog.underlying 4 = some .bool := by kernel_rfl
theorem under3 : Try.prog.underlying 3 = some (.int .i64) := by kernel_rfl
theorem under2 : Try.prog.underlying 2 = some (.int .i64) := by kernel_rfl
theorem trod_first {H : Type} {enc : TypeId × Value → H} {P : Program} {w : World} {base fuel : Nat} {spare : Nat → Bool} {held : Bool} {t t0 : TypeId} {c : Value} {cs : List Value} {x : DataW H × List MemPlace}
    (hu : (match P.underlying t with | some (.struct fs) => fs[0]?.map (fun f => (f.type, f.offset)) | _ => none) = some (t0, 0)) (hc : P.cellsOf t0 = 1) (h : DataW.trod enc P w base spare held fuel t (c :: cs) = some x) : ∃ n y, DataW.trod enc P w base spare held n t0 [c] = some y := by
  split at hu
  · rename_i fs hfs
    obtain ⟨xs, n, _, _, _, hl, hf⟩ := DataW.trod_struct hfs h
    cases h0 : fs[0]? with
    | none => rw [h0] at hu; cases hu
    | some f =>
      rw [h0] at hu
      simp only [Option.map_some, Option.some.injEq, Prod.mk.injEq] at hu
      have := hf 0 f h0
      rw [hu.1, hu.2, hc] at this
      have hx : 0 < xs.length := by
        rw [hl]
        exact (Array.getElem?_eq_some_iff.1 h0).1
      rw [List.getElem?_eq_getElem hx] at this
      exact ⟨n, _, this⟩
  · cases hu
theorem params6 : Try.f6.params = #[3, 2] := by kernel_rfl
set_option maxRecDepth 100000 in
theorem StatsNil_lifted (os : Os) (started : os.Started) (H : Type) (enc : TypeId × Value → H) :
    ReturnsInHanded {} Try.checked os 6 .any (Rows.statsNilSpec.pre6 enc Try.prog Try.f6 Rows.statsNilRow.domain false) (Rows.statsNilSpec.post enc Try.prog Try.f6 false true false false) := by
  refine returnsInHanded_of_change (C := Try.checked) own started (by kernel_rfl) Try.func6
    (ChangeSpec.witness6 (enc := enc) (C := Try.checked) false ⟨#[], #[.int .i64 0, .int .i64 0], []⟩ 8 (by kernel_rfl) (by kernel_rfl) (by kernel_rfl) (by kernel_rfl)) ?_
  intro W base args ds gs before hval0 hW _ _
  have hval : ∀ (j : Nat) t v, Try.f6.params[j]? = some t → args[j]? = some v → Value.okWide Try.prog W .any base t v := hval0
  have hW' := hW
  obtain ⟨p, q, hA0, hV, rfl, hfz, hnd⟩ := hW
  have hA : DataW.TrodAll enc Try.prog W 0 (fun _ => true) true Try.f6.params.toList args.toList ds p := hA0
  rw [params6] at hA hval
  have hlen := (trodAll_length hA).1
  obtain ⟨v0, v1, rfl⟩ := arr2 hlen
  obtain ⟨x0, rfl, hx0⟩ := val_int under3 (hval 0 3 v0 rfl rfl)
  obtain ⟨x1, rfl, hx1⟩ := val_int under2 (hval 1 2 v1 rfl rfl)
  have hheap := heapOk_nil (T := T) (O := O) R W
  have hcall := law_calls R statsNilOk Try.call6 (args := [.raw (.int .i64 x0), .raw (.int .i64 x1)]) (cs := []) (by
    show Tree.holds _ (chk (decide _) _)
    rw [Tree.holds_chk]
    refine ⟨decide_eq_true ?_, rfl⟩
    exact ⟨hx0.1, hx0.2⟩) (by simp [idsL, SV.ids]) (by simp [Chunk.ids]) hheap
  have hcall : Calls Try.prog 6 #[.int .i64 x0, .int .i64 x1] W fun en W' => en = .returned (.bool true) ∧ Below W.heap.size W W' := by
    simpa [denL, SV.den] using hcall
  refine hcall.mono fun e W' ⟨he, hb⟩ => ?_
  subst he
  exact ⟨_, rfl, post_law laidOut (readable_of (by kernel_rfl)) (tb := 4) (by kernel_rfl) under4 rfl (fun l hl => by
      match l, hl with
      | [_, _], _ => rfl) hW' hb⟩
end OfStatsNil

theorem StatsNil_holds : Rows.StatsNilSaid :=
  OpenClaim.holds_of_wide 6 Try.f6 rfl rfl rfl rfl rfl rfl rfl ⟨rfl, rfl, rfl, rfl, rfl⟩ rfl rfl rfl rfl rfl (by kernel_rfl) Try.func6 (by kernel_rfl)
    (of_decide_eq_true (by kernel_rfl)) (by unfold Func.isWrapper; first | (rw [if_pos (by decide +kernel)]; kernel_rfl) | (rw [if_neg (by decide +kernel)]; exact ⟨rfl, rfl⟩))
    (fun os started H enc _ => OfStatsNil.StatsNil_lifted os started H enc)
end Go.Proofs.Ythfggjfpokknlaa
