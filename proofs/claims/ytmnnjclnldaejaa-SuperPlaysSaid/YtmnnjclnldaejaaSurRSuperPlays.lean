/-
  Part of a proof over the seat Ytmnnjclnldaejaa: printed by a small program or typed by hand.
-/
import Derived.Test.YtmnnjclnldaejaaJSurRS37
import Derived.Test.YtmnnjclnldaejaaSxLift2
import Derived.Test.YtmnnjclnldaejaaRows
namespace Go.Proofs.Ytmnnjclnldaejaa
open Go.Sx Go.Proofs Go.RowKit
namespace OfSuperPlays
theorem own : ownKnob Try.prog.godebug = none := by kernel_rfl
theorem laidOut : laidOutB Try.prog = true := by kernel_rfl
theorem readable_of {ts : List TypeId} (h : ts.all (fun t => Try.prog.readableRec t && decide (t < Try.prog.types.size)) = true) : ∀ t ∈ ts, Try.prog.readableRec t = true ∧ t < Try.prog.types.size := by
  intro t ht
  have := List.all_eq_true.1 h t ht
  simpa using this
theorem under4 : Try.prog.underlying 4 = some .bool := by kernel_rfl
theorem under22 : Try.prog.underlying 22 = some (.slice 68) := by kernel_rfl
theorem under3 : Try.prog.underlying 3 = some (.int .i64) := by kernel_rfl
theorem under43 : Try.prog.underlying 43 = some (.slice 3) := by kernel_rfl
theorem trod_first {H : Type} {enc : TypeId × Value → H} {P : Program} {w : World} {base fuel : Nat} {spare : Nat → Bool} {held : Bool} {t t0 : TypeId} {c : Value} {cs : List Value} {x : DataW H × List MemPlace}
    (hu : (match P.underlying t with | some (.struct fs) => fs[0]?.map (fun f => (f.type, f.offset)) | _ => none) = some (t0, 0)) (hc : P.cellsOf t0 = 1) (h : DataW.trod enc P w base spare held fuel t (c :: cs) = some x) : ∃ n y, DataW.trod enc P w base spare held n t0 [c] = some y := by
  split at hu
  · rename_i fs hfs
    obtain ⟨xs, n, _, _, _, hl, hf⟩ := DataW.trod_struct hfs h
    cases h0 : fs[0]? with
    | none => rw [h0] at hu; cases hu
    | some f =>
      rw [h0] at hu
      simp only [Option.map_some, Option.some.injEq, Prod.mk.injEq] at hu
      have := hf 0 f h0
      rw [hu.1, hu.2, hc] at this
      have hx : 0 < xs.length := by
        rw [hl]
        exact (Array.getElem?_eq_some_iff.1 h0).1
      rw [List.getElem?_eq_getElem hx] at this
      exact ⟨n, _, this⟩
  · cases hu
theorem rowE6 (vs : List Value) (g0 : Each Leaf.has [.int .i64, .int .i64] vs) : ∃ a, vs = (T 6).vals a := by
  obtain ⟨_, vs0, rfl, h0, g1⟩ := each_one g0
  obtain ⟨x0, rfl, _⟩ := has_int h0
  obtain ⟨_, vs1, rfl, h1, g2⟩ := each_one g1
  obtain ⟨x1, rfl, _⟩ := has_int h1
  obtain rfl := each_nil g2
  exact ⟨⟨x0, x1⟩, rfl⟩
theorem rowE0 (vs : List Value) (g0 : Each Leaf.has [.int .i64] vs) : ∃ a, vs = (T 0).vals a := by
  obtain ⟨_, vs0, rfl, h0, g1⟩ := each_one g0
  obtain ⟨x0, rfl, _⟩ := has_int h0
  obtain rfl := each_nil g1
  exact ⟨x0, rfl⟩
theorem params9 : Try.f9.params = #[22, 3, 43] := by kernel_rfl
set_option maxRecDepth 100000 in
theorem SuperPlays_lifted (os : Os) (started : os.Started) (H : Type) (enc : TypeId × Value → H) :
    ReturnsInHanded {} Try.checked os 9 .any (Rows.superPlaysSpec.pre6 enc Try.prog Try.f9 Rows.superPlaysRow.domain false) (Rows.superPlaysSpec.post enc Try.prog Try.f9 false true false false) := by
  refine returnsInHanded_of_change (C := Try.checked) own started (by kernel_rfl) Try.func9
    (ChangeSpec.witness6 (enc := enc) (C := Try.checked) false ⟨#[], #[.slice none 0 0, .int .i64 0, .slice none 0 0], []⟩ 8 (by kernel_rfl) (by kernel_rfl) (by kernel_rfl) (by kernel_rfl)) ?_
  intro W base args ds gs before hval0 hW _ _
  have hval : ∀ (j : Nat) t v, Try.f9.params[j]? = some t → args[j]? = some v → Value.okWide Try.prog W .any base t v := hval0
  have hW' := hW
  obtain ⟨p, q, hA0, hV, rfl, hfz, hnd⟩ := hW
  have hA : DataW.TrodAll enc Try.prog W 0 (fun _ => true) true Try.f9.params.toList args.toList ds p := hA0
  rw [params9] at hA hval
  have hlen := (trodAll_length hA).1
  obtain ⟨v0, v1, v2, rfl⟩ := arr3 hlen
  clear hlen
  obtain ⟨_, ds0, _, _, hds0, ⟨fu0, tr0⟩, hA0⟩ := trodAll_cons hA
  obtain ⟨_, ds1, _, _, hds1, ⟨fu1, tr1⟩, hA1⟩ := trodAll_cons hA0
  obtain ⟨_, ds2, _, _, hds2, ⟨fu2, tr2⟩, hA2⟩ := trodAll_cons hA1
  obtain ⟨w0, L0, F0, hc0, hone0, hro0, rng0⟩ := open_row (E := T 6) (d := 8) under22 (by kernel_rfl) (by decide) (by kernel_rfl) rowE6 tr0
  obtain rfl : v0 = w0 := by
    obtain ⟨oa, ol, oc, rfl⟩ := Go.WideShapes.okWide_slice under22 (hval 0 22 v0 rfl rfl)
    exact (List.cons.inj hc0).1
  obtain ⟨x1, rfl, hx1⟩ := val_int under3 (hval 1 3 v1 rfl rfl)
  obtain ⟨w2, L2, F2, hc2, hone2, hro2, rng2⟩ := open_row (E := T 0) (d := 8) under43 (by kernel_rfl) (by decide) (by kernel_rfl) rowE0 tr2
  obtain rfl : v2 = w2 := by
    obtain ⟨oa, ol, oc, rfl⟩ := Go.WideShapes.okWide_slice under43 (hval 2 43 v2 rfl rfl)
    exact (List.cons.inj hc2).1
  obtain ⟨Fs, hheap⟩ := heapOk_args (T := T) (O := O) R W [v0, v2] [.ro 6 L0, .ro 0 L2] (by
      intro v hv
      simp only [List.mem_cons, List.not_mem_nil, or_false] at hv
      rcases hv with rfl | rfl <;> assumption) (fun k c hc => match k, c, hc with
      | 0, c, hc => by
        simp only [List.getElem?_cons_zero, List.getElem?_cons_succ, Option.some.injEq] at hc
        subst hc
        exact ⟨rfl, F0, fun _ => hro0⟩
      | 1, c, hc => by
        simp only [List.getElem?_cons_zero, List.getElem?_cons_succ, Option.some.injEq] at hc
        subst hc
        exact ⟨rfl, F2, fun _ => hro2⟩
      | k + 2, c, hc => by simp at hc)
  have hcall := law_calls R superPlaysOk Try.call9 (args := [.own 0, .raw (.int .i64 x1), .own 1]) (cs := [.ro 6 L0, .ro 0 L2]) (rfl) (by simp [idsL, SV.ids]) (by simp [Chunk.ids]) hheap
  have hcall : Calls Try.prog 9 #[v0, .int .i64 x1, v2] W fun en W' => en = .returned (.bool true) ∧ Below W.heap.size W W' := by
    simpa [denL, SV.den] using hcall
  refine hcall.mono fun e W' ⟨he, hb⟩ => ?_
  subst he
  exact ⟨_, rfl, post_law laidOut (readable_of (by kernel_rfl)) (tb := 4) (by kernel_rfl) under4 rfl (fun l hl => by
      match l, hl with
      | [_, _, _], _ => rfl) hW' hb⟩
end OfSuperPlays

theorem SuperPlays_holds : Rows.SuperPlaysSaid :=
  OpenClaim.holds_of_wide 9 Try.f9 rfl rfl rfl rfl rfl rfl rfl ⟨rfl, rfl, rfl, rfl, rfl⟩ rfl rfl rfl rfl rfl (by kernel_rfl) Try.func9 (by kernel_rfl)
    (of_decide_eq_true (by kernel_rfl)) (by unfold Func.isWrapper; first | (rw [if_pos (by decide +kernel)]; kernel_rfl) | (rw [if_neg (by decide +kernel)]; exact ⟨rfl, rfl⟩))
    (fun os started H enc _ => OfSuperPlays.SuperPlays_lifted os started H enc)
end Go.Proofs.Ytmnnjclnldaejaa
