/-
  Part of a proof over the seat Ytjhkokdcjikkiaa: printed by a small program or typed by hand.
-/
import Derived.Test.YtjhkokdcjikkiaaPrioS23
import Derived.Test.YtjhkokdcjikkiaaSxLift2
import Derived.Test.YtjhkokdcjikkiaaRows
namespace Go.Proofs.Ytjhkokdcjikkiaa
open Go.Sx Go.Proofs Go.RowKit
namespace OfPrioTells
theorem own : ownKnob Try.prog.godebug = none := by kernel_rfl
theorem laidOut : laidOutB Try.prog = true := by kernel_rfl
theorem readable_of {ts : List TypeId} (h : ts.all (fun t => Try.prog.readableRec t && decide (t < Try.prog.types.size)) = true) : ∀ t ∈ ts, Try.prog.readableRec t = true ∧ t < Try.prog.types.size := by
  intro t ht
  have := List.all_eq_true.1 h t ht
  simpa using this
theorem under4 : Try.prog.underlying 4 = some .bool := by kernel_rfl
theorem under37 : Try.prog.underlying 37 = some (.slice 25) := by kernel_rfl
theorem trod_first {H : Type} {enc : TypeId × Value → H} {P : Program} {w : World} {base fuel : Nat} {spare : Nat → Bool} {held : Bool} {t t0 : TypeId} {c : Value} {cs : List Value} {x : DataW H × List MemPlace}
    (hu : (match P.underlying t with | some (.struct fs) => fs[0]?.map (fun f => (f.type, f.offset)) | _ => none) = some (t0, 0)) (hc : P.cellsOf t0 = 1) (h : DataW.trod enc P w base spare held fuel t (c :: cs) = some x) : ∃ n y, DataW.trod enc P w base spare held n t0 [c] = some y := by
  split at hu
  · rename_i fs hfs
    obtain ⟨xs, n, _, _, _, hl, hf⟩ := DataW.trod_struct hfs h
    cases h0 : fs[0]? with
    | none => rw [h0] at hu; cases hu
    | some f =>
      rw [h0] at hu
      simp only [Option.map_some, Option.some.injEq, Prod.mk.injEq] at hu
      have := hf 0 f h0
      rw [hu.1, hu.2, hc] at this
      have hx : 0 < xs.length := by
        rw [hl]
        exact (Array.getElem?_eq_some_iff.1 h0).1
      rw [List.getElem?_eq_getElem hx] at this
      exact ⟨n, _, this⟩
  · cases hu
theorem rowE2 (vs : List Value) (g0 : Each Leaf.has [.int .i64, .int .i64, .int .i64, .int .i64, .int .i64, .int .i64] vs) : ∃ a, vs = (T 2).vals a := by
  obtain ⟨_, vs0, rfl, h0, g1⟩ := each_one g0
  obtain ⟨x0, rfl, _⟩ := has_int h0
  obtain ⟨_, vs1, rfl, h1, g2⟩ := each_one g1
  obtain ⟨x1, rfl, _⟩ := has_int h1
  obtain ⟨_, vs2, rfl, h2, g3⟩ := each_one g2
  obtain ⟨x2, rfl, _⟩ := has_int h2
  obtain ⟨_, vs3, rfl, h3, g4⟩ := each_one g3
  obtain ⟨x3, rfl, _⟩ := has_int h3
  obtain ⟨_, vs4, rfl, h4, g5⟩ := each_one g4
  obtain ⟨x4, rfl, _⟩ := has_int h4
  obtain ⟨_, vs5, rfl, h5, g6⟩ := each_one g5
  obtain ⟨x5, rfl, _⟩ := has_int h5
  obtain rfl := each_nil g6
  exact ⟨⟨x0, x1, x2, x3, x4, x5⟩, rfl⟩
theorem under3 : Try.prog.underlying 3 = some (.int .i64) := by kernel_rfl
theorem arg29 {w : World} {r : Reach} {base : Nat} {v : Value} (h : Value.okWide Try.prog w r base 29 v) : ∃ (a0 : Int) (a1 : Int), v = .agg #[.int .i64 a0, .int .i64 a1] := by
  obtain ⟨cs, rfl, hc⟩ := val_agg (ts := [3, 3]) (by kernel_rfl) (by kernel_rfl) (by kernel_rfl) h
  match cs, hc with
  | [_, _], ⟨h0, h1, _⟩ =>
    obtain ⟨a0, rfl, _⟩ := cell_int under3 h0
    obtain ⟨a1, rfl, _⟩ := cell_int under3 h1
    exact ⟨a0, a1, rfl⟩
theorem under2 : Try.prog.underlying 2 = some (.int .i64) := by kernel_rfl
theorem arg44 {w : World} {r : Reach} {base : Nat} {v : Value} (h : Value.okWide Try.prog w r base 44 v) : ∃ (a0 : Int) (a1 : Int) (a2 : Int) (a3 : Int) (a4 : Int) (a5 : Int) (a6 : Int) (a7 : Int) (a8 : Int) (a9 : Int) (a10 : Int) (a11 : Int), v = .agg #[.int .i64 a0, .int .i64 a1, .int .i64 a2, .int .i64 a3, .int .i64 a4, .int .i64 a5, .int .i64 a6, .int .i64 a7, .int .i64 a8, .int .i64 a9, .int .i64 a10, .int .i64 a11] := by
  obtain ⟨cs, rfl, hc⟩ := val_agg (ts := [3, 2, 2, 2, 3, 2, 3, 2, 2, 2, 3, 2]) (by kernel_rfl) (by kernel_rfl) (by kernel_rfl) h
  match cs, hc with
  | [_, _, _, _, _, _, _, _, _, _, _, _], ⟨h0, h1, h2, h3, h4, h5, h6, h7, h8, h9, h10, h11, _⟩ =>
    obtain ⟨a0, rfl, _⟩ := cell_int under3 h0
    obtain ⟨a1, rfl, _⟩ := cell_int under2 h1
    obtain ⟨a2, rfl, _⟩ := cell_int under2 h2
    obtain ⟨a3, rfl, _⟩ := cell_int under2 h3
    obtain ⟨a4, rfl, _⟩ := cell_int under3 h4
    obtain ⟨a5, rfl, _⟩ := cell_int under2 h5
    obtain ⟨a6, rfl, _⟩ := cell_int under3 h6
    obtain ⟨a7, rfl, _⟩ := cell_int under2 h7
    obtain ⟨a8, rfl, _⟩ := cell_int under2 h8
    obtain ⟨a9, rfl, _⟩ := cell_int under2 h9
    obtain ⟨a10, rfl, _⟩ := cell_int under3 h10
    obtain ⟨a11, rfl, _⟩ := cell_int under2 h11
    exact ⟨a0, a1, a2, a3, a4, a5, a6, a7, a8, a9, a10, a11, rfl⟩
theorem params8 : Try.f8.params = #[37, 29, 44] := by kernel_rfl
theorem PrioTells_lifted (os : Os) (started : os.Started) (H : Type) (enc : TypeId × Value → H) :
    ReturnsInHanded {} Try.checked os 8 .any (Rows.prioTellsSpec.pre6 enc Try.prog Try.f8 Rows.prioTellsRow.domain false) (Rows.prioTellsSpec.post enc Try.prog Try.f8 false true false false) := by
  refine returnsInHanded_of_change (C := Try.checked) own started (by kernel_rfl) Try.func8
    (ChangeSpec.witness6 (enc := enc) (C := Try.checked) false ⟨#[], #[.slice none 0 0, .agg #[.int .i64 0, .int .i64 0], .agg #[.int .i64 0, .int .i64 0, .int .i64 0, .int .i64 0, .int .i64 0, .int .i64 0, .int .i64 0, .int .i64 0, .int .i64 0, .int .i64 0, .int .i64 0, .int .i64 0]], []⟩ 8 (by kernel_rfl) (by kernel_rfl) (by kernel_rfl) (by kernel_rfl)) ?_
  intro W base args ds gs before hval0 hW _ _
  have hval : ∀ (j : Nat) t v, Try.f8.params[j]? = some t → args[j]? = some v → Value.okWide Try.prog W .any base t v := hval0
  have hW' := hW
  obtain ⟨p, q, hA0, hV, rfl, hfz, hnd⟩ := hW
  have hA : DataW.TrodAll enc Try.prog W 0 (fun _ => true) true Try.f8.params.toList args.toList ds p := hA0
  rw [params8] at hA hval
  have hlen := (trodAll_length hA).1
  obtain ⟨v0, v1, v2, rfl⟩ := arr3 hlen
  clear hlen
  obtain ⟨_, ds0, _, _, hds0, ⟨fu0, tr0⟩, hA0⟩ := trodAll_cons hA
  obtain ⟨w0, L0, F0, hc0, hone0, hro0, rng0⟩ := open_row (E := T 2) (d := 8) under37 (by kernel_rfl) (by decide) (by kernel_rfl) rowE2 tr0
  obtain rfl : v0 = w0 := by
    obtain ⟨oa, ol, oc, rfl⟩ := Go.WideShapes.okWide_slice under37 (hval 0 37 v0 rfl rfl)
    exact (List.cons.inj hc0).1
  obtain ⟨x1_0, x1_1, rfl⟩ := arg29 (hval 1 29 v1 rfl rfl)
  obtain ⟨x2_0, x2_1, x2_2, x2_3, x2_4, x2_5, x2_6, x2_7, x2_8, x2_9, x2_10, x2_11, rfl⟩ := arg44 (hval 2 44 v2 rfl rfl)
  obtain ⟨Fs, hheap⟩ := heapOk_args (T := T) (O := O) R W [v0] [.ro 2 L0] (by
      intro v hv
      simp only [List.mem_cons, List.not_mem_nil, or_false] at hv
      rcases hv with rfl <;> assumption) (fun k c hc => match k, c, hc with
      | 0, c, hc => by
        simp only [List.getElem?_cons_zero, List.getElem?_cons_succ, Option.some.injEq] at hc
        subst hc
        exact ⟨rfl, F0, fun _ => hro0⟩
      | k + 1, c, hc => by simp at hc)
  have hcall := law_calls R prioTellsOk Try.call8 (args := [.own 0, .agg [.raw (.int .i64 x1_0), .raw (.int .i64 x1_1)], .agg [.raw (.int .i64 x2_0), .raw (.int .i64 x2_1), .raw (.int .i64 x2_2), .raw (.int .i64 x2_3), .raw (.int .i64 x2_4), .raw (.int .i64 x2_5), .raw (.int .i64 x2_6), .raw (.int .i64 x2_7), .raw (.int .i64 x2_8), .raw (.int .i64 x2_9), .raw (.int .i64 x2_10), .raw (.int .i64 x2_11)]]) (cs := [.ro 2 L0]) (rfl) (by simp [idsL, SV.ids]) (by simp [Chunk.ids]) hheap
  have hcall : Calls Try.prog 8 #[v0, .agg #[.int .i64 x1_0, .int .i64 x1_1], .agg #[.int .i64 x2_0, .int .i64 x2_1, .int .i64 x2_2, .int .i64 x2_3, .int .i64 x2_4, .int .i64 x2_5, .int .i64 x2_6, .int .i64 x2_7, .int .i64 x2_8, .int .i64 x2_9, .int .i64 x2_10, .int .i64 x2_11]] W fun en W' => en = .returned (.bool true) ∧ Below W.heap.size W W' := by
    simpa [denL, SV.den] using hcall
  refine hcall.mono fun e W' ⟨he, hb⟩ => ?_
  subst he
  exact ⟨_, rfl, post_law laidOut (readable_of (by kernel_rfl)) (tb := 4) (by kernel_rfl) under4 rfl (fun l hl => by
      match l, hl with
      | [_, _, _], _ => rfl) hW' hb⟩
end OfPrioTells

theorem PrioTells_holds : Rows.PrioTellsSaid :=
  OpenClaim.holds_of_wide 8 Try.f8 rfl rfl rfl rfl rfl rfl rfl ⟨rfl, rfl, rfl, rfl, rfl⟩ rfl rfl rfl rfl rfl (by kernel_rfl) Try.func8 (by kernel_rfl)
    (of_decide_eq_true (by kernel_rfl)) (by unfold Func.isWrapper; first | (rw [if_pos (by decide +kernel)]; kernel_rfl) | (rw [if_neg (by decide +kernel)]; exact ⟨rfl, rfl⟩))
    (fun os started H enc _ => OfPrioTells.PrioTells_lifted os started H enc)
end Go.Proofs.Ytjhkokdcjikkiaa
