/-
  Part of a proof over the seat Ytjhkokdcjikkiaa: printed by a small program or typed by hand.
-/
import Derived.Test.YtjhkokdcjikkiaaPrioS23
import Derived.Test.YtjhkokdcjikkiaaSxLift2
import Derived.Test.YtjhkokdcjikkiaaRows
namespace Go.Proofs.Ytjhkokdcjikkiaa
open Go.Sx Go.Proofs Go.RowKit
namespace OfPrioWindows
theorem own : ownKnob Try.prog.godebug = none := by kernel_rfl
theorem laidOut : laidOutB Try.prog = true := by kernel_rfl
theorem readable_of {ts : List TypeId} (h : ts.all (fun t => Try.prog.readableRec t && decide (t < Try.prog.types.size)) = true) : ∀ t ∈ ts, Try.prog.readableRec t = true ∧ t < Try.prog.types.size := by
  intro t ht
  have := List.all_eq_true.1 h t ht
  simpa using this
theorem under4 : Try.prog.underlying 4 = some .bool := by kernel_rfl
theorem trod_first {H : Type} {enc : TypeId × Value → H} {P : Program} {w : World} {base fuel : Nat} {spare : Nat → Bool} {held : Bool} {t t0 : TypeId} {c : Value} {cs : List Value} {x : DataW H × List MemPlace}
    (hu : (match P.underlying t with | some (.struct fs) => fs[0]?.map (fun f => (f.type, f.offset)) | _ => none) = some (t0, 0)) (hc : P.cellsOf t0 = 1) (h : DataW.trod enc P w base spare held fuel t (c :: cs) = some x) : ∃ n y, DataW.trod enc P w base spare held n t0 [c] = some y := by
  split at hu
  · rename_i fs hfs
    obtain ⟨xs, n, _, _, _, hl, hf⟩ := DataW.trod_struct hfs h
    cases h0 : fs[0]? with
    | none => rw [h0] at hu; cases hu
    | some f =>
      rw [h0] at hu
      simp only [Option.map_some, Option.some.injEq, Prod.mk.injEq] at hu
      have := hf 0 f h0
      rw [hu.1, hu.2, hc] at this
      have hx : 0 < xs.length := by
        rw [hl]
        exact (Array.getElem?_eq_some_iff.1 h0).1
      rw [List.getElem?_eq_getElem hx] at this
      exact ⟨n, _, this⟩
  · cases hu
theorem under3 : Try.prog.underlying 3 = some (.int .i64) := by kernel_rfl
theorem arg29 {w : World} {r : Reach} {base : Nat} {v : Value} (h : Value.okWide Try.prog w r base 29 v) : ∃ (a0 : Int) (a1 : Int), v = .agg #[.int .i64 a0, .int .i64 a1] := by
  obtain ⟨cs, rfl, hc⟩ := val_agg (ts := [3, 3]) (by kernel_rfl) (by kernel_rfl) (by kernel_rfl) h
  match cs, hc with
  | [_, _], ⟨h0, h1, _⟩ =>
    obtain ⟨a0, rfl, _⟩ := cell_int under3 h0
    obtain ⟨a1, rfl, _⟩ := cell_int under3 h1
    exact ⟨a0, a1, rfl⟩
theorem under2 : Try.prog.underlying 2 = some (.int .i64) := by kernel_rfl
theorem arg30 {w : World} {r : Reach} {base : Nat} {v : Value} (h : Value.okWide Try.prog w r base 30 v) : ∃ (a0 : Int) (a1 : Int), v = .agg #[.int .i64 a0, .int .i64 a1] := by
  obtain ⟨cs, rfl, hc⟩ := val_agg (ts := [2, 2]) (by kernel_rfl) (by kernel_rfl) (by kernel_rfl) h
  match cs, hc with
  | [_, _], ⟨h0, h1, _⟩ =>
    obtain ⟨a0, rfl, _⟩ := cell_int under2 h0
    obtain ⟨a1, rfl, _⟩ := cell_int under2 h1
    exact ⟨a0, a1, rfl⟩
theorem params4 : Try.f4.params = #[29, 30] := by kernel_rfl
theorem PrioWindows_lifted (os : Os) (started : os.Started) (H : Type) (enc : TypeId × Value → H) :
    ReturnsInHanded {} Try.checked os 4 .any (Rows.prioWindowsSpec.pre6 enc Try.prog Try.f4 Rows.prioWindowsRow.domain false) (Rows.prioWindowsSpec.post enc Try.prog Try.f4 false true false false) := by
  refine returnsInHanded_of_change (C := Try.checked) own started (by kernel_rfl) Try.func4
    (ChangeSpec.witness6 (enc := enc) (C := Try.checked) false ⟨#[], #[.agg #[.int .i64 0, .int .i64 0], .agg #[.int .i64 0, .int .i64 0]], []⟩ 8 (by kernel_rfl) (by kernel_rfl) (by kernel_rfl) (by kernel_rfl)) ?_
  intro W base args ds gs before hval0 hW _ _
  have hval : ∀ (j : Nat) t v, Try.f4.params[j]? = some t → args[j]? = some v → Value.okWide Try.prog W .any base t v := hval0
  have hW' := hW
  obtain ⟨p, q, hA0, hV, rfl, hfz, hnd⟩ := hW
  have hA : DataW.TrodAll enc Try.prog W 0 (fun _ => true) true Try.f4.params.toList args.toList ds p := hA0
  rw [params4] at hA hval
  have hlen := (trodAll_length hA).1
  obtain ⟨v0, v1, rfl⟩ := arr2 hlen
  obtain ⟨x0_0, x0_1, rfl⟩ := arg29 (hval 0 29 v0 rfl rfl)
  obtain ⟨x1_0, x1_1, rfl⟩ := arg30 (hval 1 30 v1 rfl rfl)
  have hheap := heapOk_nil (T := T) (O := O) R W
  have hcall := law_calls R prioWindowsOk Try.call4 (args := [.agg [.raw (.int .i64 x0_0), .raw (.int .i64 x0_1)], .agg [.raw (.int .i64 x1_0), .raw (.int .i64 x1_1)]]) (cs := []) (rfl) (by simp [idsL, SV.ids]) (by simp [Chunk.ids]) hheap
  have hcall : Calls Try.prog 4 #[.agg #[.int .i64 x0_0, .int .i64 x0_1], .agg #[.int .i64 x1_0, .int .i64 x1_1]] W fun en W' => en = .returned (.bool true) ∧ Below W.heap.size W W' := by
    simpa [denL, SV.den] using hcall
  refine hcall.mono fun e W' ⟨he, hb⟩ => ?_
  subst he
  exact ⟨_, rfl, post_law laidOut (readable_of (by kernel_rfl)) (tb := 4) (by kernel_rfl) under4 rfl (fun l hl => by
      match l, hl with
      | [_, _], _ => rfl) hW' hb⟩
end OfPrioWindows

theorem PrioWindows_holds : Rows.PrioWindowsSaid :=
  OpenClaim.holds_of_wide 4 Try.f4 rfl rfl rfl rfl rfl rfl rfl ⟨rfl, rfl, rfl, rfl, rfl⟩ rfl rfl rfl rfl rfl (by kernel_rfl) Try.func4 (by kernel_rfl)
    (of_decide_eq_true (by kernel_rfl)) (by unfold Func.isWrapper; first | (rw [if_pos (by decide +kernel)]; kernel_rfl) | (rw [if_neg (by decide +kernel)]; exact ⟨rfl, rfl⟩))
    (fun os started H enc _ => OfPrioWindows.PrioWindows_lifted os started H enc)
end Go.Proofs.Ytjhkokdcjikkiaa
