/-
  The law RuleBehind answers true at every input and leaves its arguments as they were (Rows.RuleBehindSaid). No condition.
-/
import Derived.Test.YtmdoilnmllajjaaRuleLift
namespace Go.Proofs.Ytmdoilnmllajjaa
open Go.Sx Go.Proofs Go.RowKit
theorem params6 : Try.f6.params = #[22, 2, 2] := by kernel_rfl
theorem RuleBehind_calls (a0i0 : Int) (a0i1 : Int) (a1 : Int) (a2 : Int) (W : World) : Calls Try.prog 6 #[.agg #[.int .i64 a0i0, .int .i64 a0i1], .int .i64 a1, .int .i64 a2] W fun en W' => en = .returned (.bool true) ∧ Below W.heap.size W W' := by
  have := law_calls R law11RuleBehindOk Try.call6 (args := [.agg [.raw (.int .i64 a0i0), .raw (.int .i64 a0i1)], .raw (.int .i64 a1), .raw (.int .i64 a2)]) (cs := []) (by
    obtain ⟨h1, h2⟩ := RuleBehind_true a0i0 a0i1 a1 a2
    simp only [law11RuleBehindCon, h1, h2, chk, Tree.holds, retv]) (by simp [idsL, SV.ids]) (by simp) (heapOk_nil R W)
  simpa [denL, SV.den] using this

theorem RuleBehind_lifted (os : Os) (started : os.Started) (H : Type) (enc : TypeId × Value → H) :
    ReturnsInHanded {} Try.checked os 6 .any (Rows.ruleBehindSpec.pre6 enc Try.prog Try.f6 Rows.ruleBehindRow.domain false) (Rows.ruleBehindSpec.post enc Try.prog Try.f6 false true false false) := by
  refine returnsInHanded_of_change (C := Try.checked) own started (by kernel_rfl) Try.func6
    (ChangeSpec.witness6 (enc := enc) (C := Try.checked) false ⟨#[], #[.agg #[.int .i64 0, .int .i64 0], .int .i64 0, .int .i64 0], []⟩ 8 (by kernel_rfl) (by kernel_rfl) (by kernel_rfl) (by kernel_rfl)) ?_
  intro W base args ds gs before hval0 hW _ _
  have hval : ∀ (j : Nat) t v, Try.f6.params[j]? = some t → args[j]? = some v → Value.okWide Try.prog W .any base t v := hval0
  have hW' := hW
  obtain ⟨p, q, hA0, hV, rfl, hfz, hnd⟩ := hW
  have hA : DataW.TrodAll enc Try.prog W 0 (fun _ => true) true Try.f6.params.toList args.toList ds p := hA0
  rw [params6] at hA hval
  have hlen := (trodAll_length hA).1
  obtain ⟨v0, v1, v2, rfl⟩ := arr3 hlen
  obtain ⟨a0i0, a0i1, rfl⟩ := arg22 (hval 0 22 v0 rfl rfl)
  obtain ⟨a1, rfl, _⟩ := val_int under2 (hval 1 2 v1 rfl rfl)
  obtain ⟨a2, rfl, _⟩ := val_int under2 (hval 2 2 v2 rfl rfl)
  refine (RuleBehind_calls a0i0 a0i1 a1 a2 W).mono fun e W' ⟨he, hb⟩ => ?_
  subst he
  exact ⟨_, rfl, post_law laidOut (readable_of (by kernel_rfl)) (tb := 4) (by kernel_rfl) under4 rfl (fun l hl => by
      match l, hl with
      | [_, _, _], _ => rfl) hW' hb⟩

theorem RuleBehind_holds : Rows.RuleBehindSaid :=
  OpenClaim.holds_of_wide 6 Try.f6 rfl rfl rfl rfl rfl rfl rfl ⟨rfl, rfl, rfl, rfl, rfl⟩ rfl rfl rfl rfl rfl (by kernel_rfl) Try.func6 (by kernel_rfl)
    (of_decide_eq_true (by kernel_rfl)) (by unfold Func.isWrapper; first | (rw [if_pos (by decide +kernel)]; kernel_rfl) | (rw [if_neg (by decide +kernel)]; exact ⟨rfl, rfl⟩))
    (fun os started H enc _ => RuleBehind_lifted os started H enc)
end Go.Proofs.Ytmdoilnmllajjaa
