/-
  The law RuleNext answers true at every input and leaves its arguments as they were (Rows.RuleNextSaid). No condition.
-/
import Derived.Test.YtmdoilnmllajjaaRuleLift
namespace Go.Proofs.Ytmdoilnmllajjaa
open Go.Sx Go.Proofs Go.RowKit
theorem params3 : Try.f3.params = #[22, 2] := by kernel_rfl
theorem RuleNext_calls (a b n : Int) (W : World) : Calls Try.prog 3 #[.agg #[.int .i64 a, .int .i64 b], .int .i64 n] W fun en W' => en = .returned (.bool true) ∧ Below W.heap.size W W' := by
  have := law_calls R law11RuleNextOk Try.call3 (args := [.agg [.raw (.int .i64 a), .raw (.int .i64 b)], .raw (.int .i64 n)]) (cs := []) (by
    obtain ⟨h1, h2⟩ := RuleNext_true a b n
    simp only [law11RuleNextCon, h1, h2, chk, Tree.holds, retv]) (by simp [idsL, SV.ids]) (by simp) (heapOk_nil R W)
  simpa [denL, SV.den] using this

theorem RuleNext_lifted (os : Os) (started : os.Started) (H : Type) (enc : TypeId × Value → H) :
    ReturnsInHanded {} Try.checked os 3 .any (Rows.ruleNextSpec.pre6 enc Try.prog Try.f3 Rows.ruleNextRow.domain false) (Rows.ruleNextSpec.post enc Try.prog Try.f3 false true false false) := by
  refine returnsInHanded_of_change (C := Try.checked) own started (by kernel_rfl) Try.func3
    (ChangeSpec.witness6 (enc := enc) (C := Try.checked) false ⟨#[], #[.agg #[.int .i64 0, .int .i64 0], .int .i64 0], []⟩ 8 (by kernel_rfl) (by kernel_rfl) (by kernel_rfl) (by kernel_rfl)) ?_
  intro W base args ds gs before hval0 hW hcnd _
  have hval : ∀ (j : Nat) t v, Try.f3.params[j]? = some t → args[j]? = some v → Value.okWide Try.prog W .any base t v := hval0
  have hW' := hW
  obtain ⟨p, q, hA0, hV, rfl, hfz, hnd⟩ := hW
  have hA : DataW.TrodAll enc Try.prog W 0 (fun _ => true) true Try.f3.params.toList args.toList ds p := hA0
  rw [params3] at hA hval
  have hlen := (trodAll_length hA).1
  obtain ⟨v0, v1, rfl⟩ := arr2 hlen
  obtain ⟨a, b, rfl⟩ := arg22 (hval 0 22 v0 rfl rfl)
  obtain ⟨n, rfl, _⟩ := val_int under2 (hval 1 2 v1 rfl rfl)
  refine (RuleNext_calls a b n W).mono fun e W' ⟨he, hb⟩ => ?_
  subst he
  exact ⟨_, rfl, post_law laidOut (readable_of (by kernel_rfl)) (tb := 4) (by kernel_rfl) under4 rfl (fun l hl => by
      match l, hl with
      | [_, _], _ => rfl) hW' hb⟩

theorem RuleNext_holds : Rows.RuleNextSaid :=
  OpenClaim.holds_of_wide 3 Try.f3 rfl rfl rfl rfl rfl rfl rfl ⟨rfl, rfl, rfl, rfl, rfl⟩ rfl rfl rfl rfl rfl (by kernel_rfl) Try.func3 (by kernel_rfl)
    (of_decide_eq_true (by kernel_rfl)) (by unfold Func.isWrapper; first | (rw [if_pos (by decide +kernel)]; kernel_rfl) | (rw [if_neg (by decide +kernel)]; exact ⟨rfl, rfl⟩))
    (fun os started H enc _ => RuleNext_lifted os started H enc)
end Go.Proofs.Ytmdoilnmllajjaa
