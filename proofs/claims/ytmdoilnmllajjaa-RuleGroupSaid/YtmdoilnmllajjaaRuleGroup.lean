/-
  The law RuleGroup answers true at every input and leaves its arguments as they were (Rows.RuleGroupSaid). No condition.
-/
import Derived.Test.YtmdoilnmllajjaaRuleLift
namespace Go.Proofs.Ytmdoilnmllajjaa
open Go.Sx Go.Proofs Go.RowKit

theorem RuleGroup_true (a b n k : Int) : law11RuleGroupPre a b n k = true ∧ law11RuleGroup a b n k = true := by
  have hP : IntKind.i64.wrap (2 + bits BinOp.and IntKind.i64 b 1023) = 2 + b % 1024 := by rw [mask10]; exact wrap_id (by omega) (by omega)
  have hI : IntKind.i64.wrap (1 + bits BinOp.and IntKind.i64 n 1073741823) = 1 + n % 1073741824 := by rw [mask30]; exact wrap_id (by omega) (by omega)
  have k1 := Int.tmod_lt_of_pos k (b := 40) (by omega)
  have k2 := Int.lt_tmod_of_pos k (b := 40) (by omega)
  have hK : (IntKind.i64.wrap (k.tmod 40 + 40)).tmod 40 = (k.tmod 40 + 40) % 40 := by rw [wrap_id (by omega) (by omega), tmod_pos (by omega)]
  unfold law11RuleGroupPre law11RuleGroup
  simp only [hP, hI, hK]
  have hp0 : 2 ≤ 2 + b % 1024 ∧ 2 + b % 1024 ≤ 1025 := by omega
  have hi0 : 1 ≤ 1 + n % 1073741824 ∧ 1 + n % 1073741824 ≤ 1073741824 := by omega
  have hk0 : 0 ≤ (k.tmod 40 + 40) % 40 ∧ (k.tmod 40 + 40) % 40 < 40 := by omega
  generalize 2 + b % 1024 = p at *
  generalize 1 + n % 1073741824 = i at *
  generalize (k.tmod 40 + 40) % 40 = j at *
  have h1 : IntKind.i64.wrap (p + 1) = p + 1 := wrap_id (by omega) (by omega)
  have h2 : (p + 1).tdiv 2 = (p + 1) / 2 := tdiv_pos (by omega)
  have h3 : IntKind.i64.wrap ((p + 1) / 2) = (p + 1) / 2 := wrap_id (by omega) (by omega)
  simp only [h1, h2, h3]
  have hh : p ≤ 2 * ((p + 1) / 2) ∧ 2 * ((p + 1) / 2) ≤ p + 1 := by omega
  generalize (p + 1) / 2 = half at *
  have h4 : IntKind.i64.wrap (p - half) = p - half := wrap_id (by omega) (by omega)
  have t1 := Int.tmod_lt_of_pos a (b := p - half) (by omega)
  have t2 := Int.lt_tmod_of_pos a (b := p - half) (by omega)
  have h5 : IntKind.i64.wrap (a.tmod (p - half) + p) = a.tmod (p - half) + p := wrap_id (by omega) (by omega)
  have h6 : IntKind.i64.wrap (a.tmod (p - half) + p - half) = a.tmod (p - half) + p - half := wrap_id (by omega) (by omega)
  have h7 : (a.tmod (p - half) + p - half).tmod (p - half) = (a.tmod (p - half) + p - half) % (p - half) := tmod_pos (by omega)
  have t3 := Int.emod_nonneg (a.tmod (p - half) + p - half) (b := p - half) (by omega)
  have t4 := Int.emod_lt_of_pos (a.tmod (p - half) + p - half) (b := p - half) (by omega)
  have h8 : IntKind.i64.wrap (half + (a.tmod (p - half) + p - half) % (p - half)) = half + (a.tmod (p - half) + p - half) % (p - half) := wrap_id (by omega) (by omega)
  have h9 : IntKind.i64.wrap (i + j) = i + j := wrap_id (by omega) (by omega)
  have hd : (p - half != 0) = true := by simp; omega
  simp only [h4, h5, h6, h7, h8, h9, hd]
  have he : 1 ≤ half + (a.tmod (p - half) + p - half) % (p - half) ∧ half + (a.tmod (p - half) + p - half) % (p - half) < p ∧ p ≤ 2 * (half + (a.tmod (p - half) + p - half) % (p - half)) := by omega
  generalize half + (a.tmod (p - half) + p - half) % (p - half) = e at *
  have h : Wt e p := ⟨by omega, by omega, by omega⟩
  have hi : Num i := ⟨by omega, by omega⟩
  have hj : Num (i + j) := ⟨by omega, by omega⟩
  obtain ⟨o, o0, o1, o2, o3, o4, o5⟩ := of_of h hi
  obtain ⟨u, u0, u1, u2, u3, u4, u5⟩ := of_of h hj
  obtain ⟨t, t0, t1, t2, t3, t4, t5, t6⟩ := ends_of h hi
  have ht := t6 (by omega)
  have hg : ref04Deadline e p (i + j) ≤ ref04Group e p (i + j) := by
    rcases group_of h hj with ⟨_, x, _⟩ | ⟨x, _⟩
    · exact x
    · omega
  simp only [o, o0, o1, o2, o3, o4, u, u2, u4, ruleTime, t0, Bool.not_true]
  rw [if_pos (by omega), ht]
  simp only [beq_self_eq_true]
  by_cases hx : ref04Group e p (i + j) = ref04Group e p i
  · rw [hx] at hg ⊢
    simp [hg]
  · have : (ref04Group e p (i + j) != ref04Group e p i) = true := by simpa using hx
    rw [this]
    exact ⟨rfl, rfl⟩

theorem params4 : Try.f4.params = #[22, 2, 3] := by kernel_rfl
theorem RuleGroup_calls (a b n k : Int) (W : World) : Calls Try.prog 4 #[.agg #[.int .i64 a, .int .i64 b], .int .i64 n, .int .i64 k] W fun en W' => en = .returned (.bool true) ∧ Below W.heap.size W W' := by
  have := law_calls R law11RuleGroupOk Try.call4 (args := [.agg [.raw (.int .i64 a), .raw (.int .i64 b)], .raw (.int .i64 n), .raw (.int .i64 k)]) (cs := []) (by
    obtain ⟨h1, h2⟩ := RuleGroup_true a b n k
    simp only [law11RuleGroupCon, h1, h2, chk, Tree.holds, retv]) (by simp [idsL, SV.ids]) (by simp) (heapOk_nil R W)
  simpa [denL, SV.den] using this

theorem RuleGroup_lifted (os : Os) (started : os.Started) (H : Type) (enc : TypeId × Value → H) :
    ReturnsInHanded {} Try.checked os 4 .any (Rows.ruleGroupSpec.pre6 enc Try.prog Try.f4 Rows.ruleGroupRow.domain false) (Rows.ruleGroupSpec.post enc Try.prog Try.f4 false true false false) := by
  refine returnsInHanded_of_change (C := Try.checked) own started (by kernel_rfl) Try.func4
    (ChangeSpec.witness6 (enc := enc) (C := Try.checked) false ⟨#[], #[.agg #[.int .i64 0, .int .i64 0], .int .i64 0, .int .i64 0], []⟩ 8 (by kernel_rfl) (by kernel_rfl) (by kernel_rfl) (by kernel_rfl)) ?_
  intro W base args ds gs before hval0 hW _ _
  have hval : ∀ (j : Nat) t v, Try.f4.params[j]? = some t → args[j]? = some v → Value.okWide Try.prog W .any base t v := hval0
  have hW' := hW
  obtain ⟨p, q, hA0, hV, rfl, hfz, hnd⟩ := hW
  have hA : DataW.TrodAll enc Try.prog W 0 (fun _ => true) true Try.f4.params.toList args.toList ds p := hA0
  rw [params4] at hA hval
  have hlen := (trodAll_length hA).1
  obtain ⟨v0, v1, v2, rfl⟩ := arr3 hlen
  obtain ⟨a, b, rfl⟩ := arg22 (hval 0 22 v0 rfl rfl)
  obtain ⟨n, rfl, _⟩ := val_int under2 (hval 1 2 v1 rfl rfl)
  obtain ⟨k, rfl, _⟩ := val_int under3 (hval 2 3 v2 rfl rfl)
  refine (RuleGroup_calls a b n k W).mono fun e W' ⟨he, hb⟩ => ?_
  subst he
  exact ⟨_, rfl, post_law laidOut (readable_of (by kernel_rfl)) (tb := 4) (by kernel_rfl) under4 rfl (fun l hl => by
      match l, hl with
      | [_, _, _], _ => rfl) hW' hb⟩

theorem RuleGroup_holds : Rows.RuleGroupSaid :=
  OpenClaim.holds_of_wide 4 Try.f4 rfl rfl rfl rfl rfl rfl rfl ⟨rfl, rfl, rfl, rfl, rfl⟩ rfl rfl rfl rfl rfl (by kernel_rfl) Try.func4 (by kernel_rfl)
    (of_decide_eq_true (by kernel_rfl)) (by unfold Func.isWrapper; first | (rw [if_pos (by decide +kernel)]; kernel_rfl) | (rw [if_neg (by decide +kernel)]; exact ⟨rfl, rfl⟩))
    (fun os started H enc _ => RuleGroup_lifted os started H enc)
end Go.Proofs.Ytmdoilnmllajjaa
