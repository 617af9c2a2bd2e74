/-
  Part of a proof over the seat Ythfggjfpokknlaa: printed by a small program or typed by hand.
-/
import Derived.Test.YthfggjfpokknlaaStaS9
import Derived.KernelRfl
namespace Go.Proofs.Ythfggjfpokknlaa
open Go.Sx Go.Proofs Classical
/-! ### slices.stableCmpFunc[string] -/
def stableSText (L : List Int) (M : CM) (n : Int) : Prop := (match (decide ((20 : Int) ≤ n)) with | true => (match (decide ((0 : Int) ≤ (20 : Int) ∧ (20 : Int) ≤ (↑L.length : Int) ∧ L.length ≤ (1000 : Nat))) with | true => (match (decide (IntKind.i64.wrap ((20 : Int) + (20 : Int)) ≤ n)) with | true => False | false => (match (decide (n = (20 : Int))) with | true => (match (decide ((20 : Int) < n)) with | true => False | false => ((True ∧ True) ∧ ((isortN codeS (ltS M) L L.length = isortN codeS (ltS M) L (Int.toNat (20 : Int))) ∧ ((True ∧ True) ∧ ((True ∧ True) ∧ ((M = M) ∧ True)))))) | false => False)) | false => False) | false => (match (decide ((0 : Int) ≤ n ∧ n ≤ (↑L.length : Int) ∧ L.length ≤ (1000 : Nat))) with | true => (match (decide ((20 : Int) < n)) with | true => False | false => ((True ∧ True) ∧ ((isortN codeS (ltS M) L L.length = isortN codeS (ltS M) L n.toNat) ∧ ((True ∧ True) ∧ ((True ∧ True) ∧ ((M = M) ∧ True)))))) | false => False))
theorem stableSVc (L : List Int) (M : CM) (n : Int) : fnX X9 (annOf [] [(2, 2), (7, 1)]) Try.f56 [.own 0, .raw (.int .i64 n), .fn 47 [.ptr 1 0]] [.vec 2 L 9, .cells [.ptr 2 0] 42, .cells [.own 3] 70, .map 3 M] (ends [.vec 2 L 9, .cells [.ptr 2 0] 42, .cells [.own 3] 70, .map 3 M] ⟨some (.tup []), [(0, some (.vec 2 (isortN codeS (ltS M) L L.length) 9)), (3, some (.map 3 M))]⟩) = stableSText L M n := by kernel_rfl
theorem stableSHolds (L : List Int) (M : CM) (n : Int) (hp : n = L.length ∧ L.length ≤ 20) : stableSText L M n := by
  unfold stableSText
  obtain ⟨rfl, hp⟩ := hp
  by_cases h : 20 ≤ L.length
  · have e : L.length = 20 := by omega
    rw [show decide ((20 : Int) ≤ (L.length : Int)) = true from decide_eq_true (by omega), decide_eq_true (⟨by omega, by omega, by omega⟩ : (0 : Int) ≤ 20 ∧ (20 : Int) ≤ (L.length : Int) ∧ L.length ≤ 1000), show decide (IntKind.i64.wrap (20 + 20) ≤ (L.length : Int)) = false from decide_eq_false (by rw [wrap_id (by omega) (by omega)]; omega), show decide ((L.length : Int) = 20) = true from decide_eq_true (by omega), show decide ((20 : Int) < (L.length : Int)) = false from decide_eq_false (by omega)]
    have e2 : isortN codeS (ltS M) L L.length = isortN codeS (ltS M) L (Int.toNat 20) := congrArg (isortN codeS (ltS M) L) (show L.length = Int.toNat 20 from e)
    exact ⟨⟨trivial, trivial⟩, e2, ⟨trivial, trivial⟩, ⟨trivial, trivial⟩, rfl, trivial⟩
  · rw [show decide ((20 : Int) ≤ (L.length : Int)) = false from decide_eq_false (by omega), decide_eq_true (⟨by omega, by omega, by omega⟩ : 0 ≤ (L.length : Int) ∧ (L.length : Int) ≤ (L.length : Int) ∧ L.length ≤ 1000), show decide ((20 : Int) < (L.length : Int)) = false from decide_eq_false (by omega), Int.toNat_natCast]
    repeat' first | trivial | rfl | apply And.intro
noncomputable def stableSCon : Con T O := fun args cs => match args, cs with
  | [.own 0, .raw (.int .i64 n), .fn 47 [.ptr 1 0]], [.vec 2 L 9, .cells [.ptr 2 0] 42, .cells [.own 3] 70, .map 3 M] => chk (decide (n = L.length ∧ L.length ≤ 20)) (.ret ⟨some (.tup []), [(0, some (.vec 2 (isortN codeS (ltS M) L L.length) 9)), (3, some (.map 3 M))]⟩)
  | _, _ => .fail
theorem stableSOk : ConOk R Try.prog 56 stableSCon := con_of_fn R (X9) (TabOk.con R X9Ok) mixed Try.call56 Try.func56 stableSCon (by
  intro args cs K h
  unfold stableSCon at h
  split at h
  · rename_i n L M
    rw [Tree.holds_chk] at h
    obtain ⟨hp, h⟩ := h
    refine ⟨annOf [] [(2, 2), (7, 1)], _, fun v S hv => ⟨_, h, hv⟩, ?_⟩
    rw [stableSVc L M n]
    exact stableSHolds L M n (of_decide_eq_true hp)
  · exact h.elim)
noncomputable def tab10 : Tab T O := (56, stableSCon) :: tab9
theorem tabOk10 : TabOk R Try.prog tab10 := TabOk.cons R stableSOk <| tabOk9
noncomputable def X10 : Ctx T O := { X0 with con := conOf tab10 }
theorem X10Ok : TabOk R X10.P tab10 := tabOk10
end Go.Proofs.Ythfggjfpokknlaa
