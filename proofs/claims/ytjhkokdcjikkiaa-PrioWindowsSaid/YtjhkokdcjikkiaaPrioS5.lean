/-
  Part of a proof over the seat Ytjhkokdcjikkiaa: printed by a small program or typed by hand.
-/
import Derived.Test.YtjhkokdcjikkiaaPrioS4
import Derived.KernelRfl
namespace Go.Proofs.Ytjhkokdcjikkiaa
open Go.Sx Go.Proofs Classical
/-! ### slices.stableCmpFunc[regatta/api.Entry] -/
def stableText (L : List Ent) (n : Int) : Prop := (match (decide ((20 : Int) ≤ n)) with | true => (match (decide ((0 : Int) ≤ (20 : Int) ∧ (20 : Int) ≤ (↑L.length : Int) ∧ L.length ≤ (1000 : Nat))) with | true => (match (decide (IntKind.i64.wrap ((20 : Int) + (20 : Int)) ≤ n)) with | true => False | false => (match (decide (n = (20 : Int))) with | true => (match (decide ((20 : Int) < n)) with | true => False | false => ((True ∧ True) ∧ ((isortN L L.length = isortN L (Int.toNat (20 : Int))) ∧ True))) | false => False)) | false => False) | false => (match (decide ((0 : Int) ≤ n ∧ n ≤ (↑L.length : Int) ∧ L.length ≤ (1000 : Nat))) with | true => (match (decide ((20 : Int) < n)) with | true => False | false => ((True ∧ True) ∧ ((isortN L L.length = isortN L n.toNat) ∧ True))) | false => False))
theorem stableVc (L : List Ent) (n : Int) : fnX X4 (annOf [] [(2, 2), (7, 1)]) Try.f45 [.own 0, .raw (.int .i64 n), .fn 22 []] [.vec 2 L 25] (ends [.vec 2 L 25] ⟨some (.tup []), [(0, some (.vec 2 (isortN L L.length) 25))]⟩) = stableText L n := by kernel_rfl
theorem stableHolds (L : List Ent) (n : Int) (hp : n = L.length ∧ L.length ≤ 20) : stableText L n := by
  unfold stableText
  obtain ⟨rfl, hp⟩ := hp
  by_cases h : 20 ≤ L.length
  · have e : L.length = 20 := by omega
    rw [show decide ((20 : Int) ≤ (L.length : Int)) = true from decide_eq_true (by omega), decide_eq_true (⟨by omega, by omega, by omega⟩ : (0 : Int) ≤ 20 ∧ (20 : Int) ≤ (L.length : Int) ∧ L.length ≤ 1000), show decide (IntKind.i64.wrap (20 + 20) ≤ (L.length : Int)) = false from decide_eq_false (by rw [wrap_id (by omega) (by omega)]; omega), show decide ((L.length : Int) = 20) = true from decide_eq_true (by omega), show decide ((20 : Int) < (L.length : Int)) = false from decide_eq_false (by omega)]
    have e2 : isortN L L.length = isortN L (Int.toNat 20) := congrArg (isortN L) (show L.length = Int.toNat 20 from e)
    exact ⟨⟨trivial, trivial⟩, e2, trivial⟩
  · rw [show decide ((20 : Int) ≤ (L.length : Int)) = false from decide_eq_false (by omega), decide_eq_true (⟨by omega, by omega, by omega⟩ : 0 ≤ (L.length : Int) ∧ (L.length : Int) ≤ (L.length : Int) ∧ L.length ≤ 1000), show decide ((20 : Int) < (L.length : Int)) = false from decide_eq_false (by omega), Int.toNat_natCast]
    repeat' first | trivial | rfl | apply And.intro
noncomputable def stableCon : Con T O := fun args cs => match args, cs with
  | [.own 0, .raw (.int .i64 n), .fn 22 []], [.vec 2 L 25] => chk (decide (n = L.length ∧ L.length ≤ 20)) (.ret ⟨some (.tup []), [(0, some (.vec 2 (isortN L L.length) 25))]⟩)
  | _, _ => .fail
theorem stableOk : ConOk R Try.prog 45 stableCon := con_of_fn R (X4) (TabOk.con R X4Ok) mixed Try.call45 Try.func45 stableCon (by
  intro args cs K h
  unfold stableCon at h
  split at h
  · rename_i n L
    rw [Tree.holds_chk] at h
    obtain ⟨hp, h⟩ := h
    refine ⟨annOf [] [(2, 2), (7, 1)], _, fun v S hv => ⟨_, h, hv⟩, ?_⟩
    rw [stableVc L n]
    exact stableHolds L n (of_decide_eq_true hp)
  · exact h.elim)
noncomputable def tab5 : Tab T O := (45, stableCon) :: tab4
theorem tabOk5 : TabOk R Try.prog tab5 := TabOk.cons R stableOk <| tabOk4
noncomputable def X5 : Ctx T O := { X0 with con := conOf tab5 }
theorem X5Ok : TabOk R X5.P tab5 := tabOk5
end Go.Proofs.Ytjhkokdcjikkiaa
