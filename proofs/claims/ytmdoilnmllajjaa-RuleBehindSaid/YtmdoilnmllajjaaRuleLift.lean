/-
  Part of a proof over the seat Ytmdoilnmllajjaa: printed by a small program or typed by hand.
-/
import Derived.Test.YtmdoilnmllajjaaRuleMath
import Derived.Test.YtmdoilnmllajjaaSxLift
import Derived.Test.YtmdoilnmllajjaaRows
namespace Go.Proofs.Ytmdoilnmllajjaa
open Go.Sx Go.Proofs Go.RowKit
theorem own : ownKnob Try.prog.godebug = none := by kernel_rfl
theorem laidOut : laidOutB Try.prog = true := by kernel_rfl
theorem readable : ([22, 2, 3].all fun t => Try.prog.readableRec t && decide (t < Try.prog.types.size)) = true := by kernel_rfl
theorem readable_of {ts : List TypeId} (h : ts.all (fun t => Try.prog.readableRec t && decide (t < Try.prog.types.size)) = true) : ∀ t ∈ ts, Try.prog.readableRec t = true ∧ t < Try.prog.types.size := by
  intro t ht
  have := List.all_eq_true.1 h t ht
  simpa using this
theorem under2 : Try.prog.underlying 2 = some (.int .i64) := by kernel_rfl
theorem under3 : Try.prog.underlying 3 = some (.int .i64) := by kernel_rfl
theorem under4 : Try.prog.underlying 4 = some .bool := by kernel_rfl

theorem arg22 {w : World} {r : Reach} {base : Nat} {v : Value} (h : Value.okWide Try.prog w r base 22 v) : ∃ a b, v = .agg #[.int .i64 a, .int .i64 b] := by
  obtain ⟨cs, rfl, hc⟩ := val_agg (ts := [3, 3]) (by kernel_rfl) (by kernel_rfl) (by kernel_rfl) h
  match cs, hc with
  | [x, y], ⟨hx, hy, _⟩ =>
    obtain ⟨a, rfl, _⟩ := cell_int under3 hx
    obtain ⟨b, rfl, _⟩ := cell_int under3 hy
    exact ⟨a, b, rfl⟩

end Go.Proofs.Ytmdoilnmllajjaa
