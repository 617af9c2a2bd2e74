/-
  Part of a proof over the seat Ytdnndahaeammcaa: printed by a small program or typed by hand.
-/
import Derived.Test.YtdnndahaeammcaaHeapS12
import Derived.KernelRfl
namespace Go.Proofs.Ytdnndahaeammcaa
open Go.Sx Go.Proofs Classical
/-! ### regatta/regattalaw07.HeapNil -/
def law07HeapNilText (id : Int) : Prop := (((true = (IntKind.i64.wrap (IntKind.i64.wrap (IntKind.i64.wrap (IntKind.i64.wrap ((0 : Int) + (0 : Int)) + (0 : Int)) + (↑(0 : Nat) : Int)) + (↑(0 : Nat) : Int)) == (0 : Int))) ∧ True) ∧ True)
theorem law07HeapNilVc (id : Int) : fnX X12 (noAnn) Try.f7 [.raw (.int .i64 id)] [] (ends [] ⟨some (.raw (.bool true)), []⟩) = law07HeapNilText id := by kernel_rfl
theorem law07HeapNilHolds (id : Int) : law07HeapNilText id := by
  unfold law07HeapNilText
  exact ⟨⟨by kernel_rfl, trivial⟩, trivial⟩
noncomputable def law07HeapNilCon : Con T O := fun args cs => match args, cs with
  | [.raw (.int .i64 _)], [] => .ret ⟨some (.raw (.bool true)), []⟩
  | _, _ => .fail
theorem law07HeapNilOk : ConOk R Try.prog 7 law07HeapNilCon := con_of_fn R (X12) (TabOk.con R X12Ok) mixed Try.call7 Try.func7 law07HeapNilCon (by
  intro args cs K h
  unfold law07HeapNilCon at h
  split at h
  · rename_i id
    refine ⟨noAnn, _, fun v S hv => ⟨_, h, hv⟩, ?_⟩
    rw [law07HeapNilVc id]
    exact law07HeapNilHolds id
  · exact h.elim)
noncomputable def tab13 : Tab T O := (7, law07HeapNilCon) :: tab12
theorem tabOk13 : TabOk R Try.prog tab13 := TabOk.cons R law07HeapNilOk <| tabOk12
noncomputable def X13 : Ctx T O := { X0 with con := conOf tab13 }
theorem X13Ok : TabOk R X13.P tab13 := tabOk13
end Go.Proofs.Ytdnndahaeammcaa
