/-
  Part of a proof over the seat Ytdnndahaeammcaa: printed by a small program or typed by hand.
-/
import Derived.Test.YtdnndahaeammcaaHeapS11
import Derived.KernelRfl
namespace Go.Proofs.Ytdnndahaeammcaa
open Go.Sx Go.Proofs Classical
/-! ### (*regatta/heap.Heap[int]).Min -/
def minNText  : Prop := (((((0 : Int) = (0 : Int)) ∧ (((0 : Int) = (0 : Int)) ∧ ((false = false) ∧ True))) ∧ True) ∧ (((Value.nilFunc = Value.nilFunc) ∧ ((Value.slice none (0 : Nat) (0 : Nat) = Value.slice none (0 : Nat) (0 : Nat)) ∧ ((Value.map none = Value.map none) ∧ True))) ∧ True))
theorem minNVc  : fnX X11 (noAnn) Try.f15 [.ptr 0 0] [.cells [.raw .nilFunc, .raw (.slice none 0 0), .raw (.map none)] 54] (ends [.cells [.raw .nilFunc, .raw (.slice none 0 0), .raw (.map none)] 54] ⟨some (.tup [.raw (.int .i64 0), .raw (.int .i64 0), .raw (.bool false)]), []⟩) = minNText  := by kernel_rfl
theorem minNHolds  : minNText  := by
  unfold minNText
  simp
noncomputable def minNCon : Con T O := fun args cs => match args, cs with
  | [.ptr 0 0], [.cells [.raw .nilFunc, .raw (.slice none 0 0), .raw (.map none)] 54] => .ret ⟨some (.tup [.raw (.int .i64 0), .raw (.int .i64 0), .raw (.bool false)]), []⟩
  | _, _ => .fail
theorem minNOk : ConOk R Try.prog 15 minNCon := con_of_fn R (X11) (TabOk.con R X11Ok) mixed Try.call15 Try.func15 minNCon (by
  intro args cs K h
  unfold minNCon at h
  split at h
  ·
    refine ⟨noAnn, _, fun v S hv => ⟨_, h, hv⟩, ?_⟩
    rw [minNVc ]
    exact minNHolds 
  · exact h.elim)
/-! ### (*regatta/heap.Heap[int]).Pop -/
def popNK0Text  : Prop := (((((0 : Int) = (0 : Int)) ∧ (((0 : Int) = (0 : Int)) ∧ ((false = false) ∧ True))) ∧ True) ∧ True)
theorem popNK0Vc  : fnX X11 (noAnn) Try.f12 [.raw (.pointer none)] [] (ends [] ⟨some (.tup [.raw (.int .i64 0), .raw (.int .i64 0), .raw (.bool false)]), []⟩) = popNK0Text  := by kernel_rfl
theorem popNK0Holds  : popNK0Text  := by
  unfold popNK0Text
  simp
def popNK1Text (L : List Thing) (M : List (Int × Int)) : Prop := (((((0 : Int) = (0 : Int)) ∧ (((0 : Int) = (0 : Int)) ∧ ((false = false) ∧ True))) ∧ True) ∧ (((Value.nilFunc = Value.nilFunc) ∧ (True ∧ (True ∧ True))) ∧ ((L = L) ∧ ((M = M) ∧ True))))
theorem popNK1Vc (L : List Thing) (M : List (Int × Int)) : fnX X11 (noAnn) Try.f12 [.ptr 0 0] [.cells [.raw .nilFunc, .own 1, .own 2] 54, .vec 2 L 57, .map 0 M] (ends [.cells [.raw .nilFunc, .own 1, .own 2] 54, .vec 2 L 57, .map 0 M] ⟨some (.tup [.raw (.int .i64 0), .raw (.int .i64 0), .raw (.bool false)]), [(1, some (.vec 2 (L) 57)), (2, some (.map 0 (M)))]⟩) = popNK1Text L M := by kernel_rfl
theorem popNK1Holds (L : List Thing) (M : List (Int × Int)) : popNK1Text L M := by
  unfold popNK1Text
  simp
noncomputable def popNCon : Con T O := fun args cs => match args, cs with
  | [.raw (.pointer none)], [] => .ret ⟨some (.tup [.raw (.int .i64 0), .raw (.int .i64 0), .raw (.bool false)]), []⟩
  | [.ptr 0 0], [.cells [.raw .nilFunc, .own 1, .own 2] 54, .vec 2 L 57, .map 0 M] => .ret ⟨some (.tup [.raw (.int .i64 0), .raw (.int .i64 0), .raw (.bool false)]), [(1, some (.vec 2 (L) 57)), (2, some (.map 0 (M)))]⟩
  | _, _ => .fail
theorem popNOk : ConOk R Try.prog 12 popNCon := con_of_fn R (X11) (TabOk.con R X11Ok) mixed Try.call12 Try.func12 popNCon (by
  intro args cs K h
  unfold popNCon at h
  split at h
  ·
    refine ⟨noAnn, _, fun v S hv => ⟨_, h, hv⟩, ?_⟩
    rw [popNK0Vc ]
    exact popNK0Holds 
  · rename_i L M
    refine ⟨noAnn, _, fun v S hv => ⟨_, h, hv⟩, ?_⟩
    rw [popNK1Vc L M]
    exact popNK1Holds L M
  · exact h.elim)
noncomputable def tab12 : Tab T O := (15, minNCon) :: (12, popNCon) :: tab11
theorem tabOk12 : TabOk R Try.prog tab12 := TabOk.cons R minNOk <| TabOk.cons R popNOk <| tabOk11
noncomputable def X12 : Ctx T O := { X0 with con := conOf tab12 }
theorem X12Ok : TabOk R X12.P tab12 := tabOk12
end Go.Proofs.Ytdnndahaeammcaa
