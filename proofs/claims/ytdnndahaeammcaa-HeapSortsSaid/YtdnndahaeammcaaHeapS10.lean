/-
  Part of a proof over the seat Ytdnndahaeammcaa: printed by a small program or typed by hand.
-/
import Derived.Test.YtdnndahaeammcaaHeapS9
import Derived.KernelRfl
namespace Go.Proofs.Ytdnndahaeammcaa
open Go.Sx Go.Proofs Classical
/-! ### (*regatta/heap.Heap[int]).none -/
def noneNK0Text  : Prop := (((true = true) ∧ True) ∧ True)
theorem noneNK0Vc  : fnX X9 (noAnn) Try.f25 [.raw (.pointer none)] [] (ends [] ⟨some (.raw (.bool true)), []⟩) = noneNK0Text  := by kernel_rfl
theorem noneNK0Holds  : noneNK0Text  := by
  unfold noneNK0Text
  simp
def noneNK1Text (L : List Thing) (M : List (Int × Int)) : Prop := (((true = true) ∧ True) ∧ (((Value.nilFunc = Value.nilFunc) ∧ (True ∧ (True ∧ True))) ∧ ((L = L) ∧ ((M = M) ∧ True))))
theorem noneNK1Vc (L : List Thing) (M : List (Int × Int)) : fnX X9 (noAnn) Try.f25 [.ptr 0 0] [.cells [.raw .nilFunc, .own 1, .own 2] 54, .vec 2 L 57, .map 0 M] (ends [.cells [.raw .nilFunc, .own 1, .own 2] 54, .vec 2 L 57, .map 0 M] ⟨some (.raw (.bool true)), [(1, some (.vec 2 (L) 57)), (2, some (.map 0 (M)))]⟩) = noneNK1Text L M := by kernel_rfl
theorem noneNK1Holds (L : List Thing) (M : List (Int × Int)) : noneNK1Text L M := by
  unfold noneNK1Text
  simp
def noneNK2Text  : Prop := (((true = true) ∧ True) ∧ (((Value.nilFunc = Value.nilFunc) ∧ ((Value.slice none (0 : Nat) (0 : Nat) = Value.slice none (0 : Nat) (0 : Nat)) ∧ ((Value.map none = Value.map none) ∧ True))) ∧ True))
theorem noneNK2Vc  : fnX X9 (noAnn) Try.f25 [.ptr 0 0] [.cells [.raw .nilFunc, .raw (.slice none 0 0), .raw (.map none)] 54] (ends [.cells [.raw .nilFunc, .raw (.slice none 0 0), .raw (.map none)] 54] ⟨some (.raw (.bool true)), []⟩) = noneNK2Text  := by kernel_rfl
theorem noneNK2Holds  : noneNK2Text  := by
  unfold noneNK2Text
  simp
noncomputable def noneNCon : Con T O := fun args cs => match args, cs with
  | [.raw (.pointer none)], [] => .ret ⟨some (.raw (.bool true)), []⟩
  | [.ptr 0 0], [.cells [.raw .nilFunc, .own 1, .own 2] 54, .vec 2 L 57, .map 0 M] => .ret ⟨some (.raw (.bool true)), [(1, some (.vec 2 (L) 57)), (2, some (.map 0 (M)))]⟩
  | [.ptr 0 0], [.cells [.raw .nilFunc, .raw (.slice none 0 0), .raw (.map none)] 54] => .ret ⟨some (.raw (.bool true)), []⟩
  | _, _ => .fail
theorem noneNOk : ConOk R Try.prog 25 noneNCon := con_of_fn R (X9) (TabOk.con R X9Ok) mixed Try.call25 Try.func25 noneNCon (by
  intro args cs K h
  unfold noneNCon at h
  split at h
  ·
    refine ⟨noAnn, _, fun v S hv => ⟨_, h, hv⟩, ?_⟩
    rw [noneNK0Vc ]
    exact noneNK0Holds 
  · rename_i L M
    refine ⟨noAnn, _, fun v S hv => ⟨_, h, hv⟩, ?_⟩
    rw [noneNK1Vc L M]
    exact noneNK1Holds L M
  ·
    refine ⟨noAnn, _, fun v S hv => ⟨_, h, hv⟩, ?_⟩
    rw [noneNK2Vc ]
    exact noneNK2Holds 
  · exact h.elim)
/-! ### regatta/heap.New[int] -/
def newNText  : Prop := ((True ∧ True) ∧ (((Value.nilFunc = Value.nilFunc) ∧ (True ∧ (True ∧ True))) ∧ ((noThings = []) ∧ ((noPlaces = []) ∧ True))))
theorem newNVc  : fnX X9 (noAnn) Try.f9 [.raw .nilFunc] [] (ends [] ⟨some (.ptr 0 0), [(0, some (.cells [.raw .nilFunc, .own 1, .own 2] 54)), (1, some (.vec 2 noThings 57)), (2, some (.map 0 noPlaces))]⟩) = newNText  := by kernel_rfl
theorem newNHolds  : newNText  := by
  unfold newNText
  exact ⟨⟨trivial, trivial⟩, ⟨rfl, trivial, trivial, trivial⟩, rfl, rfl, trivial⟩
noncomputable def newNCon : Con T O := fun args cs => match args, cs with
  | [.raw .nilFunc], [] => .ret ⟨some (.ptr 0 0), [(0, some (.cells [.raw .nilFunc, .own 1, .own 2] 54)), (1, some (.vec 2 noThings 57)), (2, some (.map 0 noPlaces))]⟩
  | _, _ => .fail
theorem newNOk : ConOk R Try.prog 9 newNCon := con_of_fn R (X9) (TabOk.con R X9Ok) mixed Try.call9 Try.func9 newNCon (by
  intro args cs K h
  unfold newNCon at h
  split at h
  ·
    refine ⟨noAnn, _, fun v S hv => ⟨_, h, hv⟩, ?_⟩
    rw [newNVc ]
    exact newNHolds 
  · exact h.elim)
noncomputable def tab10 : Tab T O := (25, noneNCon) :: (9, newNCon) :: tab9
theorem tabOk10 : TabOk R Try.prog tab10 := TabOk.cons R noneNOk <| TabOk.cons R newNOk <| tabOk9
noncomputable def X10 : Ctx T O := { X0 with con := conOf tab10 }
theorem X10Ok : TabOk R X10.P tab10 := tabOk10
end Go.Proofs.Ytdnndahaeammcaa
