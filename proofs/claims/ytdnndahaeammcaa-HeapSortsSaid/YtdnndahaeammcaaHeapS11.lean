/-
  Part of a proof over the seat Ytdnndahaeammcaa: printed by a small program or typed by hand.
-/
import Derived.Test.YtdnndahaeammcaaHeapS10
import Derived.KernelRfl
namespace Go.Proofs.Ytdnndahaeammcaa
open Go.Sx Go.Proofs Classical
/-! ### (*regatta/heap.Heap[int]).Len -/
def lenNK0Text  : Prop := ((((0 : Int) = (0 : Int)) ∧ True) ∧ True)
theorem lenNK0Vc  : fnX X10 (noAnn) Try.f13 [.raw (.pointer none)] [] (ends [] ⟨some (.raw (.int .i64 0)), []⟩) = lenNK0Text  := by kernel_rfl
theorem lenNK0Holds  : lenNK0Text  := by
  unfold lenNK0Text
  simp
def lenNK1Text (L : List Thing) (M : List (Int × Int)) : Prop := ((((0 : Int) = (0 : Int)) ∧ True) ∧ (((Value.nilFunc = Value.nilFunc) ∧ (True ∧ (True ∧ True))) ∧ ((L = L) ∧ ((M = M) ∧ True))))
theorem lenNK1Vc (L : List Thing) (M : List (Int × Int)) : fnX X10 (noAnn) Try.f13 [.ptr 0 0] [.cells [.raw .nilFunc, .own 1, .own 2] 54, .vec 2 L 57, .map 0 M] (ends [.cells [.raw .nilFunc, .own 1, .own 2] 54, .vec 2 L 57, .map 0 M] ⟨some (.raw (.int .i64 0)), [(1, some (.vec 2 (L) 57)), (2, some (.map 0 (M)))]⟩) = lenNK1Text L M := by kernel_rfl
theorem lenNK1Holds (L : List Thing) (M : List (Int × Int)) : lenNK1Text L M := by
  unfold lenNK1Text
  simp
def lenNK2Text  : Prop := ((((0 : Int) = (0 : Int)) ∧ True) ∧ (((Value.nilFunc = Value.nilFunc) ∧ ((Value.slice none (0 : Nat) (0 : Nat) = Value.slice none (0 : Nat) (0 : Nat)) ∧ ((Value.map none = Value.map none) ∧ True))) ∧ True))
theorem lenNK2Vc  : fnX X10 (noAnn) Try.f13 [.ptr 0 0] [.cells [.raw .nilFunc, .raw (.slice none 0 0), .raw (.map none)] 54] (ends [.cells [.raw .nilFunc, .raw (.slice none 0 0), .raw (.map none)] 54] ⟨some (.raw (.int .i64 0)), []⟩) = lenNK2Text  := by kernel_rfl
theorem lenNK2Holds  : lenNK2Text  := by
  unfold lenNK2Text
  simp
noncomputable def lenNCon : Con T O := fun args cs => match args, cs with
  | [.raw (.pointer none)], [] => .ret ⟨some (.raw (.int .i64 0)), []⟩
  | [.ptr 0 0], [.cells [.raw .nilFunc, .own 1, .own 2] 54, .vec 2 L 57, .map 0 M] => .ret ⟨some (.raw (.int .i64 0)), [(1, some (.vec 2 (L) 57)), (2, some (.map 0 (M)))]⟩
  | [.ptr 0 0], [.cells [.raw .nilFunc, .raw (.slice none 0 0), .raw (.map none)] 54] => .ret ⟨some (.raw (.int .i64 0)), []⟩
  | _, _ => .fail
theorem lenNOk : ConOk R Try.prog 13 lenNCon := con_of_fn R (X10) (TabOk.con R X10Ok) mixed Try.call13 Try.func13 lenNCon (by
  intro args cs K h
  unfold lenNCon at h
  split at h
  ·
    refine ⟨noAnn, _, fun v S hv => ⟨_, h, hv⟩, ?_⟩
    rw [lenNK0Vc ]
    exact lenNK0Holds 
  · rename_i L M
    refine ⟨noAnn, _, fun v S hv => ⟨_, h, hv⟩, ?_⟩
    rw [lenNK1Vc L M]
    exact lenNK1Holds L M
  ·
    refine ⟨noAnn, _, fun v S hv => ⟨_, h, hv⟩, ?_⟩
    rw [lenNK2Vc ]
    exact lenNK2Holds 
  · exact h.elim)
/-! ### (*regatta/heap.Heap[int]).Get -/
def getNText (id : Int) : Prop := (((((0 : Int) = (0 : Int)) ∧ ((false = false) ∧ True)) ∧ True) ∧ (((Value.nilFunc = Value.nilFunc) ∧ ((Value.slice none (0 : Nat) (0 : Nat) = Value.slice none (0 : Nat) (0 : Nat)) ∧ ((Value.map none = Value.map none) ∧ True))) ∧ True))
theorem getNVc (id : Int) : fnX X10 (noAnn) Try.f16 [.ptr 0 0, .raw (.int .i64 id)] [.cells [.raw .nilFunc, .raw (.slice none 0 0), .raw (.map none)] 54] (ends [.cells [.raw .nilFunc, .raw (.slice none 0 0), .raw (.map none)] 54] ⟨some (.tup [.raw (.int .i64 0), .raw (.bool false)]), []⟩) = getNText id := by kernel_rfl
theorem getNHolds (id : Int) : getNText id := by
  unfold getNText
  simp
noncomputable def getNCon : Con T O := fun args cs => match args, cs with
  | [.ptr 0 0, .raw (.int .i64 _)], [.cells [.raw .nilFunc, .raw (.slice none 0 0), .raw (.map none)] 54] => .ret ⟨some (.tup [.raw (.int .i64 0), .raw (.bool false)]), []⟩
  | _, _ => .fail
theorem getNOk : ConOk R Try.prog 16 getNCon := con_of_fn R (X10) (TabOk.con R X10Ok) mixed Try.call16 Try.func16 getNCon (by
  intro args cs K h
  unfold getNCon at h
  split at h
  · rename_i id
    refine ⟨noAnn, _, fun v S hv => ⟨_, h, hv⟩, ?_⟩
    rw [getNVc id]
    exact getNHolds id
  · exact h.elim)
/-! ### (*regatta/heap.Heap[int]).Remove -/
def removeNText (id : Int) : Prop := (((((0 : Int) = (0 : Int)) ∧ ((false = false) ∧ True)) ∧ True) ∧ True)
theorem removeNVc (id : Int) : fnX X10 (noAnn) Try.f14 [.raw (.pointer none), .raw (.int .i64 id)] [] (ends [] ⟨some (.tup [.raw (.int .i64 0), .raw (.bool false)]), []⟩) = removeNText id := by kernel_rfl
theorem removeNHolds (id : Int) : removeNText id := by
  unfold removeNText
  simp
noncomputable def removeNCon : Con T O := fun args cs => match args, cs with
  | [.raw (.pointer none), .raw (.int .i64 _)], [] => .ret ⟨some (.tup [.raw (.int .i64 0), .raw (.bool false)]), []⟩
  | _, _ => .fail
theorem removeNOk : ConOk R Try.prog 14 removeNCon := con_of_fn R (X10) (TabOk.con R X10Ok) mixed Try.call14 Try.func14 removeNCon (by
  intro args cs K h
  unfold removeNCon at h
  split at h
  · rename_i id
    refine ⟨noAnn, _, fun v S hv => ⟨_, h, hv⟩, ?_⟩
    rw [removeNVc id]
    exact removeNHolds id
  · exact h.elim)
/-! ### (*regatta/heap.Heap[int]).Push -/
def pushNK0Text (id x : Int) : Prop := (((false = false) ∧ True) ∧ True)
theorem pushNK0Vc (id x : Int) : fnX X10 (noAnn) Try.f11 [.raw (.pointer none), .raw (.int .i64 id), .raw (.int .i64 x)] [] (ends [] ⟨some (.raw (.bool false)), []⟩) = pushNK0Text id x := by kernel_rfl
theorem pushNK0Holds (id x : Int) : pushNK0Text id x := by
  unfold pushNK0Text
  simp
def pushNK1Text (L : List Thing) (M : List (Int × Int)) (id x : Int) : Prop := (((false = false) ∧ True) ∧ (((Value.nilFunc = Value.nilFunc) ∧ (True ∧ (True ∧ True))) ∧ ((L = L) ∧ ((M = M) ∧ True))))
theorem pushNK1Vc (L : List Thing) (M : List (Int × Int)) (id x : Int) : fnX X10 (noAnn) Try.f11 [.ptr 0 0, .raw (.int .i64 id), .raw (.int .i64 x)] [.cells [.raw .nilFunc, .own 1, .own 2] 54, .vec 2 L 57, .map 0 M] (ends [.cells [.raw .nilFunc, .own 1, .own 2] 54, .vec 2 L 57, .map 0 M] ⟨some (.raw (.bool false)), [(1, some (.vec 2 (L) 57)), (2, some (.map 0 (M)))]⟩) = pushNK1Text L M id x := by kernel_rfl
theorem pushNK1Holds (L : List Thing) (M : List (Int × Int)) (id x : Int) : pushNK1Text L M id x := by
  unfold pushNK1Text
  simp
def pushNK2Text (id x : Int) : Prop := (((false = false) ∧ True) ∧ (((Value.nilFunc = Value.nilFunc) ∧ ((Value.slice none (0 : Nat) (0 : Nat) = Value.slice none (0 : Nat) (0 : Nat)) ∧ ((Value.map none = Value.map none) ∧ True))) ∧ True))
theorem pushNK2Vc (id x : Int) : fnX X10 (noAnn) Try.f11 [.ptr 0 0, .raw (.int .i64 id), .raw (.int .i64 x)] [.cells [.raw .nilFunc, .raw (.slice none 0 0), .raw (.map none)] 54] (ends [.cells [.raw .nilFunc, .raw (.slice none 0 0), .raw (.map none)] 54] ⟨some (.raw (.bool false)), []⟩) = pushNK2Text id x := by kernel_rfl
theorem pushNK2Holds (id x : Int) : pushNK2Text id x := by
  unfold pushNK2Text
  simp
noncomputable def pushNCon : Con T O := fun args cs => match args, cs with
  | [.raw (.pointer none), .raw (.int .i64 _), .raw (.int .i64 _)], [] => .ret ⟨some (.raw (.bool false)), []⟩
  | [.ptr 0 0, .raw (.int .i64 _), .raw (.int .i64 _)], [.cells [.raw .nilFunc, .own 1, .own 2] 54, .vec 2 L 57, .map 0 M] => .ret ⟨some (.raw (.bool false)), [(1, some (.vec 2 (L) 57)), (2, some (.map 0 (M)))]⟩
  | [.ptr 0 0, .raw (.int .i64 _), .raw (.int .i64 _)], [.cells [.raw .nilFunc, .raw (.slice none 0 0), .raw (.map none)] 54] => .ret ⟨some (.raw (.bool false)), []⟩
  | _, _ => .fail
theorem pushNOk : ConOk R Try.prog 11 pushNCon := con_of_fn R (X10) (TabOk.con R X10Ok) mixed Try.call11 Try.func11 pushNCon (by
  intro args cs K h
  unfold pushNCon at h
  split at h
  · rename_i id x
    refine ⟨noAnn, _, fun v S hv => ⟨_, h, hv⟩, ?_⟩
    rw [pushNK0Vc id x]
    exact pushNK0Holds id x
  · rename_i id x L M
    refine ⟨noAnn, _, fun v S hv => ⟨_, h, hv⟩, ?_⟩
    rw [pushNK1Vc L M id x]
    exact pushNK1Holds L M id x
  · rename_i id x
    refine ⟨noAnn, _, fun v S hv => ⟨_, h, hv⟩, ?_⟩
    rw [pushNK2Vc id x]
    exact pushNK2Holds id x
  · exact h.elim)
/-! ### (*regatta/heap.Heap[int]).IDs -/
def idsNK0Text  : Prop := (((Value.slice none (0 : Nat) (0 : Nat) = Value.slice none (0 : Nat) (0 : Nat)) ∧ True) ∧ True)
theorem idsNK0Vc  : fnX X10 (noAnn) Try.f23 [.raw (.pointer none)] [] (ends [] ⟨some (.raw (.slice none 0 0)), []⟩) = idsNK0Text  := by kernel_rfl
theorem idsNK0Holds  : idsNK0Text  := by
  unfold idsNK0Text
  simp
def idsNK1Text (L : List Thing) (M : List (Int × Int)) : Prop := (((Value.slice none (0 : Nat) (0 : Nat) = Value.slice none (0 : Nat) (0 : Nat)) ∧ True) ∧ (((Value.nilFunc = Value.nilFunc) ∧ (True ∧ (True ∧ True))) ∧ ((L = L) ∧ ((M = M) ∧ True))))
theorem idsNK1Vc (L : List Thing) (M : List (Int × Int)) : fnX X10 (noAnn) Try.f23 [.ptr 0 0] [.cells [.raw .nilFunc, .own 1, .own 2] 54, .vec 2 L 57, .map 0 M] (ends [.cells [.raw .nilFunc, .own 1, .own 2] 54, .vec 2 L 57, .map 0 M] ⟨some (.raw (.slice none 0 0)), [(1, some (.vec 2 (L) 57)), (2, some (.map 0 (M)))]⟩) = idsNK1Text L M := by kernel_rfl
theorem idsNK1Holds (L : List Thing) (M : List (Int × Int)) : idsNK1Text L M := by
  unfold idsNK1Text
  simp
noncomputable def idsNCon : Con T O := fun args cs => match args, cs with
  | [.raw (.pointer none)], [] => .ret ⟨some (.raw (.slice none 0 0)), []⟩
  | [.ptr 0 0], [.cells [.raw .nilFunc, .own 1, .own 2] 54, .vec 2 L 57, .map 0 M] => .ret ⟨some (.raw (.slice none 0 0)), [(1, some (.vec 2 (L) 57)), (2, some (.map 0 (M)))]⟩
  | _, _ => .fail
theorem idsNOk : ConOk R Try.prog 23 idsNCon := con_of_fn R (X10) (TabOk.con R X10Ok) mixed Try.call23 Try.func23 idsNCon (by
  intro args cs K h
  unfold idsNCon at h
  split at h
  ·
    refine ⟨noAnn, _, fun v S hv => ⟨_, h, hv⟩, ?_⟩
    rw [idsNK0Vc ]
    exact idsNK0Holds 
  · rename_i L M
    refine ⟨noAnn, _, fun v S hv => ⟨_, h, hv⟩, ?_⟩
    rw [idsNK1Vc L M]
    exact idsNK1Holds L M
  · exact h.elim)
noncomputable def tab11 : Tab T O := (13, lenNCon) :: (16, getNCon) :: (14, removeNCon) :: (11, pushNCon) :: (23, idsNCon) :: tab10
theorem tabOk11 : TabOk R Try.prog tab11 := TabOk.cons R lenNOk <| TabOk.cons R getNOk <| TabOk.cons R removeNOk <| TabOk.cons R pushNOk <| TabOk.cons R idsNOk <| tabOk10
noncomputable def X11 : Ctx T O := { X0 with con := conOf tab11 }
theorem X11Ok : TabOk R X11.P tab11 := tabOk11
end Go.Proofs.Ytdnndahaeammcaa
