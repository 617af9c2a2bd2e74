/-
  Part of a proof over the seat Ythfggjfpokknlaa: printed by a small program or typed by hand.
-/
import Derived.Test.YthfggjfpokknlaaStaS2
import Derived.KernelRfl
namespace Go.Proofs.Ythfggjfpokknlaa
open Go.Sx Go.Proofs Classical

def topCmp (M : CM) (a b : Int) : Int := cmpL (getM M b) (getM M a)

/-! ### (*regatta/stats.Counter[int]).Keys -/
def keysCIK0Text (M : CM) : Prop := (match (decide ((50 : FuncId) = (50 : FuncId)) && decide ((49 : TypeId) = (49 : TypeId)) && keysOk M) with | true => ((True ∧ True) ∧ ((True ∧ True) ∧ ((M = M) ∧ ((keysS M = keysS M) ∧ True)))) | false => False)
theorem keysCIK0Vc (M : CM) : fnX X2 (noAnn) Try.f18 [.ptr 0 0] [.cells [.own 1] 51, .map 0 M] (ends [.cells [.own 1] 51, .map 0 M] ⟨some (.own 2), [(1, some (.map 0 M)), (2, some (.vec 0 (keysS M) 3))]⟩) = keysCIK0Text M := by kernel_rfl
theorem keysCIK0Holds (M : CM) (hp : keysOk M = true) : keysCIK0Text M := by
  unfold keysCIK0Text
  simp only [keysOkS, hp, decide_true, Bool.and_self]
  repeat' first | trivial | rfl | apply And.intro
def keysCIK1Text  : Prop := (((Value.slice none (0 : Nat) (0 : Nat) = Value.slice none (0 : Nat) (0 : Nat)) ∧ True) ∧ True)
theorem keysCIK1Vc  : fnX X2 (noAnn) Try.f18 [.raw (.pointer none)] [] (ends [] ⟨some (.raw (.slice none 0 0)), []⟩) = keysCIK1Text  := by kernel_rfl
theorem keysCIK1Holds  : keysCIK1Text  := by
  unfold keysCIK1Text
  repeat' first | trivial | rfl | apply And.intro
noncomputable def keysCICon : Con T O := fun args cs => match args, cs with
  | [.ptr 0 0], [.cells [.own 1] 51, .map 0 M] => chk (decide (keysOk M = true)) (.ret ⟨some (.own 2), [(1, some (.map 0 M)), (2, some (.vec 0 (keysS M) 3))]⟩)
  | [.raw (.pointer none)], [] => .ret ⟨some (.raw (.slice none 0 0)), []⟩
  | _, _ => .fail
theorem keysCIOk : ConOk R Try.prog 18 keysCICon := con_of_fn R (X2) (TabOk.con R X2Ok) mixed Try.call18 Try.func18 keysCICon (by
  intro args cs K h
  unfold keysCICon at h
  split at h
  · rename_i M
    rw [Tree.holds_chk] at h
    obtain ⟨hp, h⟩ := h
    refine ⟨noAnn, _, fun v S hv => ⟨_, h, hv⟩, ?_⟩
    rw [keysCIK0Vc M]
    exact keysCIK0Holds M (of_decide_eq_true hp)
  ·
    refine ⟨noAnn, _, fun v S hv => ⟨_, h, hv⟩, ?_⟩
    rw [keysCIK1Vc ]
    exact keysCIK1Holds 
  · exact h.elim)
/-! ### (*regatta/stats.Counter[int]).Top$1 -/
def topCmpIText (M : CM) (a b : Int) : Prop := (((topCmp M a b = cmpL (getM M b) (getM M a)) ∧ True) ∧ ((True ∧ True) ∧ ((True ∧ True) ∧ ((M = M) ∧ True))))
theorem topCmpIVc (M : CM) (a b : Int) : fnX X2 (noAnn) Try.f38 [.raw (.int .i64 a), .raw (.int .i64 b), .ptr 0 0] [.cells [.ptr 1 0] 24, .cells [.own 2] 51, .map 0 M] (ends [.cells [.ptr 1 0] 24, .cells [.own 2] 51, .map 0 M] ⟨some (.raw (.int .i64 (topCmp M a b))), [(2, some (.map 0 M))]⟩) = topCmpIText M a b := by kernel_rfl
theorem topCmpIHolds (M : CM) (a b : Int) : topCmpIText M a b := by
  unfold topCmpIText
  repeat' first | trivial | rfl | apply And.intro
noncomputable def topCmpICon : Con T O := fun args cs => match args, cs with
  | [.raw (.int .i64 a), .raw (.int .i64 b), .ptr 0 0], [.cells [.ptr 1 0] 24, .cells [.own 2] 51, .map 0 M] => .ret ⟨some (.raw (.int .i64 (topCmp M a b))), [(2, some (.map 0 M))]⟩
  | _, _ => .fail
theorem topCmpIOk : ConOk R Try.prog 38 topCmpICon := con_of_fn R (X2) (TabOk.con R X2Ok) mixed Try.call38 Try.func38 topCmpICon (by
  intro args cs K h
  unfold topCmpICon at h
  split at h
  · rename_i a b M
    refine ⟨noAnn, _, fun v S hv => ⟨_, h, hv⟩, ?_⟩
    rw [topCmpIVc M a b]
    exact topCmpIHolds M a b
  · exact h.elim)
/-! ### (*regatta/stats.Counter[string]).Keys -/
def keysCSText (M : CM) : Prop := (match (decide ((55 : FuncId) = (55 : FuncId)) && decide ((68 : TypeId) = (68 : TypeId)) && keysOkS M) with | true => ((True ∧ True) ∧ ((True ∧ True) ∧ ((M = M) ∧ ((keysS M = keysS M) ∧ True)))) | false => False)
theorem keysCSVc (M : CM) : fnX X2 (noAnn) Try.f24 [.ptr 0 0] [.cells [.own 1] 70, .map 3 M] (ends [.cells [.own 1] 70, .map 3 M] ⟨some (.own 2), [(1, some (.map 3 M)), (2, some (.vec 2 (keysS M) 9))]⟩) = keysCSText M := by kernel_rfl
theorem keysCSHolds (M : CM) (hp : M.length ≤ 1000) : keysCSText M := by
  unfold keysCSText
  simp only [keysOkS, hp, decide_true, Bool.and_self]
  repeat' first | trivial | rfl | apply And.intro
noncomputable def keysCSCon : Con T O := fun args cs => match args, cs with
  | [.ptr 0 0], [.cells [.own 1] 70, .map 3 M] => chk (decide (M.length ≤ 1000)) (.ret ⟨some (.own 2), [(1, some (.map 3 M)), (2, some (.vec 2 (keysS M) 9))]⟩)
  | _, _ => .fail
theorem keysCSOk : ConOk R Try.prog 24 keysCSCon := con_of_fn R (X2) (TabOk.con R X2Ok) mixed Try.call24 Try.func24 keysCSCon (by
  intro args cs K h
  unfold keysCSCon at h
  split at h
  · rename_i M
    rw [Tree.holds_chk] at h
    obtain ⟨hp, h⟩ := h
    refine ⟨noAnn, _, fun v S hv => ⟨_, h, hv⟩, ?_⟩
    rw [keysCSVc M]
    exact keysCSHolds M (of_decide_eq_true hp)
  · exact h.elim)
/-! ### (*regatta/stats.Counter[string]).Top$1 -/
def topCmpSText (M : CM) (a b : UInt8) : Prop := (((topCmp M (↑a.toNat : Int) (↑b.toNat : Int) = cmpL (getM M (↑b.toNat : Int)) (getM M (↑a.toNat : Int))) ∧ True) ∧ ((True ∧ True) ∧ ((True ∧ True) ∧ ((M = M) ∧ True))))
theorem topCmpSVc (M : CM) (a b : UInt8) : fnX X2 (noAnn) Try.f47 [.raw (.string ⟨⟨[a]⟩⟩), .raw (.string ⟨⟨[b]⟩⟩), .ptr 0 0] [.cells [.ptr 1 0] 42, .cells [.own 2] 70, .map 3 M] (ends [.cells [.ptr 1 0] 42, .cells [.own 2] 70, .map 3 M] ⟨some (.raw (.int .i64 (topCmp M (a.toNat : Int) (b.toNat : Int)))), [(2, some (.map 3 M))]⟩) = topCmpSText M a b := by kernel_rfl
theorem topCmpSHolds (M : CM) (a b : UInt8) : topCmpSText M a b := by
  unfold topCmpSText
  repeat' first | trivial | rfl | apply And.intro
noncomputable def topCmpSCon : Con T O := fun args cs => match args, cs with
  | [.raw (.string ⟨⟨[a]⟩⟩), .raw (.string ⟨⟨[b]⟩⟩), .ptr 0 0], [.cells [.ptr 1 0] 42, .cells [.own 2] 70, .map 3 M] => .ret ⟨some (.raw (.int .i64 (topCmp M (a.toNat : Int) (b.toNat : Int)))), [(2, some (.map 3 M))]⟩
  | _, _ => .fail
theorem topCmpSOk : ConOk R Try.prog 47 topCmpSCon := con_of_fn R (X2) (TabOk.con R X2Ok) mixed Try.call47 Try.func47 topCmpSCon (by
  intro args cs K h
  unfold topCmpSCon at h
  split at h
  · rename_i a b M
    refine ⟨noAnn, _, fun v S hv => ⟨_, h, hv⟩, ?_⟩
    rw [topCmpSVc M a b]
    exact topCmpSHolds M a b
  · exact h.elim)
noncomputable def tab3 : Tab T O := (18, keysCICon) :: (38, topCmpICon) :: (24, keysCSCon) :: (47, topCmpSCon) :: tab2
theorem tabOk3 : TabOk R Try.prog tab3 := TabOk.cons R keysCIOk <| TabOk.cons R topCmpIOk <| TabOk.cons R keysCSOk <| TabOk.cons R topCmpSOk <| tabOk2
noncomputable def X3 : Ctx T O := { X0 with con := conOf tab3 }
theorem X3Ok : TabOk R X3.P tab3 := tabOk3
end Go.Proofs.Ythfggjfpokknlaa
