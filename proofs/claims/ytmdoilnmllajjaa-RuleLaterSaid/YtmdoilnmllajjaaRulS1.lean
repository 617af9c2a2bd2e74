/-
  Part of a proof over the seat Ytmdoilnmllajjaa: printed by a small program or typed by hand.
-/
import Derived.Test.YtmdoilnmllajjaaRulBase
import Derived.KernelRfl
namespace Go.Proofs.Ytmdoilnmllajjaa
open Go.Sx Go.Proofs Classical
/-! ### regatta/window.Check -/
def windowCheck (a0E : Int) (a0P : Int) : Bool := (match (decide (a0E ≥ (1 : Int))) with | true => (match (decide (a0E ≤ a0P)) with | true => (decide (a0P ≤ (1048576 : Int))) | false => (false)) | false => (false))
noncomputable def windowCheckCon : Con T O := fun args cs => match args, cs with
  | [.agg [.raw (.int .i64 a0E), .raw (.int .i64 a0P)]], [] => retv (.raw (.bool (windowCheck a0E a0P)))
  | _, _ => .fail
theorem windowCheckVc (a0E : Int) (a0P : Int) : fnX X0 noAnn Try.f24 [.agg [.raw (.int .i64 a0E), .raw (.int .i64 a0P)]] [] (ends [] ⟨some (.raw (.bool (windowCheck a0E a0P))), []⟩) = ((match (decide (a0E ≥ (1 : Int))) with | true => (match (decide (a0E ≤ a0P)) with | true => ((windowCheck a0E a0P = (decide (a0P ≤ (1048576 : Int)))) ∧ True) ∧ True | false => ((windowCheck a0E a0P = (false)) ∧ True) ∧ True) | false => ((windowCheck a0E a0P = (false)) ∧ True) ∧ True)) := by kernel_rfl
theorem windowCheckOk : ConOk R Try.prog 24 windowCheckCon := con_of_fn R X0 (TabOk.con R X0Ok) mixed Try.call24 Try.func24 windowCheckCon (by
  intro args cs K h
  unfold windowCheckCon at h
  split at h
  · rename_i a0E a0P
    refine ⟨noAnn, _, fun v S hv => ⟨_, h, hv⟩, ?_⟩
    rw [windowCheckVc a0E a0P]
    unfold windowCheck
    cases (decide (a0E ≥ (1 : Int)))
    ·
      exact ⟨⟨rfl, trivial⟩, trivial⟩
    ·
      cases (decide (a0E ≤ a0P))
      ·
        exact ⟨⟨rfl, trivial⟩, trivial⟩
      ·
        exact ⟨⟨rfl, trivial⟩, trivial⟩
  · exact h.elim)
/-! ### regatta/regattaref04.Check -/
def ref04Check (a0E : Int) (a0P : Int) : Bool := (match (decide (a0E ≥ (1 : Int))) with | true => (match (decide (a0E ≤ a0P)) with | true => (decide (a0P ≤ (1048576 : Int))) | false => (false)) | false => (false))
noncomputable def ref04CheckCon : Con T O := fun args cs => match args, cs with
  | [.agg [.raw (.int .i64 a0E), .raw (.int .i64 a0P)]], [] => retv (.raw (.bool (ref04Check a0E a0P)))
  | _, _ => .fail
theorem ref04CheckVc (a0E : Int) (a0P : Int) : fnX X0 noAnn Try.f23 [.agg [.raw (.int .i64 a0E), .raw (.int .i64 a0P)]] [] (ends [] ⟨some (.raw (.bool (ref04Check a0E a0P))), []⟩) = ((match (decide (a0E ≥ (1 : Int))) with | true => (match (decide (a0E ≤ a0P)) with | true => ((ref04Check a0E a0P = (decide (a0P ≤ (1048576 : Int)))) ∧ True) ∧ True | false => ((ref04Check a0E a0P = (false)) ∧ True) ∧ True) | false => ((ref04Check a0E a0P = (false)) ∧ True) ∧ True)) := by kernel_rfl
theorem ref04CheckOk : ConOk R Try.prog 23 ref04CheckCon := con_of_fn R X0 (TabOk.con R X0Ok) mixed Try.call23 Try.func23 ref04CheckCon (by
  intro args cs K h
  unfold ref04CheckCon at h
  split at h
  · rename_i a0E a0P
    refine ⟨noAnn, _, fun v S hv => ⟨_, h, hv⟩, ?_⟩
    rw [ref04CheckVc a0E a0P]
    unfold ref04Check
    cases (decide (a0E ≥ (1 : Int)))
    ·
      exact ⟨⟨rfl, trivial⟩, trivial⟩
    ·
      cases (decide (a0E ≤ a0P))
      ·
        exact ⟨⟨rfl, trivial⟩, trivial⟩
      ·
        exact ⟨⟨rfl, trivial⟩, trivial⟩
  · exact h.elim)
/-! ### regatta/regattaref04.up -/
def ref04Up (a0 : Int) (a1 : Int) : Int := (match (a1 != (0 : Int)) with | true => (match (decide (IntKind.i64.wrap (IntKind.i64.wrap (a0.tdiv a1) * a1) < a0)) with | true => (IntKind.i64.wrap (IntKind.i64.wrap (a0.tdiv a1) + (1 : Int))) | false => (IntKind.i64.wrap (a0.tdiv a1))) | false => 0)
def ref04UpPre (a0 : Int) (a1 : Int) : Bool := (match (a1 != (0 : Int)) with | true => (match (decide (IntKind.i64.wrap (IntKind.i64.wrap (a0.tdiv a1) * a1) < a0)) with | true => true | false => true) | false => false)
noncomputable def ref04UpCon : Con T O := fun args cs => match args, cs with
  | [.raw (.int .i64 a0), .raw (.int .i64 a1)], [] => chk (ref04UpPre a0 a1) (retv (.raw (.int .i64 (ref04Up a0 a1))))
  | _, _ => .fail
theorem ref04UpVc (a0 : Int) (a1 : Int) : fnX X0 noAnn Try.f30 [.raw (.int .i64 a0), .raw (.int .i64 a1)] [] (ends [] ⟨some (.raw (.int .i64 (ref04Up a0 a1))), []⟩) = ((match (a1 != (0 : Int)) with | true => (match (decide (IntKind.i64.wrap (IntKind.i64.wrap (a0.tdiv a1) * a1) < a0)) with | true => ((ref04Up a0 a1 = (IntKind.i64.wrap (IntKind.i64.wrap (a0.tdiv a1) + (1 : Int)))) ∧ True) ∧ True | false => ((ref04Up a0 a1 = (IntKind.i64.wrap (a0.tdiv a1))) ∧ True) ∧ True) | false => False)) := by kernel_rfl
theorem ref04UpOk : ConOk R Try.prog 30 ref04UpCon := con_of_fn R X0 (TabOk.con R X0Ok) mixed Try.call30 Try.func30 ref04UpCon (by
  intro args cs K h
  unfold ref04UpCon at h
  split at h
  · rename_i a0 a1
    rw [Tree.holds_chk] at h
    obtain ⟨hp, h⟩ := h
    refine ⟨noAnn, _, fun v S hv => ⟨_, h, hv⟩, ?_⟩
    rw [ref04UpVc a0 a1]
    revert hp
    unfold ref04Up ref04UpPre
    cases (a1 != (0 : Int))
    ·
      intro hp; cases hp
    ·
      cases (decide (IntKind.i64.wrap (IntKind.i64.wrap (a0.tdiv a1) * a1) < a0))
      ·
        intro _; exact ⟨⟨rfl, trivial⟩, trivial⟩
      ·
        intro _; exact ⟨⟨rfl, trivial⟩, trivial⟩
  · exact h.elim)
/-! ### regatta/regattalaw11.made -/
def law11MadeC0 (a0i0 : Int) (a0i1 : Int) : Int := (match (IntKind.i64.wrap ((1 : Int) + bits BinOp.and IntKind.i64 a0i1 (1048575 : Int)) != (0 : Int)) with | true => (IntKind.i64.wrap ((1 : Int) + (IntKind.i64.wrap (a0i0.tmod (IntKind.i64.wrap ((1 : Int) + bits BinOp.and IntKind.i64 a0i1 (1048575 : Int))) + IntKind.i64.wrap ((1 : Int) + bits BinOp.and IntKind.i64 a0i1 (1048575 : Int)))).tmod (IntKind.i64.wrap ((1 : Int) + bits BinOp.and IntKind.i64 a0i1 (1048575 : Int))))) | false => 0)
def law11MadeC1 (_a0i0 : Int) (a0i1 : Int) : Int := (match (IntKind.i64.wrap ((1 : Int) + bits BinOp.and IntKind.i64 a0i1 (1048575 : Int)) != (0 : Int)) with | true => (IntKind.i64.wrap ((1 : Int) + bits BinOp.and IntKind.i64 a0i1 (1048575 : Int))) | false => 0)
def law11MadePre (_a0i0 : Int) (a0i1 : Int) : Bool := (match (IntKind.i64.wrap ((1 : Int) + bits BinOp.and IntKind.i64 a0i1 (1048575 : Int)) != (0 : Int)) with | true => true | false => false)
noncomputable def law11MadeCon : Con T O := fun args cs => match args, cs with
  | [.agg [.raw (.int .i64 a0i0), .raw (.int .i64 a0i1)]], [] => chk (law11MadePre a0i0 a0i1) (retv (.agg [.raw (.int .i64 (law11MadeC0 a0i0 a0i1)), .raw (.int .i64 (law11MadeC1 a0i0 a0i1))]))
  | _, _ => .fail
theorem law11MadeVc (a0i0 : Int) (a0i1 : Int) : fnX X0 noAnn Try.f9 [.agg [.raw (.int .i64 a0i0), .raw (.int .i64 a0i1)]] [] (ends [] ⟨some (.agg [.raw (.int .i64 (law11MadeC0 a0i0 a0i1)), .raw (.int .i64 (law11MadeC1 a0i0 a0i1))]), []⟩) = ((match (IntKind.i64.wrap ((1 : Int) + bits BinOp.and IntKind.i64 a0i1 (1048575 : Int)) != (0 : Int)) with | true => (match (IntKind.i64.wrap ((1 : Int) + bits BinOp.and IntKind.i64 a0i1 (1048575 : Int)) != (0 : Int)) with | true => ((((law11MadeC0 a0i0 a0i1 = (IntKind.i64.wrap ((1 : Int) + (IntKind.i64.wrap (a0i0.tmod (IntKind.i64.wrap ((1 : Int) + bits BinOp.and IntKind.i64 a0i1 (1048575 : Int))) + IntKind.i64.wrap ((1 : Int) + bits BinOp.and IntKind.i64 a0i1 (1048575 : Int)))).tmod (IntKind.i64.wrap ((1 : Int) + bits BinOp.and IntKind.i64 a0i1 (1048575 : Int)))))) ∧ ((law11MadeC1 a0i0 a0i1 = (IntKind.i64.wrap ((1 : Int) + bits BinOp.and IntKind.i64 a0i1 (1048575 : Int)))) ∧ True))) ∧ True) ∧ True | false => False) | false => False)) := by kernel_rfl
theorem law11MadeOk : ConOk R Try.prog 9 law11MadeCon := con_of_fn R X0 (TabOk.con R X0Ok) mixed Try.call9 Try.func9 law11MadeCon (by
  intro args cs K h
  unfold law11MadeCon at h
  split at h
  · rename_i a0i0 a0i1
    rw [Tree.holds_chk] at h
    obtain ⟨hp, h⟩ := h
    refine ⟨noAnn, _, fun v S hv => ⟨_, h, hv⟩, ?_⟩
    rw [law11MadeVc a0i0 a0i1]
    revert hp
    unfold law11MadeC0 law11MadeC1 law11MadePre
    cases (IntKind.i64.wrap ((1 : Int) + bits BinOp.and IntKind.i64 a0i1 (1048575 : Int)) != (0 : Int))
    ·
      intro hp; cases hp
    ·
      intro _; exact ⟨⟨⟨rfl, ⟨rfl, trivial⟩⟩, trivial⟩, trivial⟩
  · exact h.elim)
/-! ### cmp.isNaN[int64] -/
def nanL (a0 : Int) : Bool := (a0 != a0)
noncomputable def nanLCon : Con T O := fun args cs => match args, cs with
  | [.raw (.int .i64 a0)], [] => retv (.raw (.bool (nanL a0)))
  | _, _ => .fail
theorem nanLVc (a0 : Int) : fnX X0 noAnn Try.f32 [.raw (.int .i64 a0)] [] (ends [] ⟨some (.raw (.bool (nanL a0))), []⟩) = (((nanL a0 = (a0 != a0)) ∧ True) ∧ True) := by kernel_rfl
theorem nanLOk : ConOk R Try.prog 32 nanLCon := con_of_fn R X0 (TabOk.con R X0Ok) mixed Try.call32 Try.func32 nanLCon (by
  intro args cs K h
  unfold nanLCon at h
  split at h
  · rename_i a0
    refine ⟨noAnn, _, fun v S hv => ⟨_, h, hv⟩, ?_⟩
    rw [nanLVc a0]
    unfold nanL
    exact ⟨⟨rfl, trivial⟩, trivial⟩
  · exact h.elim)
/-! ### cmp.isNaN[int] -/
def nanI (a0 : Int) : Bool := (a0 != a0)
noncomputable def nanICon : Con T O := fun args cs => match args, cs with
  | [.raw (.int .i64 a0)], [] => retv (.raw (.bool (nanI a0)))
  | _, _ => .fail
theorem nanIVc (a0 : Int) : fnX X0 noAnn Try.f33 [.raw (.int .i64 a0)] [] (ends [] ⟨some (.raw (.bool (nanI a0))), []⟩) = (((nanI a0 = (a0 != a0)) ∧ True) ∧ True) := by kernel_rfl
theorem nanIOk : ConOk R Try.prog 33 nanICon := con_of_fn R X0 (TabOk.con R X0Ok) mixed Try.call33 Try.func33 nanICon (by
  intro args cs K h
  unfold nanICon at h
  split at h
  · rename_i a0
    refine ⟨noAnn, _, fun v S hv => ⟨_, h, hv⟩, ?_⟩
    rw [nanIVc a0]
    unfold nanI
    exact ⟨⟨rfl, trivial⟩, trivial⟩
  · exact h.elim)
noncomputable def tab1 : Tab T O := (24, windowCheckCon) :: (23, ref04CheckCon) :: (30, ref04UpCon) :: (9, law11MadeCon) :: (32, nanLCon) :: (33, nanICon) :: tab0
theorem tabOk1 : TabOk R Try.prog tab1 := TabOk.cons R windowCheckOk <| TabOk.cons R ref04CheckOk <| TabOk.cons R ref04UpOk <| TabOk.cons R law11MadeOk <| TabOk.cons R nanLOk <| TabOk.cons R nanIOk <| tabOk0
noncomputable def X1 : Ctx T O := { X0 with con := conOf tab1 }
theorem X1Ok : TabOk R X1.P tab1 := tabOk1
end Go.Proofs.Ytmdoilnmllajjaa
