/-
  Part of a proof over the seat Ytkcnocigkblbiaa: printed by a small program or typed by hand.
-/
import Derived.Test.YtkcnocigkblbiaaWindS5
import Derived.KernelRfl
namespace Go.Proofs.Ytkcnocigkblbiaa
open Go.Sx Go.Proofs Classical
/-! ### regatta/regattalaw20.awake -/
def law20AwakeText  : Prop := (((true = ((-1 : Int) == (-1 : Int))) ∧ True) ∧ True)
theorem law20AwakeVc  : fnX X5 (annOf [] [] [(2, [1])]) Try.f8 [] [] (ends [] ⟨some (.raw (.bool true)), []⟩) = law20AwakeText  := by kernel_rfl
theorem law20AwakeHolds  : law20AwakeText  := by
  unfold law20AwakeText
  exact ⟨⟨rfl, trivial⟩, trivial⟩
noncomputable def law20AwakeCon : Con T O := fun args cs => match args, cs with
  | [], [] => .ret ⟨some (.raw (.bool true)), []⟩
  | _, _ => .fail
theorem law20AwakeOk : ConOk R Try.prog 8 law20AwakeCon := con_of_fn R (X5) (TabOk.con R X5Ok) mixed Try.call8 Try.func8 law20AwakeCon (by
  intro args cs K h
  unfold law20AwakeCon at h
  split at h
  ·
    refine ⟨annOf [] [] [(2, [1])], _, fun v S hv => ⟨_, h, hv⟩, ?_⟩
    rw [law20AwakeVc ]
    exact law20AwakeHolds 
  · exact h.elim)
/-! ### regatta/window.Check -/
def windowCheck (a0E : Int) (a0P : Int) : Bool := (match (decide (a0E ≥ (1 : Int))) with | true => (match (decide (a0E ≤ a0P)) with | true => (decide (a0P ≤ (1048576 : Int))) | false => (false)) | false => (false))
noncomputable def windowCheckCon : Con T O := fun args cs => match args, cs with
  | [.agg [.raw (.int .i64 a0E), .raw (.int .i64 a0P)]], [] => retv (.raw (.bool (windowCheck a0E a0P)))
  | _, _ => .fail
theorem windowCheckVc (a0E : Int) (a0P : Int) : fnX X5 noAnn Try.f54 [.agg [.raw (.int .i64 a0E), .raw (.int .i64 a0P)]] [] (ends [] ⟨some (.raw (.bool (windowCheck a0E a0P))), []⟩) = ((match (decide (a0E ≥ (1 : Int))) with | true => (match (decide (a0E ≤ a0P)) with | true => ((windowCheck a0E a0P = (decide (a0P ≤ (1048576 : Int)))) ∧ True) ∧ True | false => ((windowCheck a0E a0P = (false)) ∧ True) ∧ True) | false => ((windowCheck a0E a0P = (false)) ∧ True) ∧ True)) := by kernel_rfl
theorem windowCheckOk : ConOk R Try.prog 54 windowCheckCon := con_of_fn R X5 (TabOk.con R X5Ok) mixed Try.call54 Try.func54 windowCheckCon (by
  intro args cs K h
  unfold windowCheckCon at h
  split at h
  · rename_i a0E a0P
    refine ⟨noAnn, _, fun v S hv => ⟨_, h, hv⟩, ?_⟩
    rw [windowCheckVc a0E a0P]
    unfold windowCheck
    cases (decide (a0E ≥ (1 : Int)))
    ·
      exact ⟨⟨rfl, trivial⟩, trivial⟩
    ·
      cases (decide (a0E ≤ a0P))
      ·
        exact ⟨⟨rfl, trivial⟩, trivial⟩
      ·
        exact ⟨⟨rfl, trivial⟩, trivial⟩
  · exact h.elim)
/-! ### regatta/regattaref04.Check -/
def ref04Check (a0E : Int) (a0P : Int) : Bool := (match (decide (a0E ≥ (1 : Int))) with | true => (match (decide (a0E ≤ a0P)) with | true => (decide (a0P ≤ (1048576 : Int))) | false => (false)) | false => (false))
noncomputable def ref04CheckCon : Con T O := fun args cs => match args, cs with
  | [.agg [.raw (.int .i64 a0E), .raw (.int .i64 a0P)]], [] => retv (.raw (.bool (ref04Check a0E a0P)))
  | _, _ => .fail
theorem ref04CheckVc (a0E : Int) (a0P : Int) : fnX X5 noAnn Try.f43 [.agg [.raw (.int .i64 a0E), .raw (.int .i64 a0P)]] [] (ends [] ⟨some (.raw (.bool (ref04Check a0E a0P))), []⟩) = ((match (decide (a0E ≥ (1 : Int))) with | true => (match (decide (a0E ≤ a0P)) with | true => ((ref04Check a0E a0P = (decide (a0P ≤ (1048576 : Int)))) ∧ True) ∧ True | false => ((ref04Check a0E a0P = (false)) ∧ True) ∧ True) | false => ((ref04Check a0E a0P = (false)) ∧ True) ∧ True)) := by kernel_rfl
theorem ref04CheckOk : ConOk R Try.prog 43 ref04CheckCon := con_of_fn R X5 (TabOk.con R X5Ok) mixed Try.call43 Try.func43 ref04CheckCon (by
  intro args cs K h
  unfold ref04CheckCon at h
  split at h
  · rename_i a0E a0P
    refine ⟨noAnn, _, fun v S hv => ⟨_, h, hv⟩, ?_⟩
    rw [ref04CheckVc a0E a0P]
    unfold ref04Check
    cases (decide (a0E ≥ (1 : Int)))
    ·
      exact ⟨⟨rfl, trivial⟩, trivial⟩
    ·
      cases (decide (a0E ≤ a0P))
      ·
        exact ⟨⟨rfl, trivial⟩, trivial⟩
      ·
        exact ⟨⟨rfl, trivial⟩, trivial⟩
  · exact h.elim)
/-! ### regatta/regattaref04.up -/
def ref04Up (a0 : Int) (a1 : Int) : Int := (match (a1 != (0 : Int)) with | true => (match (decide (IntKind.i64.wrap (IntKind.i64.wrap (a0.tdiv a1) * a1) < a0)) with | true => (IntKind.i64.wrap (IntKind.i64.wrap (a0.tdiv a1) + (1 : Int))) | false => (IntKind.i64.wrap (a0.tdiv a1))) | false => 0)
def ref04UpPre (a0 : Int) (a1 : Int) : Bool := (match (a1 != (0 : Int)) with | true => (match (decide (IntKind.i64.wrap (IntKind.i64.wrap (a0.tdiv a1) * a1) < a0)) with | true => true | false => true) | false => false)
noncomputable def ref04UpCon : Con T O := fun args cs => match args, cs with
  | [.raw (.int .i64 a0), .raw (.int .i64 a1)], [] => chk (ref04UpPre a0 a1) (retv (.raw (.int .i64 (ref04Up a0 a1))))
  | _, _ => .fail
theorem ref04UpVc (a0 : Int) (a1 : Int) : fnX X5 noAnn Try.f45 [.raw (.int .i64 a0), .raw (.int .i64 a1)] [] (ends [] ⟨some (.raw (.int .i64 (ref04Up a0 a1))), []⟩) = ((match (a1 != (0 : Int)) with | true => (match (decide (IntKind.i64.wrap (IntKind.i64.wrap (a0.tdiv a1) * a1) < a0)) with | true => ((ref04Up a0 a1 = (IntKind.i64.wrap (IntKind.i64.wrap (a0.tdiv a1) + (1 : Int)))) ∧ True) ∧ True | false => ((ref04Up a0 a1 = (IntKind.i64.wrap (a0.tdiv a1))) ∧ True) ∧ True) | false => False)) := by kernel_rfl
theorem ref04UpOk : ConOk R Try.prog 45 ref04UpCon := con_of_fn R X5 (TabOk.con R X5Ok) mixed Try.call45 Try.func45 ref04UpCon (by
  intro args cs K h
  unfold ref04UpCon at h
  split at h
  · rename_i a0 a1
    rw [Tree.holds_chk] at h
    obtain ⟨hp, h⟩ := h
    refine ⟨noAnn, _, fun v S hv => ⟨_, h, hv⟩, ?_⟩
    rw [ref04UpVc a0 a1]
    revert hp
    unfold ref04Up ref04UpPre
    cases (a1 != (0 : Int))
    ·
      intro hp; cases hp
    ·
      cases (decide (IntKind.i64.wrap (IntKind.i64.wrap (a0.tdiv a1) * a1) < a0))
      ·
        intro _; exact ⟨⟨rfl, trivial⟩, trivial⟩
      ·
        intro _; exact ⟨⟨rfl, trivial⟩, trivial⟩
  · exact h.elim)
/-! ### regatta/exact.by -/
def exactBy (a0 : Int) : Int := (match (a0 == (0 : Int)) with | true => ((17 : Int)) | false => (match (decide (a0 < (0 : Int))) with | true => ((1 : Int)) | false => ((0 : Int))))
noncomputable def exactByCon : Con T O := fun args cs => match args, cs with
  | [.raw (.int .i64 a0)], [] => retv (.raw (.int .i64 (exactBy a0)))
  | _, _ => .fail
theorem exactByVc (a0 : Int) : fnX X5 noAnn Try.f58 [.raw (.int .i64 a0)] [] (ends [] ⟨some (.raw (.int .i64 (exactBy a0))), []⟩) = ((match (a0 == (0 : Int)) with | true => ((exactBy a0 = ((17 : Int))) ∧ True) ∧ True | false => (match (decide (a0 < (0 : Int))) with | true => ((exactBy a0 = ((1 : Int))) ∧ True) ∧ True | false => ((exactBy a0 = ((0 : Int))) ∧ True) ∧ True))) := by kernel_rfl
theorem exactByOk : ConOk R Try.prog 58 exactByCon := con_of_fn R X5 (TabOk.con R X5Ok) mixed Try.call58 Try.func58 exactByCon (by
  intro args cs K h
  unfold exactByCon at h
  split at h
  · rename_i a0
    refine ⟨noAnn, _, fun v S hv => ⟨_, h, hv⟩, ?_⟩
    rw [exactByVc a0]
    unfold exactBy
    cases (a0 == (0 : Int))
    ·
      cases (decide (a0 < (0 : Int)))
      ·
        exact ⟨⟨rfl, trivial⟩, trivial⟩
      ·
        exact ⟨⟨rfl, trivial⟩, trivial⟩
    ·
      exact ⟨⟨rfl, trivial⟩, trivial⟩
  · exact h.elim)
noncomputable def tab6 : Tab T O := (8, law20AwakeCon) :: (54, windowCheckCon) :: (43, ref04CheckCon) :: (45, ref04UpCon) :: (58, exactByCon) :: tab5
theorem tabOk6 : TabOk R Try.prog tab6 := TabOk.cons R law20AwakeOk <| TabOk.cons R windowCheckOk <| TabOk.cons R ref04CheckOk <| TabOk.cons R ref04UpOk <| TabOk.cons R exactByOk <| tabOk5
noncomputable def X6 : Ctx T O := { X0 with con := conOf tab6 }
theorem X6Ok : TabOk R X6.P tab6 := tabOk6
end Go.Proofs.Ytkcnocigkblbiaa
