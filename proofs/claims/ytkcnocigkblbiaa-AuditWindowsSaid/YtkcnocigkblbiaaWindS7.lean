/-
  Part of a proof over the seat Ytkcnocigkblbiaa: printed by a small program or typed by hand.
-/
import Derived.Test.YtkcnocigkblbiaaWindS6
import Derived.KernelRfl
namespace Go.Proofs.Ytkcnocigkblbiaa
open Go.Sx Go.Proofs Classical
/-! ### regatta/regattaref04.Heavy -/
def ref04Heavy (a0E : Int) (a0P : Int) : Bool := (match (ref04Check a0E a0P) with | true => (decide (IntKind.i64.wrap ((2 : Int) * a0E) ≥ a0P)) | false => (false))
noncomputable def ref04HeavyCon : Con T O := fun args cs => match args, cs with
  | [.agg [.raw (.int .i64 a0E), .raw (.int .i64 a0P)]], [] => retv (.raw (.bool (ref04Heavy a0E a0P)))
  | _, _ => .fail
theorem ref04HeavyVc (a0E : Int) (a0P : Int) : fnX X6 noAnn Try.f44 [.agg [.raw (.int .i64 a0E), .raw (.int .i64 a0P)]] [] (ends [] ⟨some (.raw (.bool (ref04Heavy a0E a0P))), []⟩) = ((match (ref04Check a0E a0P) with | true => ((ref04Heavy a0E a0P = (decide (IntKind.i64.wrap ((2 : Int) * a0E) ≥ a0P))) ∧ True) ∧ True | false => ((ref04Heavy a0E a0P = (false)) ∧ True) ∧ True)) := by kernel_rfl
theorem ref04HeavyOk : ConOk R Try.prog 44 ref04HeavyCon := con_of_fn R X6 (TabOk.con R X6Ok) mixed Try.call44 Try.func44 ref04HeavyCon (by
  intro args cs K h
  unfold ref04HeavyCon at h
  split at h
  · rename_i a0E a0P
    refine ⟨noAnn, _, fun v S hv => ⟨_, h, hv⟩, ?_⟩
    rw [ref04HeavyVc a0E a0P]
    unfold ref04Heavy
    cases (ref04Check a0E a0P)
    ·
      exact ⟨⟨rfl, trivial⟩, trivial⟩
    ·
      exact ⟨⟨rfl, trivial⟩, trivial⟩
  · exact h.elim)
/-! ### regatta/regattaref04.number -/
def ref04Number (a0E : Int) (a0P : Int) (a1 : Int) : Bool := (match (ref04Check a0E a0P) with | true => (match (decide (a1 ≥ (1 : Int))) with | true => (decide (a1 ≤ (1099511627776 : Int))) | false => (false)) | false => (false))
noncomputable def ref04NumberCon : Con T O := fun args cs => match args, cs with
  | [.agg [.raw (.int .i64 a0E), .raw (.int .i64 a0P)], .raw (.int .i64 a1)], [] => retv (.raw (.bool (ref04Number a0E a0P a1)))
  | _, _ => .fail
theorem ref04NumberVc (a0E : Int) (a0P : Int) (a1 : Int) : fnX X6 noAnn Try.f33 [.agg [.raw (.int .i64 a0E), .raw (.int .i64 a0P)], .raw (.int .i64 a1)] [] (ends [] ⟨some (.raw (.bool (ref04Number a0E a0P a1))), []⟩) = ((match (ref04Check a0E a0P) with | true => (match (decide (a1 ≥ (1 : Int))) with | true => ((ref04Number a0E a0P a1 = (decide (a1 ≤ (1099511627776 : Int)))) ∧ True) ∧ True | false => ((ref04Number a0E a0P a1 = (false)) ∧ True) ∧ True) | false => ((ref04Number a0E a0P a1 = (false)) ∧ True) ∧ True)) := by kernel_rfl
theorem ref04NumberOk : ConOk R Try.prog 33 ref04NumberCon := con_of_fn R X6 (TabOk.con R X6Ok) mixed Try.call33 Try.func33 ref04NumberCon (by
  intro args cs K h
  unfold ref04NumberCon at h
  split at h
  · rename_i a0E a0P a1
    refine ⟨noAnn, _, fun v S hv => ⟨_, h, hv⟩, ?_⟩
    rw [ref04NumberVc a0E a0P a1]
    unfold ref04Number
    cases (ref04Check a0E a0P)
    ·
      exact ⟨⟨rfl, trivial⟩, trivial⟩
    ·
      cases (decide (a1 ≥ (1 : Int)))
      ·
        exact ⟨⟨rfl, trivial⟩, trivial⟩
      ·
        exact ⟨⟨rfl, trivial⟩, trivial⟩
  · exact h.elim)
/-! ### regatta/exact.Floor -/
def exactFloorC0 (a0 : Int) (a1 : Int) : Int := (match (exactBy a1 != (0 : Int)) with | true => ((0 : Int)) | false => (match (a1 != (0 : Int)) with | true => (match (decide (IntKind.i64.wrap (IntKind.i64.wrap (a0.tdiv a1) * a1) > a0)) with | true => (IntKind.i64.wrap (IntKind.i64.wrap (a0.tdiv a1) - (1 : Int))) | false => (IntKind.i64.wrap (a0.tdiv a1))) | false => 0))
def exactFloorC1 (a0 : Int) (a1 : Int) : Int := (match (exactBy a1 != (0 : Int)) with | true => (exactBy a1) | false => (match (a1 != (0 : Int)) with | true => (match (decide (IntKind.i64.wrap (IntKind.i64.wrap (a0.tdiv a1) * a1) > a0)) with | true => ((0 : Int)) | false => ((0 : Int))) | false => 0))
def exactFloorPre (a0 : Int) (a1 : Int) : Bool := (match (exactBy a1 != (0 : Int)) with | true => true | false => (match (a1 != (0 : Int)) with | true => (match (decide (IntKind.i64.wrap (IntKind.i64.wrap (a0.tdiv a1) * a1) > a0)) with | true => true | false => true) | false => false))
noncomputable def exactFloorCon : Con T O := fun args cs => match args, cs with
  | [.raw (.int .i64 a0), .raw (.int .i64 a1)], [] => chk (exactFloorPre a0 a1) (retv (.tup [.raw (.int .i64 (exactFloorC0 a0 a1)), .raw (.int .i64 (exactFloorC1 a0 a1))]))
  | _, _ => .fail
theorem exactFloorVc (a0 : Int) (a1 : Int) : fnX X6 noAnn Try.f56 [.raw (.int .i64 a0), .raw (.int .i64 a1)] [] (ends [] ⟨some (.tup [.raw (.int .i64 (exactFloorC0 a0 a1)), .raw (.int .i64 (exactFloorC1 a0 a1))]), []⟩) = ((match (exactBy a1 != (0 : Int)) with | true => ((((exactFloorC0 a0 a1 = ((0 : Int))) ∧ ((exactFloorC1 a0 a1 = (exactBy a1)) ∧ True))) ∧ True) ∧ True | false => (match (a1 != (0 : Int)) with | true => (match (decide (IntKind.i64.wrap (IntKind.i64.wrap (a0.tdiv a1) * a1) > a0)) with | true => ((((exactFloorC0 a0 a1 = (IntKind.i64.wrap (IntKind.i64.wrap (a0.tdiv a1) - (1 : Int)))) ∧ ((exactFloorC1 a0 a1 = ((0 : Int))) ∧ True))) ∧ True) ∧ True | false => ((((exactFloorC0 a0 a1 = (IntKind.i64.wrap (a0.tdiv a1))) ∧ ((exactFloorC1 a0 a1 = ((0 : Int))) ∧ True))) ∧ True) ∧ True) | false => False))) := by kernel_rfl
theorem exactFloorOk : ConOk R Try.prog 56 exactFloorCon := con_of_fn R X6 (TabOk.con R X6Ok) mixed Try.call56 Try.func56 exactFloorCon (by
  intro args cs K h
  unfold exactFloorCon at h
  split at h
  · rename_i a0 a1
    rw [Tree.holds_chk] at h
    obtain ⟨hp, h⟩ := h
    refine ⟨noAnn, _, fun v S hv => ⟨_, h, hv⟩, ?_⟩
    rw [exactFloorVc a0 a1]
    revert hp
    unfold exactFloorC0 exactFloorC1 exactFloorPre
    cases (exactBy a1 != (0 : Int))
    ·
      cases (a1 != (0 : Int))
      ·
        intro hp; cases hp
      ·
        cases (decide (IntKind.i64.wrap (IntKind.i64.wrap (a0.tdiv a1) * a1) > a0))
        ·
          intro _; exact ⟨⟨⟨rfl, ⟨rfl, trivial⟩⟩, trivial⟩, trivial⟩
        ·
          intro _; exact ⟨⟨⟨rfl, ⟨rfl, trivial⟩⟩, trivial⟩, trivial⟩
    ·
      intro _; exact ⟨⟨⟨rfl, ⟨rfl, trivial⟩⟩, trivial⟩, trivial⟩
  · exact h.elim)
/-! ### regatta/exact.Ceil -/
def exactCeilC0 (a0 : Int) (a1 : Int) : Int := (match (exactBy a1 != (0 : Int)) with | true => ((0 : Int)) | false => (match (a1 != (0 : Int)) with | true => (match (decide (IntKind.i64.wrap (IntKind.i64.wrap (a0.tdiv a1) * a1) < a0)) with | true => (IntKind.i64.wrap (IntKind.i64.wrap (a0.tdiv a1) + (1 : Int))) | false => (IntKind.i64.wrap (a0.tdiv a1))) | false => 0))
def exactCeilC1 (a0 : Int) (a1 : Int) : Int := (match (exactBy a1 != (0 : Int)) with | true => (exactBy a1) | false => (match (a1 != (0 : Int)) with | true => (match (decide (IntKind.i64.wrap (IntKind.i64.wrap (a0.tdiv a1) * a1) < a0)) with | true => ((0 : Int)) | false => ((0 : Int))) | false => 0))
def exactCeilPre (a0 : Int) (a1 : Int) : Bool := (match (exactBy a1 != (0 : Int)) with | true => true | false => (match (a1 != (0 : Int)) with | true => (match (decide (IntKind.i64.wrap (IntKind.i64.wrap (a0.tdiv a1) * a1) < a0)) with | true => true | false => true) | false => false))
noncomputable def exactCeilCon : Con T O := fun args cs => match args, cs with
  | [.raw (.int .i64 a0), .raw (.int .i64 a1)], [] => chk (exactCeilPre a0 a1) (retv (.tup [.raw (.int .i64 (exactCeilC0 a0 a1)), .raw (.int .i64 (exactCeilC1 a0 a1))]))
  | _, _ => .fail
theorem exactCeilVc (a0 : Int) (a1 : Int) : fnX X6 noAnn Try.f57 [.raw (.int .i64 a0), .raw (.int .i64 a1)] [] (ends [] ⟨some (.tup [.raw (.int .i64 (exactCeilC0 a0 a1)), .raw (.int .i64 (exactCeilC1 a0 a1))]), []⟩) = ((match (exactBy a1 != (0 : Int)) with | true => ((((exactCeilC0 a0 a1 = ((0 : Int))) ∧ ((exactCeilC1 a0 a1 = (exactBy a1)) ∧ True))) ∧ True) ∧ True | false => (match (a1 != (0 : Int)) with | true => (match (decide (IntKind.i64.wrap (IntKind.i64.wrap (a0.tdiv a1) * a1) < a0)) with | true => ((((exactCeilC0 a0 a1 = (IntKind.i64.wrap (IntKind.i64.wrap (a0.tdiv a1) + (1 : Int)))) ∧ ((exactCeilC1 a0 a1 = ((0 : Int))) ∧ True))) ∧ True) ∧ True | false => ((((exactCeilC0 a0 a1 = (IntKind.i64.wrap (a0.tdiv a1))) ∧ ((exactCeilC1 a0 a1 = ((0 : Int))) ∧ True))) ∧ True) ∧ True) | false => False))) := by kernel_rfl
theorem exactCeilOk : ConOk R Try.prog 57 exactCeilCon := con_of_fn R X6 (TabOk.con R X6Ok) mixed Try.call57 Try.func57 exactCeilCon (by
  intro args cs K h
  unfold exactCeilCon at h
  split at h
  · rename_i a0 a1
    rw [Tree.holds_chk] at h
    obtain ⟨hp, h⟩ := h
    refine ⟨noAnn, _, fun v S hv => ⟨_, h, hv⟩, ?_⟩
    rw [exactCeilVc a0 a1]
    revert hp
    unfold exactCeilC0 exactCeilC1 exactCeilPre
    cases (exactBy a1 != (0 : Int))
    ·
      cases (a1 != (0 : Int))
      ·
        intro hp; cases hp
      ·
        cases (decide (IntKind.i64.wrap (IntKind.i64.wrap (a0.tdiv a1) * a1) < a0))
        ·
          intro _; exact ⟨⟨⟨rfl, ⟨rfl, trivial⟩⟩, trivial⟩, trivial⟩
        ·
          intro _; exact ⟨⟨⟨rfl, ⟨rfl, trivial⟩⟩, trivial⟩, trivial⟩
    ·
      intro _; exact ⟨⟨⟨rfl, ⟨rfl, trivial⟩⟩, trivial⟩, trivial⟩
  · exact h.elim)
/-! ### (regatta/window.share).has -/
def windowShareHas (a0WeightE : Int) (a0WeightP : Int) (a1 : Int) : Bool := (match (windowCheck a0WeightE a0WeightP) with | true => (match (decide (a1 ≥ (1 : Int))) with | true => (decide (a1 ≤ (1099511627776 : Int))) | false => (false)) | false => (false))
noncomputable def windowShareHasCon : Con T O := fun args cs => match args, cs with
  | [.agg [.raw (.int .i64 a0WeightE), .raw (.int .i64 a0WeightP)], .raw (.int .i64 a1)], [] => retv (.raw (.bool (windowShareHas a0WeightE a0WeightP a1)))
  | _, _ => .fail
theorem windowShareHasVc (a0WeightE : Int) (a0WeightP : Int) (a1 : Int) : fnX X6 noAnn Try.f49 [.agg [.raw (.int .i64 a0WeightE), .raw (.int .i64 a0WeightP)], .raw (.int .i64 a1)] [] (ends [] ⟨some (.raw (.bool (windowShareHas a0WeightE a0WeightP a1))), []⟩) = ((match (windowCheck a0WeightE a0WeightP) with | true => (match (decide (a1 ≥ (1 : Int))) with | true => ((windowShareHas a0WeightE a0WeightP a1 = (decide (a1 ≤ (1099511627776 : Int)))) ∧ True) ∧ True | false => ((windowShareHas a0WeightE a0WeightP a1 = (false)) ∧ True) ∧ True) | false => ((windowShareHas a0WeightE a0WeightP a1 = (false)) ∧ True) ∧ True)) := by kernel_rfl
theorem windowShareHasOk : ConOk R Try.prog 49 windowShareHasCon := con_of_fn R X6 (TabOk.con R X6Ok) mixed Try.call49 Try.func49 windowShareHasCon (by
  intro args cs K h
  unfold windowShareHasCon at h
  split at h
  · rename_i a0WeightE a0WeightP a1
    refine ⟨noAnn, _, fun v S hv => ⟨_, h, hv⟩, ?_⟩
    rw [windowShareHasVc a0WeightE a0WeightP a1]
    unfold windowShareHas
    cases (windowCheck a0WeightE a0WeightP)
    ·
      exact ⟨⟨rfl, trivial⟩, trivial⟩
    ·
      cases (decide (a1 ≥ (1 : Int)))
      ·
        exact ⟨⟨rfl, trivial⟩, trivial⟩
      ·
        exact ⟨⟨rfl, trivial⟩, trivial⟩
  · exact h.elim)
/-! ### (regatta/window.share).bit -/
def windowShareBit (a0WeightE : Int) (a0WeightP : Int) (a1 : Int) : Int := (match (a0WeightE != (0 : Int)) with | true => (match ((IntKind.i64.wrap (a1 * a0WeightP)).tmod a0WeightE == (0 : Int)) with | true => ((0 : Int)) | false => ((1 : Int))) | false => 0)
def windowShareBitPre (a0WeightE : Int) (a0WeightP : Int) (a1 : Int) : Bool := (match (a0WeightE != (0 : Int)) with | true => (match ((IntKind.i64.wrap (a1 * a0WeightP)).tmod a0WeightE == (0 : Int)) with | true => true | false => true) | false => false)
noncomputable def windowShareBitCon : Con T O := fun args cs => match args, cs with
  | [.agg [.raw (.int .i64 a0WeightE), .raw (.int .i64 a0WeightP)], .raw (.int .i64 a1)], [] => chk (windowShareBitPre a0WeightE a0WeightP a1) (retv (.raw (.int .i64 (windowShareBit a0WeightE a0WeightP a1))))
  | _, _ => .fail
theorem windowShareBitVc (a0WeightE : Int) (a0WeightP : Int) (a1 : Int) : fnX X6 noAnn Try.f52 [.agg [.raw (.int .i64 a0WeightE), .raw (.int .i64 a0WeightP)], .raw (.int .i64 a1)] [] (ends [] ⟨some (.raw (.int .i64 (windowShareBit a0WeightE a0WeightP a1))), []⟩) = ((match (a0WeightE != (0 : Int)) with | true => (match ((IntKind.i64.wrap (a1 * a0WeightP)).tmod a0WeightE == (0 : Int)) with | true => ((windowShareBit a0WeightE a0WeightP a1 = ((0 : Int))) ∧ True) ∧ True | false => ((windowShareBit a0WeightE a0WeightP a1 = ((1 : Int))) ∧ True) ∧ True) | false => False)) := by kernel_rfl
theorem windowShareBitOk : ConOk R Try.prog 52 windowShareBitCon := con_of_fn R X6 (TabOk.con R X6Ok) mixed Try.call52 Try.func52 windowShareBitCon (by
  intro args cs K h
  unfold windowShareBitCon at h
  split at h
  · rename_i a0WeightE a0WeightP a1
    rw [Tree.holds_chk] at h
    obtain ⟨hp, h⟩ := h
    refine ⟨noAnn, _, fun v S hv => ⟨_, h, hv⟩, ?_⟩
    rw [windowShareBitVc a0WeightE a0WeightP a1]
    revert hp
    unfold windowShareBit windowShareBitPre
    cases (a0WeightE != (0 : Int))
    ·
      intro hp; cases hp
    ·
      cases ((IntKind.i64.wrap (a1 * a0WeightP)).tmod a0WeightE == (0 : Int))
      ·
        intro _; exact ⟨⟨rfl, trivial⟩, trivial⟩
      ·
        intro _; exact ⟨⟨rfl, trivial⟩, trivial⟩
  · exact h.elim)
/-! ### regatta/regattaref09.right -/
def ref09Right (a0E : Int) (a0P : Int) (a1 : Int) (a2 : Int) : Bool := (match (ref04Check a0E a0P) with | true => (match (decide (a1 ≥ (0 : Int))) with | true => (match (decide (a1 ≤ (1099511627776 : Int))) with | true => (match (decide (a2 ≥ (0 : Int))) with | true => (decide (a2 ≤ (1099511627776 : Int))) | false => (false)) | false => (false)) | false => (false)) | false => (false))
noncomputable def ref09RightCon : Con T O := fun args cs => match args, cs with
  | [.agg [.raw (.int .i64 a0E), .raw (.int .i64 a0P)], .raw (.int .i64 a1), .raw (.int .i64 a2)], [] => retv (.raw (.bool (ref09Right a0E a0P a1 a2)))
  | _, _ => .fail
theorem ref09RightVc (a0E : Int) (a0P : Int) (a1 : Int) (a2 : Int) : fnX X6 noAnn Try.f48 [.agg [.raw (.int .i64 a0E), .raw (.int .i64 a0P)], .raw (.int .i64 a1), .raw (.int .i64 a2)] [] (ends [] ⟨some (.raw (.bool (ref09Right a0E a0P a1 a2))), []⟩) = ((match (ref04Check a0E a0P) with | true => (match (decide (a1 ≥ (0 : Int))) with | true => (match (decide (a1 ≤ (1099511627776 : Int))) with | true => (match (decide (a2 ≥ (0 : Int))) with | true => ((ref09Right a0E a0P a1 a2 = (decide (a2 ≤ (1099511627776 : Int)))) ∧ True) ∧ True | false => ((ref09Right a0E a0P a1 a2 = (false)) ∧ True) ∧ True) | false => ((ref09Right a0E a0P a1 a2 = (false)) ∧ True) ∧ True) | false => ((ref09Right a0E a0P a1 a2 = (false)) ∧ True) ∧ True) | false => ((ref09Right a0E a0P a1 a2 = (false)) ∧ True) ∧ True)) := by kernel_rfl
theorem ref09RightOk : ConOk R Try.prog 48 ref09RightCon := con_of_fn R X6 (TabOk.con R X6Ok) mixed Try.call48 Try.func48 ref09RightCon (by
  intro args cs K h
  unfold ref09RightCon at h
  split at h
  · rename_i a0E a0P a1 a2
    refine ⟨noAnn, _, fun v S hv => ⟨_, h, hv⟩, ?_⟩
    rw [ref09RightVc a0E a0P a1 a2]
    unfold ref09Right
    cases (ref04Check a0E a0P)
    ·
      exact ⟨⟨rfl, trivial⟩, trivial⟩
    ·
      cases (decide (a1 ≥ (0 : Int)))
      ·
        exact ⟨⟨rfl, trivial⟩, trivial⟩
      ·
        cases (decide (a1 ≤ (1099511627776 : Int)))
        ·
          exact ⟨⟨rfl, trivial⟩, trivial⟩
        ·
          cases (decide (a2 ≥ (0 : Int)))
          ·
            exact ⟨⟨rfl, trivial⟩, trivial⟩
          ·
            exact ⟨⟨rfl, trivial⟩, trivial⟩
  · exact h.elim)
noncomputable def tab7 : Tab T O := (44, ref04HeavyCon) :: (33, ref04NumberCon) :: (56, exactFloorCon) :: (57, exactCeilCon) :: (49, windowShareHasCon) :: (52, windowShareBitCon) :: (48, ref09RightCon) :: tab6
theorem tabOk7 : TabOk R Try.prog tab7 := TabOk.cons R ref04HeavyOk <| TabOk.cons R ref04NumberOk <| TabOk.cons R exactFloorOk <| TabOk.cons R exactCeilOk <| TabOk.cons R windowShareHasOk <| TabOk.cons R windowShareBitOk <| TabOk.cons R ref09RightOk <| tabOk6
noncomputable def X7 : Ctx T O := { X0 with con := conOf tab7 }
theorem X7Ok : TabOk R X7.P tab7 := tabOk7
end Go.Proofs.Ytkcnocigkblbiaa
