/-
  Part of a proof over the seat Ythihpebdcamilaa: printed by a small program or typed by hand.
-/
import Derived.Test.YthihpebdcamilaaPlayBase
import Derived.KernelRfl
namespace Go.Proofs.Ythihpebdcamilaa
open Go.Sx Go.Proofs Classical
/-! ### cmp.isNaN[int64] -/
def nanL (a0 : Int) : Bool := (a0 != a0)
noncomputable def nanLCon : Con T O := fun args cs => match args, cs with
  | [.raw (.int .i64 a0)], [] => retv (.raw (.bool (nanL a0)))
  | _, _ => .fail
theorem nanLVc (a0 : Int) : fnX X0 noAnn Try.f41 [.raw (.int .i64 a0)] [] (ends [] ⟨some (.raw (.bool (nanL a0))), []⟩) = (((nanL a0 = (a0 != a0)) ∧ True) ∧ True) := by kernel_rfl
theorem nanLOk : ConOk R Try.prog 41 nanLCon := con_of_fn R X0 (TabOk.con R X0Ok) mixed Try.call41 Try.func41 nanLCon (by
  intro args cs K h
  unfold nanLCon at h
  split at h
  · rename_i a0
    refine ⟨noAnn, _, fun v S hv => ⟨_, h, hv⟩, ?_⟩
    rw [nanLVc a0]
    unfold nanL
    exact ⟨⟨rfl, trivial⟩, trivial⟩
  · exact h.elim)
/-! ### cmp.isNaN[int] -/
def nanI (a0 : Int) : Bool := (a0 != a0)
noncomputable def nanICon : Con T O := fun args cs => match args, cs with
  | [.raw (.int .i64 a0)], [] => retv (.raw (.bool (nanI a0)))
  | _, _ => .fail
theorem nanIVc (a0 : Int) : fnX X0 noAnn Try.f42 [.raw (.int .i64 a0)] [] (ends [] ⟨some (.raw (.bool (nanI a0))), []⟩) = (((nanI a0 = (a0 != a0)) ∧ True) ∧ True) := by kernel_rfl
theorem nanIOk : ConOk R Try.prog 42 nanICon := con_of_fn R X0 (TabOk.con R X0Ok) mixed Try.call42 Try.func42 nanICon (by
  intro args cs K h
  unfold nanICon at h
  split at h
  · rename_i a0
    refine ⟨noAnn, _, fun v S hv => ⟨_, h, hv⟩, ?_⟩
    rw [nanIVc a0]
    unfold nanI
    exact ⟨⟨rfl, trivial⟩, trivial⟩
  · exact h.elim)
/-! ### regatta/calendar.right -/
def calendarRight (a0 : Int) (a1 : Int) : Bool := (match (decide (a0 ≥ (0 : Int))) with | true => (match (decide (a0 ≤ (1023 : Int))) with | true => (match (decide (a1 ≥ (0 : Int))) with | true => (decide (a1 ≤ (7 : Int))) | false => (false)) | false => (false)) | false => (false))
noncomputable def calendarRightCon : Con T O := fun args cs => match args, cs with
  | [.raw (.int .i64 a0), .raw (.int .i64 a1)], [] => retv (.raw (.bool (calendarRight a0 a1)))
  | _, _ => .fail
theorem calendarRightVc (a0 : Int) (a1 : Int) : fnX X0 noAnn Try.f26 [.raw (.int .i64 a0), .raw (.int .i64 a1)] [] (ends [] ⟨some (.raw (.bool (calendarRight a0 a1))), []⟩) = ((match (decide (a0 ≥ (0 : Int))) with | true => (match (decide (a0 ≤ (1023 : Int))) with | true => (match (decide (a1 ≥ (0 : Int))) with | true => ((calendarRight a0 a1 = (decide (a1 ≤ (7 : Int)))) ∧ True) ∧ True | false => ((calendarRight a0 a1 = (false)) ∧ True) ∧ True) | false => ((calendarRight a0 a1 = (false)) ∧ True) ∧ True) | false => ((calendarRight a0 a1 = (false)) ∧ True) ∧ True)) := by kernel_rfl
theorem calendarRightOk : ConOk R Try.prog 26 calendarRightCon := con_of_fn R X0 (TabOk.con R X0Ok) mixed Try.call26 Try.func26 calendarRightCon (by
  intro args cs K h
  unfold calendarRightCon at h
  split at h
  · rename_i a0 a1
    refine ⟨noAnn, _, fun v S hv => ⟨_, h, hv⟩, ?_⟩
    rw [calendarRightVc a0 a1]
    unfold calendarRight
    cases (decide (a0 ≥ (0 : Int)))
    ·
      exact ⟨⟨rfl, trivial⟩, trivial⟩
    ·
      cases (decide (a0 ≤ (1023 : Int)))
      ·
        exact ⟨⟨rfl, trivial⟩, trivial⟩
      ·
        cases (decide (a1 ≥ (0 : Int)))
        ·
          exact ⟨⟨rfl, trivial⟩, trivial⟩
        ·
          exact ⟨⟨rfl, trivial⟩, trivial⟩
  · exact h.elim)
/-! ### regatta/calendar.number -/
def calendarNumber (a0 : Int) (a1 : Int) : Int := (IntKind.i64.wrap (IntKind.i64.wrap (a0 * (8 : Int)) + a1))
noncomputable def calendarNumberCon : Con T O := fun args cs => match args, cs with
  | [.raw (.int .i64 a0), .raw (.int .i64 a1)], [] => retv (.raw (.int .i64 (calendarNumber a0 a1)))
  | _, _ => .fail
theorem calendarNumberVc (a0 : Int) (a1 : Int) : fnX X0 noAnn Try.f28 [.raw (.int .i64 a0), .raw (.int .i64 a1)] [] (ends [] ⟨some (.raw (.int .i64 (calendarNumber a0 a1))), []⟩) = (((calendarNumber a0 a1 = (IntKind.i64.wrap (IntKind.i64.wrap (a0 * (8 : Int)) + a1))) ∧ True) ∧ True) := by kernel_rfl
theorem calendarNumberOk : ConOk R Try.prog 28 calendarNumberCon := con_of_fn R X0 (TabOk.con R X0Ok) mixed Try.call28 Try.func28 calendarNumberCon (by
  intro args cs K h
  unfold calendarNumberCon at h
  split at h
  · rename_i a0 a1
    refine ⟨noAnn, _, fun v S hv => ⟨_, h, hv⟩, ?_⟩
    rw [calendarNumberVc a0 a1]
    unfold calendarNumber
    exact ⟨⟨rfl, trivial⟩, trivial⟩
  · exact h.elim)
/-! ### (regatta/regattalaw08.Op).event -/
def law08OpEventC0 (a0 : Op) : Int := (match (a0.Near) with | true => (bits BinOp.and IntKind.i64 a0.EventAt (15 : Int)) | false => (a0.EventAt))
def law08OpEventC1 (a0 : Op) : Int := (match (a0.Near) with | true => (bits BinOp.and IntKind.i64 a0.EventID (7 : Int)) | false => (a0.EventID))
def law08OpEventC2 (a0 : Op) : Int := (match (a0.Near) with | true => (bits BinOp.and IntKind.i64 a0.EventKind (3 : Int)) | false => (a0.EventKind))
noncomputable def law08OpEventCon : Con T O := fun args cs => match args, cs with
  | [.agg [.raw (.int .i64 a0_0), .raw (.bool a0_1), .raw (.int .i64 a0_2), .raw (.int .i64 a0_3), .raw (.int .i64 a0_4)]], [] => retv (.agg [.raw (.int .i64 (law08OpEventC0 (⟨a0_0, a0_1, a0_2, a0_3, a0_4⟩ : Op))), .raw (.int .i64 (law08OpEventC1 (⟨a0_0, a0_1, a0_2, a0_3, a0_4⟩ : Op))), .raw (.int .i64 (law08OpEventC2 (⟨a0_0, a0_1, a0_2, a0_3, a0_4⟩ : Op)))])
  | _, _ => .fail
theorem law08OpEventVc (a0 : Op) : fnX X0 noAnn Try.f10 [.agg [.raw (.int .i64 a0.Kind), .raw (.bool a0.Near), .raw (.int .i64 a0.EventAt), .raw (.int .i64 a0.EventID), .raw (.int .i64 a0.EventKind)]] [] (ends [] ⟨some (.agg [.raw (.int .i64 (law08OpEventC0 a0)), .raw (.int .i64 (law08OpEventC1 a0)), .raw (.int .i64 (law08OpEventC2 a0))]), []⟩) = ((match (a0.Near) with | true => ((((law08OpEventC0 a0 = (bits BinOp.and IntKind.i64 a0.EventAt (15 : Int))) ∧ ((law08OpEventC1 a0 = (bits BinOp.and IntKind.i64 a0.EventID (7 : Int))) ∧ ((law08OpEventC2 a0 = (bits BinOp.and IntKind.i64 a0.EventKind (3 : Int))) ∧ True)))) ∧ True) ∧ True | false => ((((law08OpEventC0 a0 = (a0.EventAt)) ∧ ((law08OpEventC1 a0 = (a0.EventID)) ∧ ((law08OpEventC2 a0 = (a0.EventKind)) ∧ True)))) ∧ True) ∧ True)) := by kernel_rfl
theorem law08OpEventOk : ConOk R Try.prog 10 law08OpEventCon := con_of_fn R X0 (TabOk.con R X0Ok) mixed Try.call10 Try.func10 law08OpEventCon (by
  intro args cs K h
  unfold law08OpEventCon at h
  split at h
  · rename_i a0_0 a0_1 a0_2 a0_3 a0_4
    refine ⟨noAnn, _, fun v S hv => ⟨_, h, hv⟩, ?_⟩
    rw [law08OpEventVc (⟨a0_0, a0_1, a0_2, a0_3, a0_4⟩ : Op)]
    unfold law08OpEventC0 law08OpEventC1 law08OpEventC2
    cases ((⟨a0_0, a0_1, a0_2, a0_3, a0_4⟩ : Op).Near)
    ·
      exact ⟨⟨⟨rfl, ⟨rfl, ⟨rfl, trivial⟩⟩⟩, trivial⟩, trivial⟩
    ·
      exact ⟨⟨⟨rfl, ⟨rfl, ⟨rfl, trivial⟩⟩⟩, trivial⟩, trivial⟩
  · exact h.elim)
/-! ### regatta/regattaref08.before -/
def ref08Before (a0 : Ev) (a1 : Ev) : Bool := (match (a0.At != a1.At) with | true => (decide (a0.At < a1.At)) | false => (match (a0.Kind != a1.Kind) with | true => (decide (a0.Kind < a1.Kind)) | false => (decide (a0.ID < a1.ID))))
noncomputable def ref08BeforeCon : Con T O := fun args cs => match args, cs with
  | [.agg [.raw (.int .i64 a0_0), .raw (.int .i64 a0_1), .raw (.int .i64 a0_2)], .agg [.raw (.int .i64 a1_0), .raw (.int .i64 a1_1), .raw (.int .i64 a1_2)]], [] => retv (.raw (.bool (ref08Before (⟨a0_0, a0_1, a0_2⟩ : Ev) (⟨a1_0, a1_1, a1_2⟩ : Ev))))
  | _, _ => .fail
theorem ref08BeforeVc (a0 : Ev) (a1 : Ev) : fnX X0 noAnn Try.f34 [.agg [.raw (.int .i64 a0.At), .raw (.int .i64 a0.ID), .raw (.int .i64 a0.Kind)], .agg [.raw (.int .i64 a1.At), .raw (.int .i64 a1.ID), .raw (.int .i64 a1.Kind)]] [] (ends [] ⟨some (.raw (.bool (ref08Before a0 a1))), []⟩) = ((match (a0.At != a1.At) with | true => ((ref08Before a0 a1 = (decide (a0.At < a1.At))) ∧ True) ∧ True | false => (match (a0.Kind != a1.Kind) with | true => ((ref08Before a0 a1 = (decide (a0.Kind < a1.Kind))) ∧ True) ∧ True | false => ((ref08Before a0 a1 = (decide (a0.ID < a1.ID))) ∧ True) ∧ True))) := by kernel_rfl
theorem ref08BeforeOk : ConOk R Try.prog 34 ref08BeforeCon := con_of_fn R X0 (TabOk.con R X0Ok) mixed Try.call34 Try.func34 ref08BeforeCon (by
  intro args cs K h
  unfold ref08BeforeCon at h
  split at h
  · rename_i a0_0 a0_1 a0_2 a1_0 a1_1 a1_2
    refine ⟨noAnn, _, fun v S hv => ⟨_, h, hv⟩, ?_⟩
    rw [ref08BeforeVc (⟨a0_0, a0_1, a0_2⟩ : Ev) (⟨a1_0, a1_1, a1_2⟩ : Ev)]
    unfold ref08Before
    cases ((⟨a0_0, a0_1, a0_2⟩ : Ev).At != (⟨a1_0, a1_1, a1_2⟩ : Ev).At)
    ·
      cases ((⟨a0_0, a0_1, a0_2⟩ : Ev).Kind != (⟨a1_0, a1_1, a1_2⟩ : Ev).Kind)
      ·
        exact ⟨⟨rfl, trivial⟩, trivial⟩
      ·
        exact ⟨⟨rfl, trivial⟩, trivial⟩
    ·
      exact ⟨⟨rfl, trivial⟩, trivial⟩
  · exact h.elim)
noncomputable def tab1 : Tab T O := (41, nanLCon) :: (42, nanICon) :: (26, calendarRightCon) :: (28, calendarNumberCon) :: (10, law08OpEventCon) :: (34, ref08BeforeCon) :: tab0
theorem tabOk1 : TabOk R Try.prog tab1 := TabOk.cons R nanLOk <| TabOk.cons R nanIOk <| TabOk.cons R calendarRightOk <| TabOk.cons R calendarNumberOk <| TabOk.cons R law08OpEventOk <| TabOk.cons R ref08BeforeOk <| tabOk0
noncomputable def X1 : Ctx T O := { X0 with con := conOf tab1 }
theorem X1Ok : TabOk R X1.P tab1 := tabOk1
end Go.Proofs.Ythihpebdcamilaa
