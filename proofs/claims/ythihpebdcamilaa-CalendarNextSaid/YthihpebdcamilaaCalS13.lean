/-
  Part of a proof over the seat Ythihpebdcamilaa: printed by a small program or typed by hand.
-/
import Derived.Test.YthihpebdcamilaaCalS12
import Derived.KernelRfl
namespace Go.Proofs.Ythihpebdcamilaa
open Go.Sx Go.Proofs Classical
/-! ### regatta/regattalaw08.CalendarNil -/
def law08CalendarNilText (e : Ev) : Prop := (match (decide (e.ID ≥ (0 : Int))) with | true => (match (decide (e.ID < (1024 : Int))) with | true => (match (decide (e.Kind ≥ (0 : Int))) with | true => (match (decide (e.Kind < (8 : Int))) with | true => (match (calendarRight e.ID e.Kind && decide ((0 : Int) ≤ e.At) && !thereB (calendarNumber e.ID e.Kind) noPlaces) with | true => (match (((0 : Int) == (0 : Int)) == decide (e.At ≥ (0 : Int))) with | true => (match (decide (e.At ≥ (0 : Int))) with | true => (((true = true) ∧ True) ∧ True) | false => (((true = ((0 : Int) == (1 : Int))) ∧ True) ∧ True)) | false => (((true = false) ∧ True) ∧ True)) | false => (match (((bif calendarRight e.ID e.Kind && decide ((0 : Int) ≤ e.At) then (14 : Int) else (1 : Int)) == (0 : Int)) == decide (e.At ≥ (0 : Int))) with | true => (match (decide (e.At ≥ (0 : Int))) with | true => (((true = true) ∧ True) ∧ True) | false => (((true = ((bif calendarRight e.ID e.Kind && decide ((0 : Int) ≤ e.At) then (14 : Int) else (1 : Int)) == (1 : Int))) ∧ True) ∧ True)) | false => (((true = false) ∧ True) ∧ True))) | false => (match (calendarRight e.ID e.Kind && decide ((0 : Int) ≤ e.At) && !thereB (calendarNumber e.ID e.Kind) noPlaces) with | true => (((true = false) ∧ True) ∧ True) | false => (match (((bif calendarRight e.ID e.Kind && decide ((0 : Int) ≤ e.At) then (14 : Int) else (1 : Int)) == (0 : Int)) == false) with | true => (((true = ((bif calendarRight e.ID e.Kind && decide ((0 : Int) ≤ e.At) then (14 : Int) else (1 : Int)) == (1 : Int))) ∧ True) ∧ True) | false => (((true = false) ∧ True) ∧ True)))) | false => (match (calendarRight e.ID e.Kind && decide ((0 : Int) ≤ e.At) && !thereB (calendarNumber e.ID e.Kind) noPlaces) with | true => (((true = false) ∧ True) ∧ True) | false => (match (((bif calendarRight e.ID e.Kind && decide ((0 : Int) ≤ e.At) then (14 : Int) else (1 : Int)) == (0 : Int)) == false) with | true => (((true = ((bif calendarRight e.ID e.Kind && decide ((0 : Int) ≤ e.At) then (14 : Int) else (1 : Int)) == (1 : Int))) ∧ True) ∧ True) | false => (((true = false) ∧ True) ∧ True)))) | false => (match (calendarRight e.ID e.Kind && decide ((0 : Int) ≤ e.At) && !thereB (calendarNumber e.ID e.Kind) noPlaces) with | true => (((true = false) ∧ True) ∧ True) | false => (match (((bif calendarRight e.ID e.Kind && decide ((0 : Int) ≤ e.At) then (14 : Int) else (1 : Int)) == (0 : Int)) == false) with | true => (((true = ((bif calendarRight e.ID e.Kind && decide ((0 : Int) ≤ e.At) then (14 : Int) else (1 : Int)) == (1 : Int))) ∧ True) ∧ True) | false => (((true = false) ∧ True) ∧ True)))) | false => (match (calendarRight e.ID e.Kind && decide ((0 : Int) ≤ e.At) && !thereB (calendarNumber e.ID e.Kind) noPlaces) with | true => (((true = false) ∧ True) ∧ True) | false => (match (((bif calendarRight e.ID e.Kind && decide ((0 : Int) ≤ e.At) then (14 : Int) else (1 : Int)) == (0 : Int)) == false) with | true => (((true = ((bif calendarRight e.ID e.Kind && decide ((0 : Int) ≤ e.At) then (14 : Int) else (1 : Int)) == (1 : Int))) ∧ True) ∧ True) | false => (((true = false) ∧ True) ∧ True))))
theorem law08CalendarNilVc (e : Ev) : fnX X12 (noAnn) Try.f6 [.agg [.raw (.int .i64 e.At), .raw (.int .i64 e.ID), .raw (.int .i64 e.Kind)]] [] (ends [] ⟨some (.raw (.bool true)), []⟩) = law08CalendarNilText e := by kernel_rfl
theorem law08CalendarNilHolds (e : Ev) : law08CalendarNilText e := by
  unfold law08CalendarNilText
  rw [right_iff, show thereB (calendarNumber e.ID e.Kind) noPlaces = false from rfl]
  by_cases a1 : 0 ≤ e.ID
  · by_cases a2 : e.ID < 1024
    · by_cases a3 : 0 ≤ e.Kind
      · by_cases a4 : e.Kind < 8
        · by_cases a5 : 0 ≤ e.At <;> simp [a1, a2, a3, a4, a5]
        · simp [a1, a2, a3, a4]
      · simp [a1, a2, a3]
    · simp [a1, a2]
  · simp [a1]
noncomputable def law08CalendarNilCon : Con T O := fun args cs => match args, cs with
  | [.agg [.raw (.int .i64 _), .raw (.int .i64 _), .raw (.int .i64 _)]], [] => .ret ⟨some (.raw (.bool true)), []⟩
  | _, _ => .fail
theorem law08CalendarNilOk : ConOk R Try.prog 6 law08CalendarNilCon := con_of_fn R (X12) (TabOk.con R X12Ok) mixed Try.call6 Try.func6 law08CalendarNilCon (by
  intro args cs K h
  unfold law08CalendarNilCon at h
  split at h
  · rename_i e_0 e_1 e_2
    refine ⟨noAnn, _, fun v S hv => ⟨_, h, hv⟩, ?_⟩
    rw [law08CalendarNilVc (⟨e_0, e_1, e_2⟩ : Ev)]
    exact law08CalendarNilHolds (⟨e_0, e_1, e_2⟩ : Ev)
  · exact h.elim)
noncomputable def tab13 : Tab T O := (6, law08CalendarNilCon) :: tab12
theorem tabOk13 : TabOk R Try.prog tab13 := TabOk.cons R law08CalendarNilOk <| tabOk12
noncomputable def X13 : Ctx T O := { X0 with con := conOf tab13 }
theorem X13Ok : TabOk R X13.P tab13 := tabOk13
end Go.Proofs.Ythihpebdcamilaa
