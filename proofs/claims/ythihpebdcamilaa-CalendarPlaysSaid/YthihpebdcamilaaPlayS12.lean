/-
  Part of a proof over the seat Ythihpebdcamilaa: printed by a small program or typed by hand.
-/
import Derived.Test.YthihpebdcamilaaPlayS11
import Derived.KernelRfl
namespace Go.Proofs.Ythihpebdcamilaa
open Go.Sx Go.Proofs Classical

theorem right_iff (i k : Int) : calendarRight i k = decide (0 ≤ i ∧ i < 1024 ∧ 0 ≤ k ∧ k < 8) := by
  unfold calendarRight
  by_cases a1 : 0 ≤ i
  · by_cases a2 : i < 1024
    · by_cases a3 : 0 ≤ k
      · rw [show decide (i ≥ 0) = true from decide_eq_true a1, show decide (i ≤ 1023) = true from decide_eq_true (by omega), show decide (k ≥ 0) = true from decide_eq_true a3]
        dsimp only
        congr 1
        apply propext
        omega
      · rw [show decide (i ≥ 0) = true from decide_eq_true a1, show decide (i ≤ 1023) = true from decide_eq_true (by omega), show decide (k ≥ 0) = false from decide_eq_false a3]
        exact (decide_eq_false (by omega)).symm
    · rw [show decide (i ≥ 0) = true from decide_eq_true a1, show decide (i ≤ 1023) = false from decide_eq_false (by omega)]
      exact (decide_eq_false (by omega)).symm
  · rw [show decide (i ≥ 0) = false from decide_eq_false a1]
    exact (decide_eq_false (by omega)).symm
def walkP {T : Nat → Enc} {O : Nat → Type} (S : SS T O) : SV → List Nat → Option Nat
  | v, [] => match v.head with
    | [k] => some k
    | _ => none
  | v, i :: p => match headC S.get v with
    | some (.cells cs _) => match cs[i]? with
      | some u => walkP S u p
      | none => none
    | _ => none
def atP {T : Nat → Enc} {O : Nat → Type} (S : SS T O) (t : Nat) (p : List Nat) (c : Chunk T O) : SS T O := match getT S.tmps t with
  | some v => match walkP S v p with
    | some k => { S with heap := setK k c S.heap }
    | none => S
  | none => S

/-! ### regatta/regattalaw08.awake -/
def law08AwakeText  : Prop := (((true = ((↑(dueA (pushH (pushH (noThings, noPlaces) (calendarNumber (1 : Int) (0 : Int)) (Ev.mk (5 : Int) (1 : Int) (0 : Int))) (calendarNumber (2 : Int) (0 : Int)) (Ev.mk (3 : Int) (2 : Int) (0 : Int))) (4 : Int)).snd.fst.length : Int) == (1 : Int))) ∧ True) ∧ True)
theorem law08AwakeVc  : fnX X11 (noAnn) Try.f8 [] [] (ends [] ⟨some (.raw (.bool true)), []⟩) = law08AwakeText  := by kernel_rfl
theorem law08AwakeHolds  : law08AwakeText  := by
  unfold law08AwakeText
  exact ⟨⟨by kernel_rfl, trivial⟩, trivial⟩
noncomputable def law08AwakeCon : Con T O := fun args cs => match args, cs with
  | [], [] => .ret ⟨some (.raw (.bool true)), []⟩
  | _, _ => .fail
theorem law08AwakeOk : ConOk R Try.prog 8 law08AwakeCon := con_of_fn R (X11) (TabOk.con R X11Ok) mixed Try.call8 Try.func8 law08AwakeCon (by
  intro args cs K h
  unfold law08AwakeCon at h
  split at h
  ·
    refine ⟨noAnn, _, fun v S hv => ⟨_, h, hv⟩, ?_⟩
    rw [law08AwakeVc ]
    exact law08AwakeHolds 
  · exact h.elim)
noncomputable def tab12 : Tab T O := (8, law08AwakeCon) :: tab11
theorem tabOk12 : TabOk R Try.prog tab12 := TabOk.cons R law08AwakeOk <| tabOk11
noncomputable def X12 : Ctx T O := { X0 with con := conOf tab12 }
theorem X12Ok : TabOk R X12.P tab12 := tabOk12
end Go.Proofs.Ythihpebdcamilaa
