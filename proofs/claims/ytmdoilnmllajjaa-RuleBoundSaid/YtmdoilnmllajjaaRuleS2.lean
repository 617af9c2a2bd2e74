/-
  Part of a proof over the seat Ytmdoilnmllajjaa: printed by a small program or typed by hand.
-/
import Derived.Test.YtmdoilnmllajjaaRuleS1
import Derived.KernelRfl
namespace Go.Proofs.Ytmdoilnmllajjaa
open Go.Sx Go.Proofs
/-! ### regatta/window.Heavy -/
def windowHeavy (a0E : Int) (a0P : Int) : Bool := (match (Ytmdoilnmllajjaa.windowCheck a0E a0P) with | true => (decide (a0E ≥ IntKind.i64.wrap (a0P - a0E))) | false => (false))
noncomputable def windowHeavyCon : Con T O := fun args cs => match args, cs with
  | [.agg [.raw (.int .i64 a0E), .raw (.int .i64 a0P)]], [] => retv (.raw (.bool (windowHeavy a0E a0P)))
  | _, _ => .fail
theorem windowHeavyVc (a0E : Int) (a0P : Int) : fnX X1 noAnn Try.f34 [.agg [.raw (.int .i64 a0E), .raw (.int .i64 a0P)]] [] (ends [] ⟨some (.raw (.bool (windowHeavy a0E a0P))), []⟩) = ((match (Ytmdoilnmllajjaa.windowCheck a0E a0P) with | true => ((windowHeavy a0E a0P = (decide (a0E ≥ IntKind.i64.wrap (a0P - a0E)))) ∧ True) ∧ True | false => ((windowHeavy a0E a0P = (false)) ∧ True) ∧ True)) := by kernel_rfl
theorem windowHeavyOk : ConOk R Try.prog 34 windowHeavyCon := con_of_fn R X1 (TabOk.con R X1Ok) mixed Try.call34 Try.func34 windowHeavyCon (by
  intro args cs K h
  unfold windowHeavyCon at h
  split at h
  · rename_i a0E a0P
    refine ⟨noAnn, _, fun v S hv => ⟨_, h, hv⟩, ?_⟩
    rw [windowHeavyVc]
    unfold windowHeavy
    cases (Ytmdoilnmllajjaa.windowCheck a0E a0P)
    ·
      exact ⟨⟨rfl, trivial⟩, trivial⟩
    ·
      exact ⟨⟨rfl, trivial⟩, trivial⟩
  · exact h.elim)
/-! ### regatta/regattaref04.Heavy -/
def ref04Heavy (a0E : Int) (a0P : Int) : Bool := (match (Ytmdoilnmllajjaa.ref04Check a0E a0P) with | true => (decide (IntKind.i64.wrap (2 * a0E) ≥ a0P)) | false => (false))
noncomputable def ref04HeavyCon : Con T O := fun args cs => match args, cs with
  | [.agg [.raw (.int .i64 a0E), .raw (.int .i64 a0P)]], [] => retv (.raw (.bool (ref04Heavy a0E a0P)))
  | _, _ => .fail
theorem ref04HeavyVc (a0E : Int) (a0P : Int) : fnX X1 noAnn Try.f13 [.agg [.raw (.int .i64 a0E), .raw (.int .i64 a0P)]] [] (ends [] ⟨some (.raw (.bool (ref04Heavy a0E a0P))), []⟩) = ((match (Ytmdoilnmllajjaa.ref04Check a0E a0P) with | true => ((ref04Heavy a0E a0P = (decide (IntKind.i64.wrap (2 * a0E) ≥ a0P))) ∧ True) ∧ True | false => ((ref04Heavy a0E a0P = (false)) ∧ True) ∧ True)) := by kernel_rfl
theorem ref04HeavyOk : ConOk R Try.prog 13 ref04HeavyCon := con_of_fn R X1 (TabOk.con R X1Ok) mixed Try.call13 Try.func13 ref04HeavyCon (by
  intro args cs K h
  unfold ref04HeavyCon at h
  split at h
  · rename_i a0E a0P
    refine ⟨noAnn, _, fun v S hv => ⟨_, h, hv⟩, ?_⟩
    rw [ref04HeavyVc]
    unfold ref04Heavy
    cases (Ytmdoilnmllajjaa.ref04Check a0E a0P)
    ·
      exact ⟨⟨rfl, trivial⟩, trivial⟩
    ·
      exact ⟨⟨rfl, trivial⟩, trivial⟩
  · exact h.elim)
/-! ### regatta/regattaref04.number -/
def ref04Number (a0E : Int) (a0P : Int) (a1 : Int) : Bool := (match (Ytmdoilnmllajjaa.ref04Check a0E a0P) with | true => (match (decide (a1 ≥ 1)) with | true => (decide (a1 ≤ 1099511627776)) | false => (false)) | false => (false))
noncomputable def ref04NumberCon : Con T O := fun args cs => match args, cs with
  | [.agg [.raw (.int .i64 a0E), .raw (.int .i64 a0P)], .raw (.int .i64 a1)], [] => retv (.raw (.bool (ref04Number a0E a0P a1)))
  | _, _ => .fail
theorem ref04NumberVc (a0E : Int) (a0P : Int) (a1 : Int) : fnX X1 noAnn Try.f18 [.agg [.raw (.int .i64 a0E), .raw (.int .i64 a0P)], .raw (.int .i64 a1)] [] (ends [] ⟨some (.raw (.bool (ref04Number a0E a0P a1))), []⟩) = ((match (Ytmdoilnmllajjaa.ref04Check a0E a0P) with | true => (match (decide (a1 ≥ 1)) with | true => ((ref04Number a0E a0P a1 = (decide (a1 ≤ 1099511627776))) ∧ True) ∧ True | false => ((ref04Number a0E a0P a1 = (false)) ∧ True) ∧ True) | false => ((ref04Number a0E a0P a1 = (false)) ∧ True) ∧ True)) := by kernel_rfl
theorem ref04NumberOk : ConOk R Try.prog 18 ref04NumberCon := con_of_fn R X1 (TabOk.con R X1Ok) mixed Try.call18 Try.func18 ref04NumberCon (by
  intro args cs K h
  unfold ref04NumberCon at h
  split at h
  · rename_i a0E a0P a1
    refine ⟨noAnn, _, fun v S hv => ⟨_, h, hv⟩, ?_⟩
    rw [ref04NumberVc]
    unfold ref04Number
    cases (Ytmdoilnmllajjaa.ref04Check a0E a0P)
    ·
      exact ⟨⟨rfl, trivial⟩, trivial⟩
    ·
      cases (decide (a1 ≥ 1))
      ·
        exact ⟨⟨rfl, trivial⟩, trivial⟩
      ·
        exact ⟨⟨rfl, trivial⟩, trivial⟩
  · exact h.elim)
noncomputable def tab2 : Tab T O := (34, windowHeavyCon) :: (13, ref04HeavyCon) :: (18, ref04NumberCon) :: tab1
theorem tabOk2 : TabOk R Try.prog tab2 := TabOk.cons R windowHeavyOk <| TabOk.cons R ref04HeavyOk <| TabOk.cons R ref04NumberOk <| tabOk1
noncomputable def X2 : Ctx T O := { X0 with con := conOf tab2 }
theorem X2Ok : TabOk R X2.P tab2 := tabOk2
end Go.Proofs.Ytmdoilnmllajjaa
