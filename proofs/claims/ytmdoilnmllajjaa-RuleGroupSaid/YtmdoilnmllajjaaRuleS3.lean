/-
  Part of a proof over the seat Ytmdoilnmllajjaa: printed by a small program or typed by hand.
-/
import Derived.Test.YtmdoilnmllajjaaRuleS2
import Derived.KernelRfl
namespace Go.Proofs.Ytmdoilnmllajjaa
open Go.Sx Go.Proofs
/-! ### regatta/rule.of -/
noncomputable def ruleOfCon : Con T O := fun args cs => match args, cs with
  | [.agg [.raw (.int .i64 a0E), .raw (.int .i64 a0P)]], [] => (.ite (Ytmdoilnmllajjaa.windowHeavy a0E a0P) (retv (.iface 60 (.agg []))) (retv (.iface 61 (.agg []))))
  | _, _ => .fail
theorem ruleOfVc0 (a0E : Int) (a0P : Int) : fnX X2 noAnn Try.f31 [.agg [.raw (.int .i64 a0E), .raw (.int .i64 a0P)]] [] (ends [] ⟨some (.iface 61 (.agg [])), []⟩) = (match (Ytmdoilnmllajjaa.windowHeavy a0E a0P) with | true => (False ∧ True) ∧ True | false => ((True) ∧ True) ∧ True) := by kernel_rfl
theorem ruleOfVc1 (a0E : Int) (a0P : Int) : fnX X2 noAnn Try.f31 [.agg [.raw (.int .i64 a0E), .raw (.int .i64 a0P)]] [] (ends [] ⟨some (.iface 60 (.agg [])), []⟩) = (match (Ytmdoilnmllajjaa.windowHeavy a0E a0P) with | true => ((True) ∧ True) ∧ True | false => (False ∧ True) ∧ True) := by kernel_rfl
theorem ruleOfOk : ConOk R Try.prog 31 ruleOfCon := con_of_fn R X2 (TabOk.con R X2Ok) mixed Try.call31 Try.func31 ruleOfCon (by
  intro args cs K h
  unfold ruleOfCon at h
  split at h
  · rename_i a0E a0P
    simp only [Tree.holds, retv] at h
    cases hb0 : Ytmdoilnmllajjaa.windowHeavy a0E a0P <;> rw [hb0] at h
    ·
      refine ⟨noAnn, _, fun v S hv => ⟨_, h, hv⟩, ?_⟩
      rw [ruleOfVc0]
      simp only [hb0]
      exact ⟨⟨trivial, trivial⟩, trivial⟩
    ·
      refine ⟨noAnn, _, fun v S hv => ⟨_, h, hv⟩, ?_⟩
      rw [ruleOfVc1]
      simp only [hb0]
      exact ⟨⟨trivial, trivial⟩, trivial⟩
  · exact h.elim)
/-! ### regatta/regattaref04.Release -/
def ref04Release (a0E : Int) (a0P : Int) (a1 : Int) : Int := (match (!Ytmdoilnmllajjaa.ref04Number a0E a0P a1) with | true => (0) | false => (match (a0E != 0) with | true => (IntKind.i64.wrap ((IntKind.i64.wrap (IntKind.i64.wrap (a1 - 1) * a0P)).tdiv a0E)) | false => 0))
def ref04ReleasePre (a0E : Int) (a0P : Int) (a1 : Int) : Bool := (match (!Ytmdoilnmllajjaa.ref04Number a0E a0P a1) with | true => true | false => (match (a0E != 0) with | true => true | false => false))
noncomputable def ref04ReleaseCon : Con T O := fun args cs => match args, cs with
  | [.agg [.raw (.int .i64 a0E), .raw (.int .i64 a0P)], .raw (.int .i64 a1)], [] => chk (ref04ReleasePre a0E a0P a1) (retv (.raw (.int .i64 (ref04Release a0E a0P a1))))
  | _, _ => .fail
theorem ref04ReleaseVc (a0E : Int) (a0P : Int) (a1 : Int) : fnX X2 noAnn Try.f11 [.agg [.raw (.int .i64 a0E), .raw (.int .i64 a0P)], .raw (.int .i64 a1)] [] (ends [] ⟨some (.raw (.int .i64 (ref04Release a0E a0P a1))), []⟩) = ((match (!Ytmdoilnmllajjaa.ref04Number a0E a0P a1) with | true => ((ref04Release a0E a0P a1 = (0)) ∧ True) ∧ True | false => (match (a0E != 0) with | true => ((ref04Release a0E a0P a1 = (IntKind.i64.wrap ((IntKind.i64.wrap (IntKind.i64.wrap (a1 - 1) * a0P)).tdiv a0E))) ∧ True) ∧ True | false => False))) := by kernel_rfl
theorem ref04ReleaseOk : ConOk R Try.prog 11 ref04ReleaseCon := con_of_fn R X2 (TabOk.con R X2Ok) mixed Try.call11 Try.func11 ref04ReleaseCon (by
  intro args cs K h
  unfold ref04ReleaseCon at h
  split at h
  · rename_i a0E a0P a1
    rw [Tree.holds_chk] at h
    obtain ⟨hp, h⟩ := h
    refine ⟨noAnn, _, fun v S hv => ⟨_, h, hv⟩, ?_⟩
    rw [ref04ReleaseVc]
    revert hp
    unfold ref04Release ref04ReleasePre
    cases (!Ytmdoilnmllajjaa.ref04Number a0E a0P a1)
    ·
      cases (a0E != 0)
      ·
        intro hp; cases hp
      ·
        intro _; exact ⟨⟨rfl, trivial⟩, trivial⟩
    ·
      intro _; exact ⟨⟨rfl, trivial⟩, trivial⟩
  · exact h.elim)
/-! ### regatta/regattaref04.Deadline -/
def ref04Deadline (a0E : Int) (a0P : Int) (a1 : Int) : Int := (match (!Ytmdoilnmllajjaa.ref04Number a0E a0P a1) with | true => (0) | false => (match (Ytmdoilnmllajjaa.ref04UpPre (IntKind.i64.wrap (a1 * a0P)) a0E) with | true => (Ytmdoilnmllajjaa.ref04Up (IntKind.i64.wrap (a1 * a0P)) a0E) | false => 0))
def ref04DeadlinePre (a0E : Int) (a0P : Int) (a1 : Int) : Bool := (match (!Ytmdoilnmllajjaa.ref04Number a0E a0P a1) with | true => true | false => (match (Ytmdoilnmllajjaa.ref04UpPre (IntKind.i64.wrap (a1 * a0P)) a0E) with | true => true | false => false))
noncomputable def ref04DeadlineCon : Con T O := fun args cs => match args, cs with
  | [.agg [.raw (.int .i64 a0E), .raw (.int .i64 a0P)], .raw (.int .i64 a1)], [] => chk (ref04DeadlinePre a0E a0P a1) (retv (.raw (.int .i64 (ref04Deadline a0E a0P a1))))
  | _, _ => .fail
theorem ref04DeadlineVc (a0E : Int) (a0P : Int) (a1 : Int) : fnX X2 noAnn Try.f20 [.agg [.raw (.int .i64 a0E), .raw (.int .i64 a0P)], .raw (.int .i64 a1)] [] (ends [] ⟨some (.raw (.int .i64 (ref04Deadline a0E a0P a1))), []⟩) = ((match (!Ytmdoilnmllajjaa.ref04Number a0E a0P a1) with | true => ((ref04Deadline a0E a0P a1 = (0)) ∧ True) ∧ True | false => (match (Ytmdoilnmllajjaa.ref04UpPre (IntKind.i64.wrap (a1 * a0P)) a0E) with | true => ((ref04Deadline a0E a0P a1 = (Ytmdoilnmllajjaa.ref04Up (IntKind.i64.wrap (a1 * a0P)) a0E)) ∧ True) ∧ True | false => False))) := by kernel_rfl
theorem ref04DeadlineOk : ConOk R Try.prog 20 ref04DeadlineCon := con_of_fn R X2 (TabOk.con R X2Ok) mixed Try.call20 Try.func20 ref04DeadlineCon (by
  intro args cs K h
  unfold ref04DeadlineCon at h
  split at h
  · rename_i a0E a0P a1
    rw [Tree.holds_chk] at h
    obtain ⟨hp, h⟩ := h
    refine ⟨noAnn, _, fun v S hv => ⟨_, h, hv⟩, ?_⟩
    rw [ref04DeadlineVc]
    revert hp
    unfold ref04Deadline ref04DeadlinePre
    cases (!Ytmdoilnmllajjaa.ref04Number a0E a0P a1)
    ·
      cases (Ytmdoilnmllajjaa.ref04UpPre (IntKind.i64.wrap (a1 * a0P)) a0E)
      ·
        intro hp; cases hp
      ·
        intro _; exact ⟨⟨rfl, trivial⟩, trivial⟩
    ·
      intro _; exact ⟨⟨rfl, trivial⟩, trivial⟩
  · exact h.elim)
/-! ### regatta/regattaref04.Bit -/
def ref04Bit (a0E : Int) (a0P : Int) (a1 : Int) : Int := (match (!Ytmdoilnmllajjaa.ref04Number a0E a0P a1) with | true => (0) | false => (match (a0E != 0) with | true => (match ((IntKind.i64.wrap (a1 * a0P)).tmod a0E == 0) with | true => (0) | false => (1)) | false => 0))
def ref04BitPre (a0E : Int) (a0P : Int) (a1 : Int) : Bool := (match (!Ytmdoilnmllajjaa.ref04Number a0E a0P a1) with | true => true | false => (match (a0E != 0) with | true => (match ((IntKind.i64.wrap (a1 * a0P)).tmod a0E == 0) with | true => true | false => true) | false => false))
noncomputable def ref04BitCon : Con T O := fun args cs => match args, cs with
  | [.agg [.raw (.int .i64 a0E), .raw (.int .i64 a0P)], .raw (.int .i64 a1)], [] => chk (ref04BitPre a0E a0P a1) (retv (.raw (.int .i64 (ref04Bit a0E a0P a1))))
  | _, _ => .fail
theorem ref04BitVc (a0E : Int) (a0P : Int) (a1 : Int) : fnX X2 noAnn Try.f21 [.agg [.raw (.int .i64 a0E), .raw (.int .i64 a0P)], .raw (.int .i64 a1)] [] (ends [] ⟨some (.raw (.int .i64 (ref04Bit a0E a0P a1))), []⟩) = ((match (!Ytmdoilnmllajjaa.ref04Number a0E a0P a1) with | true => ((ref04Bit a0E a0P a1 = (0)) ∧ True) ∧ True | false => (match (a0E != 0) with | true => (match ((IntKind.i64.wrap (a1 * a0P)).tmod a0E == 0) with | true => ((ref04Bit a0E a0P a1 = (0)) ∧ True) ∧ True | false => ((ref04Bit a0E a0P a1 = (1)) ∧ True) ∧ True) | false => False))) := by kernel_rfl
theorem ref04BitOk : ConOk R Try.prog 21 ref04BitCon := con_of_fn R X2 (TabOk.con R X2Ok) mixed Try.call21 Try.func21 ref04BitCon (by
  intro args cs K h
  unfold ref04BitCon at h
  split at h
  · rename_i a0E a0P a1
    rw [Tree.holds_chk] at h
    obtain ⟨hp, h⟩ := h
    refine ⟨noAnn, _, fun v S hv => ⟨_, h, hv⟩, ?_⟩
    rw [ref04BitVc]
    revert hp
    unfold ref04Bit ref04BitPre
    cases (!Ytmdoilnmllajjaa.ref04Number a0E a0P a1)
    ·
      cases (a0E != 0)
      ·
        intro hp; cases hp
      ·
        cases ((IntKind.i64.wrap (a1 * a0P)).tmod a0E == 0)
        ·
          intro _; exact ⟨⟨rfl, trivial⟩, trivial⟩
        ·
          intro _; exact ⟨⟨rfl, trivial⟩, trivial⟩
    ·
      intro _; exact ⟨⟨rfl, trivial⟩, trivial⟩
  · exact h.elim)
noncomputable def tab3 : Tab T O := (31, ruleOfCon) :: (11, ref04ReleaseCon) :: (20, ref04DeadlineCon) :: (21, ref04BitCon) :: tab2
theorem tabOk3 : TabOk R Try.prog tab3 := TabOk.cons R ruleOfOk <| TabOk.cons R ref04ReleaseOk <| TabOk.cons R ref04DeadlineOk <| TabOk.cons R ref04BitOk <| tabOk2
noncomputable def X3 : Ctx T O := { X0 with con := conOf tab3 }
theorem X3Ok : TabOk R X3.P tab3 := tabOk3
end Go.Proofs.Ytmdoilnmllajjaa
