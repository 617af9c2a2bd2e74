/-
  Part of a proof over the seat Ytmdoilnmllajjaa: printed by a small program or typed by hand.
-/
import Derived.Test.YtmdoilnmllajjaaRulS2
import Derived.KernelRfl
namespace Go.Proofs.Ytmdoilnmllajjaa
open Go.Sx Go.Proofs Classical
/-! ### regatta/regattaref04.Release -/
def ref04Release (a0E : Int) (a0P : Int) (a1 : Int) : Int := (match (!ref04Number a0E a0P a1) with | true => ((0 : Int)) | false => (match (a0E != (0 : Int)) with | true => (IntKind.i64.wrap ((IntKind.i64.wrap (IntKind.i64.wrap (a1 - (1 : Int)) * a0P)).tdiv a0E)) | false => 0))
def ref04ReleasePre (a0E : Int) (a0P : Int) (a1 : Int) : Bool := (match (!ref04Number a0E a0P a1) with | true => true | false => (match (a0E != (0 : Int)) with | true => true | false => false))
noncomputable def ref04ReleaseCon : Con T O := fun args cs => match args, cs with
  | [.agg [.raw (.int .i64 a0E), .raw (.int .i64 a0P)], .raw (.int .i64 a1)], [] => chk (ref04ReleasePre a0E a0P a1) (retv (.raw (.int .i64 (ref04Release a0E a0P a1))))
  | _, _ => .fail
theorem ref04ReleaseVc (a0E : Int) (a0P : Int) (a1 : Int) : fnX X2 noAnn Try.f11 [.agg [.raw (.int .i64 a0E), .raw (.int .i64 a0P)], .raw (.int .i64 a1)] [] (ends [] ⟨some (.raw (.int .i64 (ref04Release a0E a0P a1))), []⟩) = ((match (!ref04Number a0E a0P a1) with | true => ((ref04Release a0E a0P a1 = ((0 : Int))) ∧ True) ∧ True | false => (match (a0E != (0 : Int)) with | true => ((ref04Release a0E a0P a1 = (IntKind.i64.wrap ((IntKind.i64.wrap (IntKind.i64.wrap (a1 - (1 : Int)) * a0P)).tdiv a0E))) ∧ True) ∧ True | false => False))) := by kernel_rfl
theorem ref04ReleaseOk : ConOk R Try.prog 11 ref04ReleaseCon := con_of_fn R X2 (TabOk.con R X2Ok) mixed Try.call11 Try.func11 ref04ReleaseCon (by
  intro args cs K h
  unfold ref04ReleaseCon at h
  split at h
  · rename_i a0E a0P a1
    rw [Tree.holds_chk] at h
    obtain ⟨hp, h⟩ := h
    refine ⟨noAnn, _, fun v S hv => ⟨_, h, hv⟩, ?_⟩
    rw [ref04ReleaseVc a0E a0P a1]
    revert hp
    unfold ref04Release ref04ReleasePre
    cases (!ref04Number a0E a0P a1)
    ·
      cases (a0E != (0 : Int))
      ·
        intro hp; cases hp
      ·
        intro _; exact ⟨⟨rfl, trivial⟩, trivial⟩
    ·
      intro _; exact ⟨⟨rfl, trivial⟩, trivial⟩
  · exact h.elim)
/-! ### regatta/regattaref04.Deadline -/
def ref04Deadline (a0E : Int) (a0P : Int) (a1 : Int) : Int := (match (!ref04Number a0E a0P a1) with | true => ((0 : Int)) | false => (match (ref04UpPre (IntKind.i64.wrap (a1 * a0P)) a0E) with | true => (ref04Up (IntKind.i64.wrap (a1 * a0P)) a0E) | false => 0))
def ref04DeadlinePre (a0E : Int) (a0P : Int) (a1 : Int) : Bool := (match (!ref04Number a0E a0P a1) with | true => true | false => (match (ref04UpPre (IntKind.i64.wrap (a1 * a0P)) a0E) with | true => true | false => false))
noncomputable def ref04DeadlineCon : Con T O := fun args cs => match args, cs with
  | [.agg [.raw (.int .i64 a0E), .raw (.int .i64 a0P)], .raw (.int .i64 a1)], [] => chk (ref04DeadlinePre a0E a0P a1) (retv (.raw (.int .i64 (ref04Deadline a0E a0P a1))))
  | _, _ => .fail
theorem ref04DeadlineVc (a0E : Int) (a0P : Int) (a1 : Int) : fnX X2 noAnn Try.f20 [.agg [.raw (.int .i64 a0E), .raw (.int .i64 a0P)], .raw (.int .i64 a1)] [] (ends [] ⟨some (.raw (.int .i64 (ref04Deadline a0E a0P a1))), []⟩) = ((match (!ref04Number a0E a0P a1) with | true => ((ref04Deadline a0E a0P a1 = ((0 : Int))) ∧ True) ∧ True | false => (match (ref04UpPre (IntKind.i64.wrap (a1 * a0P)) a0E) with | true => ((ref04Deadline a0E a0P a1 = (ref04Up (IntKind.i64.wrap (a1 * a0P)) a0E)) ∧ True) ∧ True | false => False))) := by kernel_rfl
theorem ref04DeadlineOk : ConOk R Try.prog 20 ref04DeadlineCon := con_of_fn R X2 (TabOk.con R X2Ok) mixed Try.call20 Try.func20 ref04DeadlineCon (by
  intro args cs K h
  unfold ref04DeadlineCon at h
  split at h
  · rename_i a0E a0P a1
    rw [Tree.holds_chk] at h
    obtain ⟨hp, h⟩ := h
    refine ⟨noAnn, _, fun v S hv => ⟨_, h, hv⟩, ?_⟩
    rw [ref04DeadlineVc a0E a0P a1]
    revert hp
    unfold ref04Deadline ref04DeadlinePre
    cases (!ref04Number a0E a0P a1)
    ·
      cases (ref04UpPre (IntKind.i64.wrap (a1 * a0P)) a0E)
      ·
        intro hp; cases hp
      ·
        intro _; exact ⟨⟨rfl, trivial⟩, trivial⟩
    ·
      intro _; exact ⟨⟨rfl, trivial⟩, trivial⟩
  · exact h.elim)
/-! ### regatta/regattaref04.Bit -/
def ref04Bit (a0E : Int) (a0P : Int) (a1 : Int) : Int := (match (!ref04Number a0E a0P a1) with | true => ((0 : Int)) | false => (match (a0E != (0 : Int)) with | true => (match ((IntKind.i64.wrap (a1 * a0P)).tmod a0E == (0 : Int)) with | true => ((0 : Int)) | false => ((1 : Int))) | false => 0))
def ref04BitPre (a0E : Int) (a0P : Int) (a1 : Int) : Bool := (match (!ref04Number a0E a0P a1) with | true => true | false => (match (a0E != (0 : Int)) with | true => (match ((IntKind.i64.wrap (a1 * a0P)).tmod a0E == (0 : Int)) with | true => true | false => true) | false => false))
noncomputable def ref04BitCon : Con T O := fun args cs => match args, cs with
  | [.agg [.raw (.int .i64 a0E), .raw (.int .i64 a0P)], .raw (.int .i64 a1)], [] => chk (ref04BitPre a0E a0P a1) (retv (.raw (.int .i64 (ref04Bit a0E a0P a1))))
  | _, _ => .fail
theorem ref04BitVc (a0E : Int) (a0P : Int) (a1 : Int) : fnX X2 noAnn Try.f21 [.agg [.raw (.int .i64 a0E), .raw (.int .i64 a0P)], .raw (.int .i64 a1)] [] (ends [] ⟨some (.raw (.int .i64 (ref04Bit a0E a0P a1))), []⟩) = ((match (!ref04Number a0E a0P a1) with | true => ((ref04Bit a0E a0P a1 = ((0 : Int))) ∧ True) ∧ True | false => (match (a0E != (0 : Int)) with | true => (match ((IntKind.i64.wrap (a1 * a0P)).tmod a0E == (0 : Int)) with | true => ((ref04Bit a0E a0P a1 = ((0 : Int))) ∧ True) ∧ True | false => ((ref04Bit a0E a0P a1 = ((1 : Int))) ∧ True) ∧ True) | false => False))) := by kernel_rfl
theorem ref04BitOk : ConOk R Try.prog 21 ref04BitCon := con_of_fn R X2 (TabOk.con R X2Ok) mixed Try.call21 Try.func21 ref04BitCon (by
  intro args cs K h
  unfold ref04BitCon at h
  split at h
  · rename_i a0E a0P a1
    rw [Tree.holds_chk] at h
    obtain ⟨hp, h⟩ := h
    refine ⟨noAnn, _, fun v S hv => ⟨_, h, hv⟩, ?_⟩
    rw [ref04BitVc a0E a0P a1]
    revert hp
    unfold ref04Bit ref04BitPre
    cases (!ref04Number a0E a0P a1)
    ·
      cases (a0E != (0 : Int))
      ·
        intro hp; cases hp
      ·
        cases ((IntKind.i64.wrap (a1 * a0P)).tmod a0E == (0 : Int))
        ·
          intro _; exact ⟨⟨rfl, trivial⟩, trivial⟩
        ·
          intro _; exact ⟨⟨rfl, trivial⟩, trivial⟩
    ·
      intro _; exact ⟨⟨rfl, trivial⟩, trivial⟩
  · exact h.elim)
/-! ### regatta/rule.Latest$1 -/
def ruleLatest1 (a0 : Ev) (a1 : Ev) : Int := (orL [cmpL a1.At a0.At, cmpI a0.ID a1.ID, cmpI a0.Kind a1.Kind])
noncomputable def ruleLatest1Con : Con T O := fun args cs => match args, cs with
  | [.agg [.raw (.int .i64 a0_0), .raw (.int .i64 a0_1), .raw (.int .i64 a0_2)], .agg [.raw (.int .i64 a1_0), .raw (.int .i64 a1_1), .raw (.int .i64 a1_2)]], [] => retv (.raw (.int .i64 (ruleLatest1 (⟨a0_0, a0_1, a0_2⟩ : Ev) (⟨a1_0, a1_1, a1_2⟩ : Ev))))
  | _, _ => .fail
theorem ruleLatest1Vc (a0 : Ev) (a1 : Ev) : fnX X2 noAnn Try.f26 [.agg [.raw (.int .i64 a0.At), .raw (.int .i64 a0.ID), .raw (.int .i64 a0.Kind)], .agg [.raw (.int .i64 a1.At), .raw (.int .i64 a1.ID), .raw (.int .i64 a1.Kind)]] [] (ends [] ⟨some (.raw (.int .i64 (ruleLatest1 a0 a1))), []⟩) = (((ruleLatest1 a0 a1 = (orL [cmpL a1.At a0.At, cmpI a0.ID a1.ID, cmpI a0.Kind a1.Kind])) ∧ True) ∧ True) := by kernel_rfl
theorem ruleLatest1Ok : ConOk R Try.prog 26 ruleLatest1Con := con_of_fn R X2 (TabOk.con R X2Ok) mixed Try.call26 Try.func26 ruleLatest1Con (by
  intro args cs K h
  unfold ruleLatest1Con at h
  split at h
  · rename_i a0_0 a0_1 a0_2 a1_0 a1_1 a1_2
    refine ⟨noAnn, _, fun v S hv => ⟨_, h, hv⟩, ?_⟩
    rw [ruleLatest1Vc (⟨a0_0, a0_1, a0_2⟩ : Ev) (⟨a1_0, a1_1, a1_2⟩ : Ev)]
    unfold ruleLatest1
    exact ⟨⟨rfl, trivial⟩, trivial⟩
  · exact h.elim)
/-! ### regatta/rule.of -/
def ruleOfText (e p : Int) : Prop := (match (windowHeavy e p) with | true => (match (windowHeavy e p) with | true => ((True ∧ True) ∧ True) | false => ((False ∧ True) ∧ True)) | false => (match (windowHeavy e p) with | true => ((False ∧ True) ∧ True) | false => ((True ∧ True) ∧ True)))
theorem ruleOfVc (e p : Int) : fnX X2 (noAnn) Try.f31 [.agg [.raw (.int .i64 e), .raw (.int .i64 p)]] [] (endsIf (windowHeavy e p) [] ⟨some (.iface 60 (.agg [])), []⟩ ⟨some (.iface 61 (.agg [])), []⟩) = ruleOfText e p := by kernel_rfl
theorem ruleOfHolds (e p : Int) : ruleOfText e p := by
  unfold ruleOfText
  cases windowHeavy e p
  · repeat' first | trivial | rfl | apply And.intro
  · repeat' first | trivial | rfl | apply And.intro
noncomputable def ruleOfCon : Con T O := fun args cs => match args, cs with
  | [.agg [.raw (.int .i64 e), .raw (.int .i64 p)]], [] => .ite (windowHeavy e p) (.ret ⟨some (.iface 60 (.agg [])), []⟩) (.ret ⟨some (.iface 61 (.agg [])), []⟩)
  | _, _ => .fail
theorem ruleOfOk : ConOk R Try.prog 31 ruleOfCon := con_of_fn R (X2) (TabOk.con R X2Ok) mixed Try.call31 Try.func31 ruleOfCon (by
  intro args cs K h
  unfold ruleOfCon at h
  split at h
  · rename_i e p
    refine ⟨noAnn, _, fun v S hv => holds_if h v S hv, ?_⟩
    rw [ruleOfVc e p]
    exact ruleOfHolds e p
  · exact h.elim)
noncomputable def tab3 : Tab T O := (11, ref04ReleaseCon) :: (20, ref04DeadlineCon) :: (21, ref04BitCon) :: (26, ruleLatest1Con) :: (31, ruleOfCon) :: tab2
theorem tabOk3 : TabOk R Try.prog tab3 := TabOk.cons R ref04ReleaseOk <| TabOk.cons R ref04DeadlineOk <| TabOk.cons R ref04BitOk <| TabOk.cons R ruleLatest1Ok <| TabOk.cons R ruleOfOk <| tabOk2
noncomputable def X3 : Ctx T O := { X0 with con := conOf tab3 }
theorem X3Ok : TabOk R X3.P tab3 := tabOk3
end Go.Proofs.Ytmdoilnmllajjaa
