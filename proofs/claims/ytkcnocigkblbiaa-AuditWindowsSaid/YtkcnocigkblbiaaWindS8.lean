/-
  Part of a proof over the seat Ytkcnocigkblbiaa: printed by a small program or typed by hand.
-/
import Derived.Test.YtkcnocigkblbiaaWindS7
import Derived.KernelRfl
namespace Go.Proofs.Ytkcnocigkblbiaa
open Go.Sx Go.Proofs Classical
/-! ### regatta/regattaref04.Release -/
def ref04Release (a0E : Int) (a0P : Int) (a1 : Int) : Int := (match (!ref04Number a0E a0P a1) with | true => ((0 : Int)) | false => (match (a0E != (0 : Int)) with | true => (IntKind.i64.wrap ((IntKind.i64.wrap (IntKind.i64.wrap (a1 - (1 : Int)) * a0P)).tdiv a0E)) | false => 0))
def ref04ReleasePre (a0E : Int) (a0P : Int) (a1 : Int) : Bool := (match (!ref04Number a0E a0P a1) with | true => true | false => (match (a0E != (0 : Int)) with | true => true | false => false))
noncomputable def ref04ReleaseCon : Con T O := fun args cs => match args, cs with
  | [.agg [.raw (.int .i64 a0E), .raw (.int .i64 a0P)], .raw (.int .i64 a1)], [] => chk (ref04ReleasePre a0E a0P a1) (retv (.raw (.int .i64 (ref04Release a0E a0P a1))))
  | _, _ => .fail
theorem ref04ReleaseVc (a0E : Int) (a0P : Int) (a1 : Int) : fnX X7 noAnn Try.f36 [.agg [.raw (.int .i64 a0E), .raw (.int .i64 a0P)], .raw (.int .i64 a1)] [] (ends [] ⟨some (.raw (.int .i64 (ref04Release a0E a0P a1))), []⟩) = ((match (!ref04Number a0E a0P a1) with | true => ((ref04Release a0E a0P a1 = ((0 : Int))) ∧ True) ∧ True | false => (match (a0E != (0 : Int)) with | true => ((ref04Release a0E a0P a1 = (IntKind.i64.wrap ((IntKind.i64.wrap (IntKind.i64.wrap (a1 - (1 : Int)) * a0P)).tdiv a0E))) ∧ True) ∧ True | false => False))) := by kernel_rfl
theorem ref04ReleaseOk : ConOk R Try.prog 36 ref04ReleaseCon := con_of_fn R X7 (TabOk.con R X7Ok) mixed Try.call36 Try.func36 ref04ReleaseCon (by
  intro args cs K h
  unfold ref04ReleaseCon at h
  split at h
  · rename_i a0E a0P a1
    rw [Tree.holds_chk] at h
    obtain ⟨hp, h⟩ := h
    refine ⟨noAnn, _, fun v S hv => ⟨_, h, hv⟩, ?_⟩
    rw [ref04ReleaseVc a0E a0P a1]
    revert hp
    unfold ref04Release ref04ReleasePre
    cases (!ref04Number a0E a0P a1)
    ·
      cases (a0E != (0 : Int))
      ·
        intro hp; cases hp
      ·
        intro _; exact ⟨⟨rfl, trivial⟩, trivial⟩
    ·
      intro _; exact ⟨⟨rfl, trivial⟩, trivial⟩
  · exact h.elim)
/-! ### regatta/regattaref04.Deadline -/
def ref04Deadline (a0E : Int) (a0P : Int) (a1 : Int) : Int := (match (!ref04Number a0E a0P a1) with | true => ((0 : Int)) | false => (match (ref04UpPre (IntKind.i64.wrap (a1 * a0P)) a0E) with | true => (ref04Up (IntKind.i64.wrap (a1 * a0P)) a0E) | false => 0))
def ref04DeadlinePre (a0E : Int) (a0P : Int) (a1 : Int) : Bool := (match (!ref04Number a0E a0P a1) with | true => true | false => (match (ref04UpPre (IntKind.i64.wrap (a1 * a0P)) a0E) with | true => true | false => false))
noncomputable def ref04DeadlineCon : Con T O := fun args cs => match args, cs with
  | [.agg [.raw (.int .i64 a0E), .raw (.int .i64 a0P)], .raw (.int .i64 a1)], [] => chk (ref04DeadlinePre a0E a0P a1) (retv (.raw (.int .i64 (ref04Deadline a0E a0P a1))))
  | _, _ => .fail
theorem ref04DeadlineVc (a0E : Int) (a0P : Int) (a1 : Int) : fnX X7 noAnn Try.f35 [.agg [.raw (.int .i64 a0E), .raw (.int .i64 a0P)], .raw (.int .i64 a1)] [] (ends [] ⟨some (.raw (.int .i64 (ref04Deadline a0E a0P a1))), []⟩) = ((match (!ref04Number a0E a0P a1) with | true => ((ref04Deadline a0E a0P a1 = ((0 : Int))) ∧ True) ∧ True | false => (match (ref04UpPre (IntKind.i64.wrap (a1 * a0P)) a0E) with | true => ((ref04Deadline a0E a0P a1 = (ref04Up (IntKind.i64.wrap (a1 * a0P)) a0E)) ∧ True) ∧ True | false => False))) := by kernel_rfl
theorem ref04DeadlineOk : ConOk R Try.prog 35 ref04DeadlineCon := con_of_fn R X7 (TabOk.con R X7Ok) mixed Try.call35 Try.func35 ref04DeadlineCon (by
  intro args cs K h
  unfold ref04DeadlineCon at h
  split at h
  · rename_i a0E a0P a1
    rw [Tree.holds_chk] at h
    obtain ⟨hp, h⟩ := h
    refine ⟨noAnn, _, fun v S hv => ⟨_, h, hv⟩, ?_⟩
    rw [ref04DeadlineVc a0E a0P a1]
    revert hp
    unfold ref04Deadline ref04DeadlinePre
    cases (!ref04Number a0E a0P a1)
    ·
      cases (ref04UpPre (IntKind.i64.wrap (a1 * a0P)) a0E)
      ·
        intro hp; cases hp
      ·
        intro _; exact ⟨⟨rfl, trivial⟩, trivial⟩
    ·
      intro _; exact ⟨⟨rfl, trivial⟩, trivial⟩
  · exact h.elim)
/-! ### regatta/regattaref04.Bit -/
def ref04Bit (a0E : Int) (a0P : Int) (a1 : Int) : Int := (match (!ref04Number a0E a0P a1) with | true => ((0 : Int)) | false => (match (a0E != (0 : Int)) with | true => (match ((IntKind.i64.wrap (a1 * a0P)).tmod a0E == (0 : Int)) with | true => ((0 : Int)) | false => ((1 : Int))) | false => 0))
def ref04BitPre (a0E : Int) (a0P : Int) (a1 : Int) : Bool := (match (!ref04Number a0E a0P a1) with | true => true | false => (match (a0E != (0 : Int)) with | true => (match ((IntKind.i64.wrap (a1 * a0P)).tmod a0E == (0 : Int)) with | true => true | false => true) | false => false))
noncomputable def ref04BitCon : Con T O := fun args cs => match args, cs with
  | [.agg [.raw (.int .i64 a0E), .raw (.int .i64 a0P)], .raw (.int .i64 a1)], [] => chk (ref04BitPre a0E a0P a1) (retv (.raw (.int .i64 (ref04Bit a0E a0P a1))))
  | _, _ => .fail
theorem ref04BitVc (a0E : Int) (a0P : Int) (a1 : Int) : fnX X7 noAnn Try.f37 [.agg [.raw (.int .i64 a0E), .raw (.int .i64 a0P)], .raw (.int .i64 a1)] [] (ends [] ⟨some (.raw (.int .i64 (ref04Bit a0E a0P a1))), []⟩) = ((match (!ref04Number a0E a0P a1) with | true => ((ref04Bit a0E a0P a1 = ((0 : Int))) ∧ True) ∧ True | false => (match (a0E != (0 : Int)) with | true => (match ((IntKind.i64.wrap (a1 * a0P)).tmod a0E == (0 : Int)) with | true => ((ref04Bit a0E a0P a1 = ((0 : Int))) ∧ True) ∧ True | false => ((ref04Bit a0E a0P a1 = ((1 : Int))) ∧ True) ∧ True) | false => False))) := by kernel_rfl
theorem ref04BitOk : ConOk R Try.prog 37 ref04BitCon := con_of_fn R X7 (TabOk.con R X7Ok) mixed Try.call37 Try.func37 ref04BitCon (by
  intro args cs K h
  unfold ref04BitCon at h
  split at h
  · rename_i a0E a0P a1
    rw [Tree.holds_chk] at h
    obtain ⟨hp, h⟩ := h
    refine ⟨noAnn, _, fun v S hv => ⟨_, h, hv⟩, ?_⟩
    rw [ref04BitVc a0E a0P a1]
    revert hp
    unfold ref04Bit ref04BitPre
    cases (!ref04Number a0E a0P a1)
    ·
      cases (a0E != (0 : Int))
      ·
        intro hp; cases hp
      ·
        cases ((IntKind.i64.wrap (a1 * a0P)).tmod a0E == (0 : Int))
        ·
          intro _; exact ⟨⟨rfl, trivial⟩, trivial⟩
        ·
          intro _; exact ⟨⟨rfl, trivial⟩, trivial⟩
    ·
      intro _; exact ⟨⟨rfl, trivial⟩, trivial⟩
  · exact h.elim)
/-! ### regatta/regattaref09.Lag -/
def ref09LagC0 (a0E : Int) (a0P : Int) (a1 : Int) (a2 : Int) : Int := (match (!ref09Right a0E a0P a1 a2) with | true => ((0 : Int)) | false => (IntKind.i64.wrap (IntKind.i64.wrap (a0E * a1) - IntKind.i64.wrap (a0P * a2))))
def ref09LagC1 (a0E : Int) (a0P : Int) (a1 : Int) (a2 : Int) : Int := (match (!ref09Right a0E a0P a1 a2) with | true => ((1 : Int)) | false => ((0 : Int)))
noncomputable def ref09LagCon : Con T O := fun args cs => match args, cs with
  | [.agg [.raw (.int .i64 a0E), .raw (.int .i64 a0P)], .raw (.int .i64 a1), .raw (.int .i64 a2)], [] => retv (.tup [.raw (.int .i64 (ref09LagC0 a0E a0P a1 a2)), .raw (.int .i64 (ref09LagC1 a0E a0P a1 a2))])
  | _, _ => .fail
theorem ref09LagVc (a0E : Int) (a0P : Int) (a1 : Int) (a2 : Int) : fnX X7 noAnn Try.f41 [.agg [.raw (.int .i64 a0E), .raw (.int .i64 a0P)], .raw (.int .i64 a1), .raw (.int .i64 a2)] [] (ends [] ⟨some (.tup [.raw (.int .i64 (ref09LagC0 a0E a0P a1 a2)), .raw (.int .i64 (ref09LagC1 a0E a0P a1 a2))]), []⟩) = ((match (!ref09Right a0E a0P a1 a2) with | true => ((((ref09LagC0 a0E a0P a1 a2 = ((0 : Int))) ∧ ((ref09LagC1 a0E a0P a1 a2 = ((1 : Int))) ∧ True))) ∧ True) ∧ True | false => ((((ref09LagC0 a0E a0P a1 a2 = (IntKind.i64.wrap (IntKind.i64.wrap (a0E * a1) - IntKind.i64.wrap (a0P * a2)))) ∧ ((ref09LagC1 a0E a0P a1 a2 = ((0 : Int))) ∧ True))) ∧ True) ∧ True)) := by kernel_rfl
theorem ref09LagOk : ConOk R Try.prog 41 ref09LagCon := con_of_fn R X7 (TabOk.con R X7Ok) mixed Try.call41 Try.func41 ref09LagCon (by
  intro args cs K h
  unfold ref09LagCon at h
  split at h
  · rename_i a0E a0P a1 a2
    refine ⟨noAnn, _, fun v S hv => ⟨_, h, hv⟩, ?_⟩
    rw [ref09LagVc a0E a0P a1 a2]
    unfold ref09LagC0 ref09LagC1
    cases (!ref09Right a0E a0P a1 a2)
    ·
      exact ⟨⟨⟨rfl, ⟨rfl, trivial⟩⟩, trivial⟩, trivial⟩
    ·
      exact ⟨⟨⟨rfl, ⟨rfl, trivial⟩⟩, trivial⟩, trivial⟩
  · exact h.elim)
/-! ### (regatta/window.share).times -/
def timesK0Text (e p i b : Int) : Prop := (match (exactFloorPre (IntKind.i64.wrap (i * p)) b) with | true => (((exactFloorC0 (IntKind.i64.wrap (i * p)) b = exactFloorC0 (IntKind.i64.wrap (i * p)) b) ∧ True) ∧ True) | false => False)
theorem timesK0Vc (e p i b : Int) : fnX X7 (noAnn) Try.f55 [.agg [.raw (.int .i64 e), .raw (.int .i64 p)], .raw (.int .i64 i), .raw (.int .i64 b), .fn 56 []] [] (ends [] ⟨some (.raw (.int .i64 (exactFloorC0 (IntKind.i64.wrap (i * p)) b))), []⟩) = timesK0Text e p i b := by kernel_rfl
theorem timesK0Holds (e p i b : Int) (hp : exactFloorPre (IntKind.i64.wrap (i * p)) b = true) : timesK0Text e p i b := by
  unfold timesK0Text
  rw [hp]
  repeat' first | trivial | rfl | apply And.intro
def timesK1Text (e p i b : Int) : Prop := (match (exactCeilPre (IntKind.i64.wrap (i * p)) b) with | true => (((exactCeilC0 (IntKind.i64.wrap (i * p)) b = exactCeilC0 (IntKind.i64.wrap (i * p)) b) ∧ True) ∧ True) | false => False)
theorem timesK1Vc (e p i b : Int) : fnX X7 (noAnn) Try.f55 [.agg [.raw (.int .i64 e), .raw (.int .i64 p)], .raw (.int .i64 i), .raw (.int .i64 b), .fn 57 []] [] (ends [] ⟨some (.raw (.int .i64 (exactCeilC0 (IntKind.i64.wrap (i * p)) b))), []⟩) = timesK1Text e p i b := by kernel_rfl
theorem timesK1Holds (e p i b : Int) (hp : exactCeilPre (IntKind.i64.wrap (i * p)) b = true) : timesK1Text e p i b := by
  unfold timesK1Text
  rw [hp]
  repeat' first | trivial | rfl | apply And.intro
noncomputable def timesCon : Con T O := fun args cs => match args, cs with
  | [.agg [.raw (.int .i64 _), .raw (.int .i64 p)], .raw (.int .i64 i), .raw (.int .i64 b), .fn 56 []], [] => chk (decide (exactFloorPre (IntKind.i64.wrap (i * p)) b = true)) (.ret ⟨some (.raw (.int .i64 (exactFloorC0 (IntKind.i64.wrap (i * p)) b))), []⟩)
  | [.agg [.raw (.int .i64 _), .raw (.int .i64 p)], .raw (.int .i64 i), .raw (.int .i64 b), .fn 57 []], [] => chk (decide (exactCeilPre (IntKind.i64.wrap (i * p)) b = true)) (.ret ⟨some (.raw (.int .i64 (exactCeilC0 (IntKind.i64.wrap (i * p)) b))), []⟩)
  | _, _ => .fail
theorem timesOk : ConOk R Try.prog 55 timesCon := con_of_fn R (X7) (TabOk.con R X7Ok) mixed Try.call55 Try.func55 timesCon (by
  intro args cs K h
  unfold timesCon at h
  split at h
  · rename_i e p i b
    rw [Tree.holds_chk] at h
    obtain ⟨hp, h⟩ := h
    refine ⟨noAnn, _, fun v S hv => ⟨_, h, hv⟩, ?_⟩
    rw [timesK0Vc e p i b]
    exact timesK0Holds e p i b (of_decide_eq_true hp)
  · rename_i e p i b
    rw [Tree.holds_chk] at h
    obtain ⟨hp, h⟩ := h
    refine ⟨noAnn, _, fun v S hv => ⟨_, h, hv⟩, ?_⟩
    rw [timesK1Vc e p i b]
    exact timesK1Holds e p i b (of_decide_eq_true hp)
  · exact h.elim)
noncomputable def tab8 : Tab T O := (36, ref04ReleaseCon) :: (35, ref04DeadlineCon) :: (37, ref04BitCon) :: (41, ref09LagCon) :: (55, timesCon) :: tab7
theorem tabOk8 : TabOk R Try.prog tab8 := TabOk.cons R ref04ReleaseOk <| TabOk.cons R ref04DeadlineOk <| TabOk.cons R ref04BitOk <| TabOk.cons R ref09LagOk <| TabOk.cons R timesOk <| tabOk7
noncomputable def X8 : Ctx T O := { X0 with con := conOf tab8 }
theorem X8Ok : TabOk R X8.P tab8 := tabOk8
end Go.Proofs.Ytkcnocigkblbiaa
