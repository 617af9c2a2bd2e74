/-
  Part of a proof over the seat Ytkcnocigkblbiaa: printed by a small program or typed by hand.
-/
import Derived.Test.YtkcnocigkblbiaaWindS10
import Derived.KernelRfl
namespace Go.Proofs.Ytkcnocigkblbiaa
open Go.Sx Go.Proofs Classical
/-! ### regatta/window.Of -/
def wOfC0 (a0E : Int) (a0P : Int) (a1 : Int) (a2 : Int) : Int := (match (!windowShareHas a0E a0P a1) with | true => ((0 : Int)) | false => (match (decide (a2 < (0 : Int))) with | true => ((0 : Int)) | false => (match (wReleasePre a0E a0P a1) with | true => (match (wDeadlinePre a0E a0P a1) with | true => (match (windowShareBitPre a0E a0P a1) with | true => (match (wGroupPre a0E a0P a1) with | true => (match (decide (a2 > IntKind.i64.wrap ((4611686018427387904 : Int) - if wGroup a0E a0P a1 > wDeadline a0E a0P a1 then wGroup a0E a0P a1 else wDeadline a0E a0P a1))) with | true => ((0 : Int)) | false => (match (decide (wGroup a0E a0P a1 > (0 : Int))) with | true => (a1) | false => (a1))) | false => 0) | false => 0) | false => 0) | false => 0)))
def wOfC1 (a0E : Int) (a0P : Int) (a1 : Int) (a2 : Int) : Int := (match (!windowShareHas a0E a0P a1) with | true => ((0 : Int)) | false => (match (decide (a2 < (0 : Int))) with | true => ((0 : Int)) | false => (match (wReleasePre a0E a0P a1) with | true => (match (wDeadlinePre a0E a0P a1) with | true => (match (windowShareBitPre a0E a0P a1) with | true => (match (wGroupPre a0E a0P a1) with | true => (match (decide (a2 > IntKind.i64.wrap ((4611686018427387904 : Int) - if wGroup a0E a0P a1 > wDeadline a0E a0P a1 then wGroup a0E a0P a1 else wDeadline a0E a0P a1))) with | true => ((0 : Int)) | false => (match (decide (wGroup a0E a0P a1 > (0 : Int))) with | true => (IntKind.i64.wrap (wRelease a0E a0P a1 + a2)) | false => (IntKind.i64.wrap (wRelease a0E a0P a1 + a2)))) | false => 0) | false => 0) | false => 0) | false => 0)))
def wOfC2 (a0E : Int) (a0P : Int) (a1 : Int) (a2 : Int) : Int := (match (!windowShareHas a0E a0P a1) with | true => ((0 : Int)) | false => (match (decide (a2 < (0 : Int))) with | true => ((0 : Int)) | false => (match (wReleasePre a0E a0P a1) with | true => (match (wDeadlinePre a0E a0P a1) with | true => (match (windowShareBitPre a0E a0P a1) with | true => (match (wGroupPre a0E a0P a1) with | true => (match (decide (a2 > IntKind.i64.wrap ((4611686018427387904 : Int) - if wGroup a0E a0P a1 > wDeadline a0E a0P a1 then wGroup a0E a0P a1 else wDeadline a0E a0P a1))) with | true => ((0 : Int)) | false => (match (decide (wGroup a0E a0P a1 > (0 : Int))) with | true => (IntKind.i64.wrap (wDeadline a0E a0P a1 + a2)) | false => (IntKind.i64.wrap (wDeadline a0E a0P a1 + a2)))) | false => 0) | false => 0) | false => 0) | false => 0)))
def wOfC3 (a0E : Int) (a0P : Int) (a1 : Int) (a2 : Int) : Int := (match (!windowShareHas a0E a0P a1) with | true => ((0 : Int)) | false => (match (decide (a2 < (0 : Int))) with | true => ((0 : Int)) | false => (match (wReleasePre a0E a0P a1) with | true => (match (wDeadlinePre a0E a0P a1) with | true => (match (windowShareBitPre a0E a0P a1) with | true => (match (wGroupPre a0E a0P a1) with | true => (match (decide (a2 > IntKind.i64.wrap ((4611686018427387904 : Int) - if wGroup a0E a0P a1 > wDeadline a0E a0P a1 then wGroup a0E a0P a1 else wDeadline a0E a0P a1))) with | true => ((0 : Int)) | false => (match (decide (wGroup a0E a0P a1 > (0 : Int))) with | true => (windowShareBit a0E a0P a1) | false => (windowShareBit a0E a0P a1))) | false => 0) | false => 0) | false => 0) | false => 0)))
def wOfC4 (a0E : Int) (a0P : Int) (a1 : Int) (a2 : Int) : Int := (match (!windowShareHas a0E a0P a1) with | true => ((0 : Int)) | false => (match (decide (a2 < (0 : Int))) with | true => ((0 : Int)) | false => (match (wReleasePre a0E a0P a1) with | true => (match (wDeadlinePre a0E a0P a1) with | true => (match (windowShareBitPre a0E a0P a1) with | true => (match (wGroupPre a0E a0P a1) with | true => (match (decide (a2 > IntKind.i64.wrap ((4611686018427387904 : Int) - if wGroup a0E a0P a1 > wDeadline a0E a0P a1 then wGroup a0E a0P a1 else wDeadline a0E a0P a1))) with | true => ((0 : Int)) | false => (match (decide (wGroup a0E a0P a1 > (0 : Int))) with | true => (IntKind.i64.wrap (wGroup a0E a0P a1 + a2)) | false => (wGroup a0E a0P a1))) | false => 0) | false => 0) | false => 0) | false => 0)))
def wOfC5 (a0E : Int) (a0P : Int) (a1 : Int) (a2 : Int) : Int := (match (!windowShareHas a0E a0P a1) with | true => ((1 : Int)) | false => (match (decide (a2 < (0 : Int))) with | true => ((1 : Int)) | false => (match (wReleasePre a0E a0P a1) with | true => (match (wDeadlinePre a0E a0P a1) with | true => (match (windowShareBitPre a0E a0P a1) with | true => (match (wGroupPre a0E a0P a1) with | true => (match (decide (a2 > IntKind.i64.wrap ((4611686018427387904 : Int) - if wGroup a0E a0P a1 > wDeadline a0E a0P a1 then wGroup a0E a0P a1 else wDeadline a0E a0P a1))) with | true => ((16 : Int)) | false => (match (decide (wGroup a0E a0P a1 > (0 : Int))) with | true => ((0 : Int)) | false => ((0 : Int)))) | false => 0) | false => 0) | false => 0) | false => 0)))
def wOfPre (a0E : Int) (a0P : Int) (a1 : Int) (a2 : Int) : Bool := (match (!windowShareHas a0E a0P a1) with | true => true | false => (match (decide (a2 < (0 : Int))) with | true => true | false => (match (wReleasePre a0E a0P a1) with | true => (match (wDeadlinePre a0E a0P a1) with | true => (match (windowShareBitPre a0E a0P a1) with | true => (match (wGroupPre a0E a0P a1) with | true => (match (decide (a2 > IntKind.i64.wrap ((4611686018427387904 : Int) - if wGroup a0E a0P a1 > wDeadline a0E a0P a1 then wGroup a0E a0P a1 else wDeadline a0E a0P a1))) with | true => true | false => (match (decide (wGroup a0E a0P a1 > (0 : Int))) with | true => true | false => true)) | false => false) | false => false) | false => false) | false => false)))
noncomputable def wOfCon : Con T O := fun args cs => match args, cs with
  | [.agg [.raw (.int .i64 a0E), .raw (.int .i64 a0P)], .raw (.int .i64 a1), .raw (.int .i64 a2)], [] => chk (wOfPre a0E a0P a1 a2) (retv (.tup [.agg [.raw (.int .i64 (wOfC0 a0E a0P a1 a2)), .raw (.int .i64 (wOfC1 a0E a0P a1 a2)), .raw (.int .i64 (wOfC2 a0E a0P a1 a2)), .raw (.int .i64 (wOfC3 a0E a0P a1 a2)), .raw (.int .i64 (wOfC4 a0E a0P a1 a2))], .raw (.int .i64 (wOfC5 a0E a0P a1 a2))]))
  | _, _ => .fail
theorem wOfVc (a0E : Int) (a0P : Int) (a1 : Int) (a2 : Int) : fnX X10 noAnn Try.f46 [.agg [.raw (.int .i64 a0E), .raw (.int .i64 a0P)], .raw (.int .i64 a1), .raw (.int .i64 a2)] [] (ends [] ⟨some (.tup [.agg [.raw (.int .i64 (wOfC0 a0E a0P a1 a2)), .raw (.int .i64 (wOfC1 a0E a0P a1 a2)), .raw (.int .i64 (wOfC2 a0E a0P a1 a2)), .raw (.int .i64 (wOfC3 a0E a0P a1 a2)), .raw (.int .i64 (wOfC4 a0E a0P a1 a2))], .raw (.int .i64 (wOfC5 a0E a0P a1 a2))]), []⟩) = ((match (!windowShareHas a0E a0P a1) with | true => ((((((wOfC0 a0E a0P a1 a2 = ((0 : Int))) ∧ ((wOfC1 a0E a0P a1 a2 = ((0 : Int))) ∧ ((wOfC2 a0E a0P a1 a2 = ((0 : Int))) ∧ ((wOfC3 a0E a0P a1 a2 = ((0 : Int))) ∧ ((wOfC4 a0E a0P a1 a2 = ((0 : Int))) ∧ True)))))) ∧ ((wOfC5 a0E a0P a1 a2 = ((1 : Int))) ∧ True))) ∧ True) ∧ True | false => (match (decide (a2 < (0 : Int))) with | true => ((((((wOfC0 a0E a0P a1 a2 = ((0 : Int))) ∧ ((wOfC1 a0E a0P a1 a2 = ((0 : Int))) ∧ ((wOfC2 a0E a0P a1 a2 = ((0 : Int))) ∧ ((wOfC3 a0E a0P a1 a2 = ((0 : Int))) ∧ ((wOfC4 a0E a0P a1 a2 = ((0 : Int))) ∧ True)))))) ∧ ((wOfC5 a0E a0P a1 a2 = ((1 : Int))) ∧ True))) ∧ True) ∧ True | false => (match (wReleasePre a0E a0P a1) with | true => (match (wDeadlinePre a0E a0P a1) with | true => (match (windowShareBitPre a0E a0P a1) with | true => (match (wGroupPre a0E a0P a1) with | true => (match (decide (a2 > IntKind.i64.wrap ((4611686018427387904 : Int) - if wGroup a0E a0P a1 > wDeadline a0E a0P a1 then wGroup a0E a0P a1 else wDeadline a0E a0P a1))) with | true => ((((((wOfC0 a0E a0P a1 a2 = ((0 : Int))) ∧ ((wOfC1 a0E a0P a1 a2 = ((0 : Int))) ∧ ((wOfC2 a0E a0P a1 a2 = ((0 : Int))) ∧ ((wOfC3 a0E a0P a1 a2 = ((0 : Int))) ∧ ((wOfC4 a0E a0P a1 a2 = ((0 : Int))) ∧ True)))))) ∧ ((wOfC5 a0E a0P a1 a2 = ((16 : Int))) ∧ True))) ∧ True) ∧ True | false => (match (decide (wGroup a0E a0P a1 > (0 : Int))) with | true => ((((((wOfC0 a0E a0P a1 a2 = (a1)) ∧ ((wOfC1 a0E a0P a1 a2 = (IntKind.i64.wrap (wRelease a0E a0P a1 + a2))) ∧ ((wOfC2 a0E a0P a1 a2 = (IntKind.i64.wrap (wDeadline a0E a0P a1 + a2))) ∧ ((wOfC3 a0E a0P a1 a2 = (windowShareBit a0E a0P a1)) ∧ ((wOfC4 a0E a0P a1 a2 = (IntKind.i64.wrap (wGroup a0E a0P a1 + a2))) ∧ True)))))) ∧ ((wOfC5 a0E a0P a1 a2 = ((0 : Int))) ∧ True))) ∧ True) ∧ True | false => ((((((wOfC0 a0E a0P a1 a2 = (a1)) ∧ ((wOfC1 a0E a0P a1 a2 = (IntKind.i64.wrap (wRelease a0E a0P a1 + a2))) ∧ ((wOfC2 a0E a0P a1 a2 = (IntKind.i64.wrap (wDeadline a0E a0P a1 + a2))) ∧ ((wOfC3 a0E a0P a1 a2 = (windowShareBit a0E a0P a1)) ∧ ((wOfC4 a0E a0P a1 a2 = (wGroup a0E a0P a1)) ∧ True)))))) ∧ ((wOfC5 a0E a0P a1 a2 = ((0 : Int))) ∧ True))) ∧ True) ∧ True)) | false => False) | false => False) | false => False) | false => False)))) := by kernel_rfl
theorem wOfOk : ConOk R Try.prog 46 wOfCon := con_of_fn R X10 (TabOk.con R X10Ok) mixed Try.call46 Try.func46 wOfCon (by
  intro args cs K h
  unfold wOfCon at h
  split at h
  · rename_i a0E a0P a1 a2
    rw [Tree.holds_chk] at h
    obtain ⟨hp, h⟩ := h
    refine ⟨noAnn, _, fun v S hv => ⟨_, h, hv⟩, ?_⟩
    rw [wOfVc a0E a0P a1 a2]
    revert hp
    unfold wOfC0 wOfC1 wOfC2 wOfC3 wOfC4 wOfC5 wOfPre
    cases (!windowShareHas a0E a0P a1)
    ·
      cases (decide (a2 < (0 : Int)))
      ·
        cases (wReleasePre a0E a0P a1)
        ·
          intro hp; cases hp
        ·
          cases (wDeadlinePre a0E a0P a1)
          ·
            intro hp; cases hp
          ·
            cases (windowShareBitPre a0E a0P a1)
            ·
              intro hp; cases hp
            ·
              cases (wGroupPre a0E a0P a1)
              ·
                intro hp; cases hp
              ·
                cases (decide (a2 > IntKind.i64.wrap ((4611686018427387904 : Int) - if wGroup a0E a0P a1 > wDeadline a0E a0P a1 then wGroup a0E a0P a1 else wDeadline a0E a0P a1)))
                ·
                  cases (decide (wGroup a0E a0P a1 > (0 : Int)))
                  ·
                    intro _; exact ⟨⟨⟨⟨rfl, ⟨rfl, ⟨rfl, ⟨rfl, ⟨rfl, trivial⟩⟩⟩⟩⟩, ⟨rfl, trivial⟩⟩, trivial⟩, trivial⟩
                  ·
                    intro _; exact ⟨⟨⟨⟨rfl, ⟨rfl, ⟨rfl, ⟨rfl, ⟨rfl, trivial⟩⟩⟩⟩⟩, ⟨rfl, trivial⟩⟩, trivial⟩, trivial⟩
                ·
                  intro _; exact ⟨⟨⟨⟨rfl, ⟨rfl, ⟨rfl, ⟨rfl, ⟨rfl, trivial⟩⟩⟩⟩⟩, ⟨rfl, trivial⟩⟩, trivial⟩, trivial⟩
      ·
        intro _; exact ⟨⟨⟨⟨rfl, ⟨rfl, ⟨rfl, ⟨rfl, ⟨rfl, trivial⟩⟩⟩⟩⟩, ⟨rfl, trivial⟩⟩, trivial⟩, trivial⟩
    ·
      intro _; exact ⟨⟨⟨⟨rfl, ⟨rfl, ⟨rfl, ⟨rfl, ⟨rfl, trivial⟩⟩⟩⟩⟩, ⟨rfl, trivial⟩⟩, trivial⟩, trivial⟩
  · exact h.elim)
noncomputable def tab11 : Tab T O := (46, wOfCon) :: tab10
theorem tabOk11 : TabOk R Try.prog tab11 := TabOk.cons R wOfOk <| tabOk10
noncomputable def X11 : Ctx T O := { X0 with con := conOf tab11 }
theorem X11Ok : TabOk R X11.P tab11 := tabOk11
end Go.Proofs.Ytkcnocigkblbiaa
