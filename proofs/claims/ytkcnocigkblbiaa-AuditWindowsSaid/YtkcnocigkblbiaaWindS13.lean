/-
  Part of a proof over the seat Ytkcnocigkblbiaa: printed by a small program or typed by hand.
-/
import Derived.Test.YtkcnocigkblbiaaWindS12
import Derived.KernelRfl
namespace Go.Proofs.Ytkcnocigkblbiaa
open Go.Sx Go.Proofs Classical

/-! ### regatta/regattaref04.Of -/
def ref04OfC0 (a0E : Int) (a0P : Int) (a1 : Int) (a2 : Int) : Int := (match (!ref04Number a0E a0P a1) with | true => ((0 : Int)) | false => (match (decide (a2 < (0 : Int))) with | true => ((0 : Int)) | false => (match (decide (a2 > (4611686018427387904 : Int))) with | true => ((0 : Int)) | false => (match (ref04DeadlinePre a0E a0P a1) with | true => (match (decide (ref04Deadline a0E a0P a1 > IntKind.i64.wrap ((4611686018427387904 : Int) - a2))) with | true => ((0 : Int)) | false => (match (decide (ref04Group a0E a0P a1 > IntKind.i64.wrap ((4611686018427387904 : Int) - a2))) with | true => ((0 : Int)) | false => (match (ref04ReleasePre a0E a0P a1) with | true => (match (ref04BitPre a0E a0P a1) with | true => (match (decide (ref04Group a0E a0P a1 > (0 : Int))) with | true => (a1) | false => (a1)) | false => 0) | false => 0))) | false => 0))))
def ref04OfC1 (a0E : Int) (a0P : Int) (a1 : Int) (a2 : Int) : Int := (match (!ref04Number a0E a0P a1) with | true => ((0 : Int)) | false => (match (decide (a2 < (0 : Int))) with | true => ((0 : Int)) | false => (match (decide (a2 > (4611686018427387904 : Int))) with | true => ((0 : Int)) | false => (match (ref04DeadlinePre a0E a0P a1) with | true => (match (decide (ref04Deadline a0E a0P a1 > IntKind.i64.wrap ((4611686018427387904 : Int) - a2))) with | true => ((0 : Int)) | false => (match (decide (ref04Group a0E a0P a1 > IntKind.i64.wrap ((4611686018427387904 : Int) - a2))) with | true => ((0 : Int)) | false => (match (ref04ReleasePre a0E a0P a1) with | true => (match (ref04BitPre a0E a0P a1) with | true => (match (decide (ref04Group a0E a0P a1 > (0 : Int))) with | true => (IntKind.i64.wrap (ref04Release a0E a0P a1 + a2)) | false => (IntKind.i64.wrap (ref04Release a0E a0P a1 + a2))) | false => 0) | false => 0))) | false => 0))))
def ref04OfC2 (a0E : Int) (a0P : Int) (a1 : Int) (a2 : Int) : Int := (match (!ref04Number a0E a0P a1) with | true => ((0 : Int)) | false => (match (decide (a2 < (0 : Int))) with | true => ((0 : Int)) | false => (match (decide (a2 > (4611686018427387904 : Int))) with | true => ((0 : Int)) | false => (match (ref04DeadlinePre a0E a0P a1) with | true => (match (decide (ref04Deadline a0E a0P a1 > IntKind.i64.wrap ((4611686018427387904 : Int) - a2))) with | true => ((0 : Int)) | false => (match (decide (ref04Group a0E a0P a1 > IntKind.i64.wrap ((4611686018427387904 : Int) - a2))) with | true => ((0 : Int)) | false => (match (ref04ReleasePre a0E a0P a1) with | true => (match (ref04BitPre a0E a0P a1) with | true => (match (decide (ref04Group a0E a0P a1 > (0 : Int))) with | true => (IntKind.i64.wrap (ref04Deadline a0E a0P a1 + a2)) | false => (IntKind.i64.wrap (ref04Deadline a0E a0P a1 + a2))) | false => 0) | false => 0))) | false => 0))))
def ref04OfC3 (a0E : Int) (a0P : Int) (a1 : Int) (a2 : Int) : Int := (match (!ref04Number a0E a0P a1) with | true => ((0 : Int)) | false => (match (decide (a2 < (0 : Int))) with | true => ((0 : Int)) | false => (match (decide (a2 > (4611686018427387904 : Int))) with | true => ((0 : Int)) | false => (match (ref04DeadlinePre a0E a0P a1) with | true => (match (decide (ref04Deadline a0E a0P a1 > IntKind.i64.wrap ((4611686018427387904 : Int) - a2))) with | true => ((0 : Int)) | false => (match (decide (ref04Group a0E a0P a1 > IntKind.i64.wrap ((4611686018427387904 : Int) - a2))) with | true => ((0 : Int)) | false => (match (ref04ReleasePre a0E a0P a1) with | true => (match (ref04BitPre a0E a0P a1) with | true => (match (decide (ref04Group a0E a0P a1 > (0 : Int))) with | true => (ref04Bit a0E a0P a1) | false => (ref04Bit a0E a0P a1)) | false => 0) | false => 0))) | false => 0))))
def ref04OfC4 (a0E : Int) (a0P : Int) (a1 : Int) (a2 : Int) : Int := (match (!ref04Number a0E a0P a1) with | true => ((0 : Int)) | false => (match (decide (a2 < (0 : Int))) with | true => ((0 : Int)) | false => (match (decide (a2 > (4611686018427387904 : Int))) with | true => ((0 : Int)) | false => (match (ref04DeadlinePre a0E a0P a1) with | true => (match (decide (ref04Deadline a0E a0P a1 > IntKind.i64.wrap ((4611686018427387904 : Int) - a2))) with | true => ((0 : Int)) | false => (match (decide (ref04Group a0E a0P a1 > IntKind.i64.wrap ((4611686018427387904 : Int) - a2))) with | true => ((0 : Int)) | false => (match (ref04ReleasePre a0E a0P a1) with | true => (match (ref04BitPre a0E a0P a1) with | true => (match (decide (ref04Group a0E a0P a1 > (0 : Int))) with | true => (IntKind.i64.wrap (ref04Group a0E a0P a1 + a2)) | false => ((0 : Int))) | false => 0) | false => 0))) | false => 0))))
def ref04OfC5 (a0E : Int) (a0P : Int) (a1 : Int) (a2 : Int) : Int := (match (!ref04Number a0E a0P a1) with | true => ((1 : Int)) | false => (match (decide (a2 < (0 : Int))) with | true => ((1 : Int)) | false => (match (decide (a2 > (4611686018427387904 : Int))) with | true => ((16 : Int)) | false => (match (ref04DeadlinePre a0E a0P a1) with | true => (match (decide (ref04Deadline a0E a0P a1 > IntKind.i64.wrap ((4611686018427387904 : Int) - a2))) with | true => ((16 : Int)) | false => (match (decide (ref04Group a0E a0P a1 > IntKind.i64.wrap ((4611686018427387904 : Int) - a2))) with | true => ((16 : Int)) | false => (match (ref04ReleasePre a0E a0P a1) with | true => (match (ref04BitPre a0E a0P a1) with | true => (match (decide (ref04Group a0E a0P a1 > (0 : Int))) with | true => ((0 : Int)) | false => ((0 : Int))) | false => 0) | false => 0))) | false => 0))))
def ref04OfPre (a0E : Int) (a0P : Int) (a1 : Int) (a2 : Int) : Bool := (match (!ref04Number a0E a0P a1) with | true => true | false => (match (decide (a2 < (0 : Int))) with | true => true | false => (match (decide (a2 > (4611686018427387904 : Int))) with | true => true | false => (match (ref04DeadlinePre a0E a0P a1) with | true => (match (decide (ref04Deadline a0E a0P a1 > IntKind.i64.wrap ((4611686018427387904 : Int) - a2))) with | true => true | false => (match (decide (ref04Group a0E a0P a1 > IntKind.i64.wrap ((4611686018427387904 : Int) - a2))) with | true => true | false => (match (ref04ReleasePre a0E a0P a1) with | true => (match (ref04BitPre a0E a0P a1) with | true => (match (decide (ref04Group a0E a0P a1 > (0 : Int))) with | true => true | false => true) | false => false) | false => false))) | false => false))))
noncomputable def ref04OfCon : Con T O := fun args cs => match args, cs with
  | [.agg [.raw (.int .i64 a0E), .raw (.int .i64 a0P)], .raw (.int .i64 a1), .raw (.int .i64 a2)], [] => chk (ref04OfPre a0E a0P a1 a2) (retv (.tup [.agg [.raw (.int .i64 (ref04OfC0 a0E a0P a1 a2)), .raw (.int .i64 (ref04OfC1 a0E a0P a1 a2)), .raw (.int .i64 (ref04OfC2 a0E a0P a1 a2)), .raw (.int .i64 (ref04OfC3 a0E a0P a1 a2)), .raw (.int .i64 (ref04OfC4 a0E a0P a1 a2))], .raw (.int .i64 (ref04OfC5 a0E a0P a1 a2))]))
  | _, _ => .fail
theorem ref04OfVc (a0E : Int) (a0P : Int) (a1 : Int) (a2 : Int) : fnX X12 noAnn Try.f17 [.agg [.raw (.int .i64 a0E), .raw (.int .i64 a0P)], .raw (.int .i64 a1), .raw (.int .i64 a2)] [] (ends [] ⟨some (.tup [.agg [.raw (.int .i64 (ref04OfC0 a0E a0P a1 a2)), .raw (.int .i64 (ref04OfC1 a0E a0P a1 a2)), .raw (.int .i64 (ref04OfC2 a0E a0P a1 a2)), .raw (.int .i64 (ref04OfC3 a0E a0P a1 a2)), .raw (.int .i64 (ref04OfC4 a0E a0P a1 a2))], .raw (.int .i64 (ref04OfC5 a0E a0P a1 a2))]), []⟩) = ((match (!ref04Number a0E a0P a1) with | true => ((((((ref04OfC0 a0E a0P a1 a2 = ((0 : Int))) ∧ ((ref04OfC1 a0E a0P a1 a2 = ((0 : Int))) ∧ ((ref04OfC2 a0E a0P a1 a2 = ((0 : Int))) ∧ ((ref04OfC3 a0E a0P a1 a2 = ((0 : Int))) ∧ ((ref04OfC4 a0E a0P a1 a2 = ((0 : Int))) ∧ True)))))) ∧ ((ref04OfC5 a0E a0P a1 a2 = ((1 : Int))) ∧ True))) ∧ True) ∧ True | false => (match (decide (a2 < (0 : Int))) with | true => ((((((ref04OfC0 a0E a0P a1 a2 = ((0 : Int))) ∧ ((ref04OfC1 a0E a0P a1 a2 = ((0 : Int))) ∧ ((ref04OfC2 a0E a0P a1 a2 = ((0 : Int))) ∧ ((ref04OfC3 a0E a0P a1 a2 = ((0 : Int))) ∧ ((ref04OfC4 a0E a0P a1 a2 = ((0 : Int))) ∧ True)))))) ∧ ((ref04OfC5 a0E a0P a1 a2 = ((1 : Int))) ∧ True))) ∧ True) ∧ True | false => (match (decide (a2 > (4611686018427387904 : Int))) with | true => ((((((ref04OfC0 a0E a0P a1 a2 = ((0 : Int))) ∧ ((ref04OfC1 a0E a0P a1 a2 = ((0 : Int))) ∧ ((ref04OfC2 a0E a0P a1 a2 = ((0 : Int))) ∧ ((ref04OfC3 a0E a0P a1 a2 = ((0 : Int))) ∧ ((ref04OfC4 a0E a0P a1 a2 = ((0 : Int))) ∧ True)))))) ∧ ((ref04OfC5 a0E a0P a1 a2 = ((16 : Int))) ∧ True))) ∧ True) ∧ True | false => (match (ref04DeadlinePre a0E a0P a1) with | true => (match (decide (ref04Deadline a0E a0P a1 > IntKind.i64.wrap ((4611686018427387904 : Int) - a2))) with | true => ((((((ref04OfC0 a0E a0P a1 a2 = ((0 : Int))) ∧ ((ref04OfC1 a0E a0P a1 a2 = ((0 : Int))) ∧ ((ref04OfC2 a0E a0P a1 a2 = ((0 : Int))) ∧ ((ref04OfC3 a0E a0P a1 a2 = ((0 : Int))) ∧ ((ref04OfC4 a0E a0P a1 a2 = ((0 : Int))) ∧ True)))))) ∧ ((ref04OfC5 a0E a0P a1 a2 = ((16 : Int))) ∧ True))) ∧ True) ∧ True | false => (match (decide (ref04Group a0E a0P a1 > IntKind.i64.wrap ((4611686018427387904 : Int) - a2))) with | true => ((((((ref04OfC0 a0E a0P a1 a2 = ((0 : Int))) ∧ ((ref04OfC1 a0E a0P a1 a2 = ((0 : Int))) ∧ ((ref04OfC2 a0E a0P a1 a2 = ((0 : Int))) ∧ ((ref04OfC3 a0E a0P a1 a2 = ((0 : Int))) ∧ ((ref04OfC4 a0E a0P a1 a2 = ((0 : Int))) ∧ True)))))) ∧ ((ref04OfC5 a0E a0P a1 a2 = ((16 : Int))) ∧ True))) ∧ True) ∧ True | false => (match (ref04ReleasePre a0E a0P a1) with | true => (match (ref04DeadlinePre a0E a0P a1) with | true => (match (ref04BitPre a0E a0P a1) with | true => (match (decide (ref04Group a0E a0P a1 > (0 : Int))) with | true => ((((((ref04OfC0 a0E a0P a1 a2 = (a1)) ∧ ((ref04OfC1 a0E a0P a1 a2 = (IntKind.i64.wrap (ref04Release a0E a0P a1 + a2))) ∧ ((ref04OfC2 a0E a0P a1 a2 = (IntKind.i64.wrap (ref04Deadline a0E a0P a1 + a2))) ∧ ((ref04OfC3 a0E a0P a1 a2 = (ref04Bit a0E a0P a1)) ∧ ((ref04OfC4 a0E a0P a1 a2 = (IntKind.i64.wrap (ref04Group a0E a0P a1 + a2))) ∧ True)))))) ∧ ((ref04OfC5 a0E a0P a1 a2 = ((0 : Int))) ∧ True))) ∧ True) ∧ True | false => ((((((ref04OfC0 a0E a0P a1 a2 = (a1)) ∧ ((ref04OfC1 a0E a0P a1 a2 = (IntKind.i64.wrap (ref04Release a0E a0P a1 + a2))) ∧ ((ref04OfC2 a0E a0P a1 a2 = (IntKind.i64.wrap (ref04Deadline a0E a0P a1 + a2))) ∧ ((ref04OfC3 a0E a0P a1 a2 = (ref04Bit a0E a0P a1)) ∧ ((ref04OfC4 a0E a0P a1 a2 = ((0 : Int))) ∧ True)))))) ∧ ((ref04OfC5 a0E a0P a1 a2 = ((0 : Int))) ∧ True))) ∧ True) ∧ True) | false => False) | false => False) | false => False))) | false => False))))) := by kernel_rfl
theorem ref04OfOk : ConOk R Try.prog 17 ref04OfCon := con_of_fn R X12 (TabOk.con R X12Ok) mixed Try.call17 Try.func17 ref04OfCon (by
  intro args cs K h
  unfold ref04OfCon at h
  split at h
  · rename_i a0E a0P a1 a2
    rw [Tree.holds_chk] at h
    obtain ⟨hp, h⟩ := h
    refine ⟨noAnn, _, fun v S hv => ⟨_, h, hv⟩, ?_⟩
    rw [ref04OfVc a0E a0P a1 a2]
    revert hp
    unfold ref04OfC0 ref04OfC1 ref04OfC2 ref04OfC3 ref04OfC4 ref04OfC5 ref04OfPre
    cases (!ref04Number a0E a0P a1)
    ·
      cases (decide (a2 < (0 : Int)))
      ·
        cases (decide (a2 > (4611686018427387904 : Int)))
        ·
          cases (ref04DeadlinePre a0E a0P a1)
          ·
            intro hp; cases hp
          ·
            cases (decide (ref04Deadline a0E a0P a1 > IntKind.i64.wrap ((4611686018427387904 : Int) - a2)))
            ·
              cases (decide (ref04Group a0E a0P a1 > IntKind.i64.wrap ((4611686018427387904 : Int) - a2)))
              ·
                cases (ref04ReleasePre a0E a0P a1)
                ·
                  intro hp; cases hp
                ·
                  cases (ref04BitPre a0E a0P a1)
                  ·
                    intro hp; cases hp
                  ·
                    cases (decide (ref04Group a0E a0P a1 > (0 : Int)))
                    ·
                      intro _; exact ⟨⟨⟨⟨rfl, ⟨rfl, ⟨rfl, ⟨rfl, ⟨rfl, trivial⟩⟩⟩⟩⟩, ⟨rfl, trivial⟩⟩, trivial⟩, trivial⟩
                    ·
                      intro _; exact ⟨⟨⟨⟨rfl, ⟨rfl, ⟨rfl, ⟨rfl, ⟨rfl, trivial⟩⟩⟩⟩⟩, ⟨rfl, trivial⟩⟩, trivial⟩, trivial⟩
              ·
                intro _; exact ⟨⟨⟨⟨rfl, ⟨rfl, ⟨rfl, ⟨rfl, ⟨rfl, trivial⟩⟩⟩⟩⟩, ⟨rfl, trivial⟩⟩, trivial⟩, trivial⟩
            ·
              intro _; exact ⟨⟨⟨⟨rfl, ⟨rfl, ⟨rfl, ⟨rfl, ⟨rfl, trivial⟩⟩⟩⟩⟩, ⟨rfl, trivial⟩⟩, trivial⟩, trivial⟩
        ·
          intro _; exact ⟨⟨⟨⟨rfl, ⟨rfl, ⟨rfl, ⟨rfl, ⟨rfl, trivial⟩⟩⟩⟩⟩, ⟨rfl, trivial⟩⟩, trivial⟩, trivial⟩
      ·
        intro _; exact ⟨⟨⟨⟨rfl, ⟨rfl, ⟨rfl, ⟨rfl, ⟨rfl, trivial⟩⟩⟩⟩⟩, ⟨rfl, trivial⟩⟩, trivial⟩, trivial⟩
    ·
      intro _; exact ⟨⟨⟨⟨rfl, ⟨rfl, ⟨rfl, ⟨rfl, ⟨rfl, trivial⟩⟩⟩⟩⟩, ⟨rfl, trivial⟩⟩, trivial⟩, trivial⟩
  · exact h.elim)
/-! ### regatta/audit.shape -/
def auditShapeC0 (_a0Index : Int) (a0Release : Int) (a0Deadline : Int) (_a0Bit : Int) (a0Group : Int) : Int := (match (decide (a0Group > (0 : Int))) with | true => (match (decide (a0Group < (0 : Int))) with | true => (IntKind.i64.wrap (a0Deadline - a0Release)) | false => (IntKind.i64.wrap (a0Deadline - a0Release))) | false => (match (decide (a0Group < (0 : Int))) with | true => (IntKind.i64.wrap (a0Deadline - a0Release)) | false => (IntKind.i64.wrap (a0Deadline - a0Release))))
def auditShapeC1 (_a0Index : Int) (_a0Release : Int) (_a0Deadline : Int) (a0Bit : Int) (a0Group : Int) : Int := (match (decide (a0Group > (0 : Int))) with | true => (match (decide (a0Group < (0 : Int))) with | true => (a0Bit) | false => (a0Bit)) | false => (match (decide (a0Group < (0 : Int))) with | true => (a0Bit) | false => (a0Bit)))
def auditShapeC2 (_a0Index : Int) (_a0Release : Int) (_a0Deadline : Int) (_a0Bit : Int) (a0Group : Int) : Int := (match (decide (a0Group > (0 : Int))) with | true => (match (decide (a0Group < (0 : Int))) with | true => ((2 : Int)) | false => ((1 : Int))) | false => (match (decide (a0Group < (0 : Int))) with | true => ((2 : Int)) | false => ((0 : Int))))
def auditShapeC3 (_a0Index : Int) (_a0Release : Int) (a0Deadline : Int) (_a0Bit : Int) (a0Group : Int) : Int := (match (decide (a0Group > (0 : Int))) with | true => (match (decide (a0Group < (0 : Int))) with | true => (IntKind.i64.wrap (a0Group - a0Deadline)) | false => (IntKind.i64.wrap (a0Group - a0Deadline))) | false => (match (decide (a0Group < (0 : Int))) with | true => ((-1 : Int)) | false => ((-1 : Int))))
noncomputable def auditShapeCon : Con T O := fun args cs => match args, cs with
  | [.agg [.raw (.int .i64 a0Index), .raw (.int .i64 a0Release), .raw (.int .i64 a0Deadline), .raw (.int .i64 a0Bit), .raw (.int .i64 a0Group)]], [] => retv (.agg [.raw (.int .i64 (auditShapeC0 a0Index a0Release a0Deadline a0Bit a0Group)), .raw (.int .i64 (auditShapeC1 a0Index a0Release a0Deadline a0Bit a0Group)), .raw (.int .i64 (auditShapeC2 a0Index a0Release a0Deadline a0Bit a0Group)), .raw (.int .i64 (auditShapeC3 a0Index a0Release a0Deadline a0Bit a0Group))])
  | _, _ => .fail
theorem auditShapeVc (a0Index : Int) (a0Release : Int) (a0Deadline : Int) (a0Bit : Int) (a0Group : Int) : fnX X12 noAnn Try.f47 [.agg [.raw (.int .i64 a0Index), .raw (.int .i64 a0Release), .raw (.int .i64 a0Deadline), .raw (.int .i64 a0Bit), .raw (.int .i64 a0Group)]] [] (ends [] ⟨some (.agg [.raw (.int .i64 (auditShapeC0 a0Index a0Release a0Deadline a0Bit a0Group)), .raw (.int .i64 (auditShapeC1 a0Index a0Release a0Deadline a0Bit a0Group)), .raw (.int .i64 (auditShapeC2 a0Index a0Release a0Deadline a0Bit a0Group)), .raw (.int .i64 (auditShapeC3 a0Index a0Release a0Deadline a0Bit a0Group))]), []⟩) = ((match (decide (a0Group > (0 : Int))) with | true => (match (decide (a0Group < (0 : Int))) with | true => ((((auditShapeC0 a0Index a0Release a0Deadline a0Bit a0Group = (IntKind.i64.wrap (a0Deadline - a0Release))) ∧ ((auditShapeC1 a0Index a0Release a0Deadline a0Bit a0Group = (a0Bit)) ∧ ((auditShapeC2 a0Index a0Release a0Deadline a0Bit a0Group = ((2 : Int))) ∧ ((auditShapeC3 a0Index a0Release a0Deadline a0Bit a0Group = (IntKind.i64.wrap (a0Group - a0Deadline))) ∧ True))))) ∧ True) ∧ True | false => ((((auditShapeC0 a0Index a0Release a0Deadline a0Bit a0Group = (IntKind.i64.wrap (a0Deadline - a0Release))) ∧ ((auditShapeC1 a0Index a0Release a0Deadline a0Bit a0Group = (a0Bit)) ∧ ((auditShapeC2 a0Index a0Release a0Deadline a0Bit a0Group = ((1 : Int))) ∧ ((auditShapeC3 a0Index a0Release a0Deadline a0Bit a0Group = (IntKind.i64.wrap (a0Group - a0Deadline))) ∧ True))))) ∧ True) ∧ True) | false => (match (decide (a0Group < (0 : Int))) with | true => ((((auditShapeC0 a0Index a0Release a0Deadline a0Bit a0Group = (IntKind.i64.wrap (a0Deadline - a0Release))) ∧ ((auditShapeC1 a0Index a0Release a0Deadline a0Bit a0Group = (a0Bit)) ∧ ((auditShapeC2 a0Index a0Release a0Deadline a0Bit a0Group = ((2 : Int))) ∧ ((auditShapeC3 a0Index a0Release a0Deadline a0Bit a0Group = ((-1 : Int))) ∧ True))))) ∧ True) ∧ True | false => ((((auditShapeC0 a0Index a0Release a0Deadline a0Bit a0Group = (IntKind.i64.wrap (a0Deadline - a0Release))) ∧ ((auditShapeC1 a0Index a0Release a0Deadline a0Bit a0Group = (a0Bit)) ∧ ((auditShapeC2 a0Index a0Release a0Deadline a0Bit a0Group = ((0 : Int))) ∧ ((auditShapeC3 a0Index a0Release a0Deadline a0Bit a0Group = ((-1 : Int))) ∧ True))))) ∧ True) ∧ True))) := by kernel_rfl
theorem auditShapeOk : ConOk R Try.prog 47 auditShapeCon := con_of_fn R X12 (TabOk.con R X12Ok) mixed Try.call47 Try.func47 auditShapeCon (by
  intro args cs K h
  unfold auditShapeCon at h
  split at h
  · rename_i a0Index a0Release a0Deadline a0Bit a0Group
    refine ⟨noAnn, _, fun v S hv => ⟨_, h, hv⟩, ?_⟩
    rw [auditShapeVc a0Index a0Release a0Deadline a0Bit a0Group]
    unfold auditShapeC0 auditShapeC1 auditShapeC2 auditShapeC3
    cases (decide (a0Group > (0 : Int)))
    ·
      cases (decide (a0Group < (0 : Int)))
      ·
        exact ⟨⟨⟨rfl, ⟨rfl, ⟨rfl, ⟨rfl, trivial⟩⟩⟩⟩, trivial⟩, trivial⟩
      ·
        exact ⟨⟨⟨rfl, ⟨rfl, ⟨rfl, ⟨rfl, trivial⟩⟩⟩⟩, trivial⟩, trivial⟩
    ·
      cases (decide (a0Group < (0 : Int)))
      ·
        exact ⟨⟨⟨rfl, ⟨rfl, ⟨rfl, ⟨rfl, trivial⟩⟩⟩⟩, trivial⟩, trivial⟩
      ·
        exact ⟨⟨⟨rfl, ⟨rfl, ⟨rfl, ⟨rfl, trivial⟩⟩⟩⟩, trivial⟩, trivial⟩
  · exact h.elim)
noncomputable def tab13 : Tab T O := (17, ref04OfCon) :: (47, auditShapeCon) :: tab12
theorem tabOk13 : TabOk R Try.prog tab13 := TabOk.cons R ref04OfOk <| TabOk.cons R auditShapeOk <| tabOk12
noncomputable def X13 : Ctx T O := { X0 with con := conOf tab13 }
theorem X13Ok : TabOk R X13.P tab13 := tabOk13
end Go.Proofs.Ytkcnocigkblbiaa
