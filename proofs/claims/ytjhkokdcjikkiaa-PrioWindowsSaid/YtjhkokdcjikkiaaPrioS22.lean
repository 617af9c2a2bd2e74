/-
  Part of a proof over the seat Ytjhkokdcjikkiaa: printed by a small program or typed by hand.
-/
import Derived.Test.YtjhkokdcjikkiaaPrioS21
import Derived.KernelRfl
namespace Go.Proofs.Ytjhkokdcjikkiaa
open Go.Sx Go.Proofs Classical
/-! ### regatta/regattaref04.Of -/
def ref04OfC0 (a0E : Int) (a0P : Int) (a1 : Int) (a2 : Int) : Int := (match (!ref04Number a0E a0P a1) with | true => ((0 : Int)) | false => (match (decide (a2 < (0 : Int))) with | true => ((0 : Int)) | false => (match (decide (a2 > (4611686018427387904 : Int))) with | true => ((0 : Int)) | false => (match (ref04DeadlinePre a0E a0P a1) with | true => (match (decide (ref04Deadline a0E a0P a1 > IntKind.i64.wrap ((4611686018427387904 : Int) - a2))) with | true => ((0 : Int)) | false => (match (decide (ref04Group a0E a0P a1 > IntKind.i64.wrap ((4611686018427387904 : Int) - a2))) with | true => ((0 : Int)) | false => (match (ref04ReleasePre a0E a0P a1) with | true => (match (ref04BitPre a0E a0P a1) with | true => (match (decide (ref04Group a0E a0P a1 > (0 : Int))) with | true => (a1) | false => (a1)) | false => 0) | false => 0))) | false => 0))))
def ref04OfC1 (a0E : Int) (a0P : Int) (a1 : Int) (a2 : Int) : Int := (match (!ref04Number a0E a0P a1) with | true => ((0 : Int)) | false => (match (decide (a2 < (0 : Int))) with | true => ((0 : Int)) | false => (match (decide (a2 > (4611686018427387904 : Int))) with | true => ((0 : Int)) | false => (match (ref04DeadlinePre a0E a0P a1) with | true => (match (decide (ref04Deadline a0E a0P a1 > IntKind.i64.wrap ((4611686018427387904 : Int) - a2))) with | true => ((0 : Int)) | false => (match (decide (ref04Group a0E a0P a1 > IntKind.i64.wrap ((4611686018427387904 : Int) - a2))) with | true => ((0 : Int)) | false => (match (ref04ReleasePre a0E a0P a1) with | true => (match (ref04BitPre a0E a0P a1) with | true => (match (decide (ref04Group a0E a0P a1 > (0 : Int))) with | true => (IntKind.i64.wrap (ref04Release a0E a0P a1 + a2)) | false => (IntKind.i64.wrap (ref04Release a0E a0P a1 + a2))) | false => 0) | false => 0))) | false => 0))))
def ref04OfC2 (a0E : Int) (a0P : Int) (a1 : Int) (a2 : Int) : Int := (match (!ref04Number a0E a0P a1) with | true => ((0 : Int)) | false => (match (decide (a2 < (0 : Int))) with | true => ((0 : Int)) | false => (match (decide (a2 > (4611686018427387904 : Int))) with | true => ((0 : Int)) | false => (match (ref04DeadlinePre a0E a0P a1) with | true => (match (decide (ref04Deadline a0E a0P a1 > IntKind.i64.wrap ((4611686018427387904 : Int) - a2))) with | true => ((0 : Int)) | false => (match (decide (ref04Group a0E a0P a1 > IntKind.i64.wrap ((4611686018427387904 : Int) - a2))) with | true => ((0 : Int)) | false => (match (ref04ReleasePre a0E a0P a1) with | true => (match (ref04BitPre a0E a0P a1) with | true => (match (decide (ref04Group a0E a0P a1 > (0 : Int))) with | true => (IntKind.i64.wrap (ref04Deadline a0E a0P a1 + a2)) | false => (IntKind.i64.wrap (ref04Deadline a0E a0P a1 + a2))) | false => 0) | false => 0))) | false => 0))))
def ref04OfC3 (a0E : Int) (a0P : Int) (a1 : Int) (a2 : Int) : Int := (match (!ref04Number a0E a0P a1) with | true => ((0 : Int)) | false => (match (decide (a2 < (0 : Int))) with | true => ((0 : Int)) | false => (match (decide (a2 > (4611686018427387904 : Int))) with | true => ((0 : Int)) | false => (match (ref04DeadlinePre a0E a0P a1) with | true => (match (decide (ref04Deadline a0E a0P a1 > IntKind.i64.wrap ((4611686018427387904 : Int) - a2))) with | true => ((0 : Int)) | false => (match (decide (ref04Group a0E a0P a1 > IntKind.i64.wrap ((4611686018427387904 : Int) - a2))) with | true => ((0 : Int)) | false => (match (ref04ReleasePre a0E a0P a1) with | true => (match (ref04BitPre a0E a0P a1) with | true => (match (decide (ref04Group a0E a0P a1 > (0 : Int))) with | true => (ref04Bit a0E a0P a1) | false => (ref04Bit a0E a0P a1)) | false => 0) | false => 0))) | false => 0))))
def ref04OfC4 (a0E : Int) (a0P : Int) (a1 : Int) (a2 : Int) : Int := (match (!ref04Number a0E a0P a1) with | true => ((0 : Int)) | false => (match (decide (a2 < (0 : Int))) with | true => ((0 : Int)) | false => (match (decide (a2 > (4611686018427387904 : Int))) with | true => ((0 : Int)) | false => (match (ref04DeadlinePre a0E a0P a1) with | true => (match (decide (ref04Deadline a0E a0P a1 > IntKind.i64.wrap ((4611686018427387904 : Int) - a2))) with | true => ((0 : Int)) | false => (match (decide (ref04Group a0E a0P a1 > IntKind.i64.wrap ((4611686018427387904 : Int) - a2))) with | true => ((0 : Int)) | false => (match (ref04ReleasePre a0E a0P a1) with | true => (match (ref04BitPre a0E a0P a1) with | true => (match (decide (ref04Group a0E a0P a1 > (0 : Int))) with | true => (IntKind.i64.wrap (ref04Group a0E a0P a1 + a2)) | false => ((0 : Int))) | false => 0) | false => 0))) | false => 0))))
def ref04OfC5 (a0E : Int) (a0P : Int) (a1 : Int) (a2 : Int) : Int := (match (!ref04Number a0E a0P a1) with | true => ((1 : Int)) | false => (match (decide (a2 < (0 : Int))) with | true => ((1 : Int)) | false => (match (decide (a2 > (4611686018427387904 : Int))) with | true => ((16 : Int)) | false => (match (ref04DeadlinePre a0E a0P a1) with | true => (match (decide (ref04Deadline a0E a0P a1 > IntKind.i64.wrap ((4611686018427387904 : Int) - a2))) with | true => ((16 : Int)) | false => (match (decide (ref04Group a0E a0P a1 > IntKind.i64.wrap ((4611686018427387904 : Int) - a2))) with | true => ((16 : Int)) | false => (match (ref04ReleasePre a0E a0P a1) with | true => (match (ref04BitPre a0E a0P a1) with | true => (match (decide (ref04Group a0E a0P a1 > (0 : Int))) with | true => ((0 : Int)) | false => ((0 : Int))) | false => 0) | false => 0))) | false => 0))))
def ref04OfPre (a0E : Int) (a0P : Int) (a1 : Int) (a2 : Int) : Bool := (match (!ref04Number a0E a0P a1) with | true => true | false => (match (decide (a2 < (0 : Int))) with | true => true | false => (match (decide (a2 > (4611686018427387904 : Int))) with | true => true | false => (match (ref04DeadlinePre a0E a0P a1) with | true => (match (decide (ref04Deadline a0E a0P a1 > IntKind.i64.wrap ((4611686018427387904 : Int) - a2))) with | true => true | false => (match (decide (ref04Group a0E a0P a1 > IntKind.i64.wrap ((4611686018427387904 : Int) - a2))) with | true => true | false => (match (ref04ReleasePre a0E a0P a1) with | true => (match (ref04BitPre a0E a0P a1) with | true => (match (decide (ref04Group a0E a0P a1 > (0 : Int))) with | true => true | false => true) | false => false) | false => false))) | false => false))))
noncomputable def ref04OfCon : Con T O := fun args cs => match args, cs with
  | [.agg [.raw (.int .i64 a0E), .raw (.int .i64 a0P)], .raw (.int .i64 a1), .raw (.int .i64 a2)], [] => chk (ref04OfPre a0E a0P a1 a2) (retv (.tup [.agg [.raw (.int .i64 (ref04OfC0 a0E a0P a1 a2)), .raw (.int .i64 (ref04OfC1 a0E a0P a1 a2)), .raw (.int .i64 (ref04OfC2 a0E a0P a1 a2)), .raw (.int .i64 (ref04OfC3 a0E a0P a1 a2)), .raw (.int .i64 (ref04OfC4 a0E a0P a1 a2))], .raw (.int .i64 (ref04OfC5 a0E a0P a1 a2))]))
  | _, _ => .fail
theorem ref04OfVc (a0E : Int) (a0P : Int) (a1 : Int) (a2 : Int) : fnX X21 noAnn Try.f11 [.agg [.raw (.int .i64 a0E), .raw (.int .i64 a0P)], .raw (.int .i64 a1), .raw (.int .i64 a2)] [] (ends [] ⟨some (.tup [.agg [.raw (.int .i64 (ref04OfC0 a0E a0P a1 a2)), .raw (.int .i64 (ref04OfC1 a0E a0P a1 a2)), .raw (.int .i64 (ref04OfC2 a0E a0P a1 a2)), .raw (.int .i64 (ref04OfC3 a0E a0P a1 a2)), .raw (.int .i64 (ref04OfC4 a0E a0P a1 a2))], .raw (.int .i64 (ref04OfC5 a0E a0P a1 a2))]), []⟩) = ((match (!ref04Number a0E a0P a1) with | true => ((((((ref04OfC0 a0E a0P a1 a2 = ((0 : Int))) ∧ ((ref04OfC1 a0E a0P a1 a2 = ((0 : Int))) ∧ ((ref04OfC2 a0E a0P a1 a2 = ((0 : Int))) ∧ ((ref04OfC3 a0E a0P a1 a2 = ((0 : Int))) ∧ ((ref04OfC4 a0E a0P a1 a2 = ((0 : Int))) ∧ True)))))) ∧ ((ref04OfC5 a0E a0P a1 a2 = ((1 : Int))) ∧ True))) ∧ True) ∧ True | false => (match (decide (a2 < (0 : Int))) with | true => ((((((ref04OfC0 a0E a0P a1 a2 = ((0 : Int))) ∧ ((ref04OfC1 a0E a0P a1 a2 = ((0 : Int))) ∧ ((ref04OfC2 a0E a0P a1 a2 = ((0 : Int))) ∧ ((ref04OfC3 a0E a0P a1 a2 = ((0 : Int))) ∧ ((ref04OfC4 a0E a0P a1 a2 = ((0 : Int))) ∧ True)))))) ∧ ((ref04OfC5 a0E a0P a1 a2 = ((1 : Int))) ∧ True))) ∧ True) ∧ True | false => (match (decide (a2 > (4611686018427387904 : Int))) with | true => ((((((ref04OfC0 a0E a0P a1 a2 = ((0 : Int))) ∧ ((ref04OfC1 a0E a0P a1 a2 = ((0 : Int))) ∧ ((ref04OfC2 a0E a0P a1 a2 = ((0 : Int))) ∧ ((ref04OfC3 a0E a0P a1 a2 = ((0 : Int))) ∧ ((ref04OfC4 a0E a0P a1 a2 = ((0 : Int))) ∧ True)))))) ∧ ((ref04OfC5 a0E a0P a1 a2 = ((16 : Int))) ∧ True))) ∧ True) ∧ True | false => (match (ref04DeadlinePre a0E a0P a1) with | true => (match (decide (ref04Deadline a0E a0P a1 > IntKind.i64.wrap ((4611686018427387904 : Int) - a2))) with | true => ((((((ref04OfC0 a0E a0P a1 a2 = ((0 : Int))) ∧ ((ref04OfC1 a0E a0P a1 a2 = ((0 : Int))) ∧ ((ref04OfC2 a0E a0P a1 a2 = ((0 : Int))) ∧ ((ref04OfC3 a0E a0P a1 a2 = ((0 : Int))) ∧ ((ref04OfC4 a0E a0P a1 a2 = ((0 : Int))) ∧ True)))))) ∧ ((ref04OfC5 a0E a0P a1 a2 = ((16 : Int))) ∧ True))) ∧ True) ∧ True | false => (match (decide (ref04Group a0E a0P a1 > IntKind.i64.wrap ((4611686018427387904 : Int) - a2))) with | true => ((((((ref04OfC0 a0E a0P a1 a2 = ((0 : Int))) ∧ ((ref04OfC1 a0E a0P a1 a2 = ((0 : Int))) ∧ ((ref04OfC2 a0E a0P a1 a2 = ((0 : Int))) ∧ ((ref04OfC3 a0E a0P a1 a2 = ((0 : Int))) ∧ ((ref04OfC4 a0E a0P a1 a2 = ((0 : Int))) ∧ True)))))) ∧ ((ref04OfC5 a0E a0P a1 a2 = ((16 : Int))) ∧ True))) ∧ True) ∧ True | false => (match (ref04ReleasePre a0E a0P a1) with | true => (match (ref04DeadlinePre a0E a0P a1) with | true => (match (ref04BitPre a0E a0P a1) with | true => (match (decide (ref04Group a0E a0P a1 > (0 : Int))) with | true => ((((((ref04OfC0 a0E a0P a1 a2 = (a1)) ∧ ((ref04OfC1 a0E a0P a1 a2 = (IntKind.i64.wrap (ref04Release a0E a0P a1 + a2))) ∧ ((ref04OfC2 a0E a0P a1 a2 = (IntKind.i64.wrap (ref04Deadline a0E a0P a1 + a2))) ∧ ((ref04OfC3 a0E a0P a1 a2 = (ref04Bit a0E a0P a1)) ∧ ((ref04OfC4 a0E a0P a1 a2 = (IntKind.i64.wrap (ref04Group a0E a0P a1 + a2))) ∧ True)))))) ∧ ((ref04OfC5 a0E a0P a1 a2 = ((0 : Int))) ∧ True))) ∧ True) ∧ True | false => ((((((ref04OfC0 a0E a0P a1 a2 = (a1)) ∧ ((ref04OfC1 a0E a0P a1 a2 = (IntKind.i64.wrap (ref04Release a0E a0P a1 + a2))) ∧ ((ref04OfC2 a0E a0P a1 a2 = (IntKind.i64.wrap (ref04Deadline a0E a0P a1 + a2))) ∧ ((ref04OfC3 a0E a0P a1 a2 = (ref04Bit a0E a0P a1)) ∧ ((ref04OfC4 a0E a0P a1 a2 = ((0 : Int))) ∧ True)))))) ∧ ((ref04OfC5 a0E a0P a1 a2 = ((0 : Int))) ∧ True))) ∧ True) ∧ True) | false => False) | false => False) | false => False))) | false => False))))) := by kernel_rfl
theorem ref04OfOk : ConOk R Try.prog 11 ref04OfCon := con_of_fn R X21 (TabOk.con R X21Ok) mixed Try.call11 Try.func11 ref04OfCon (by
  intro args cs K h
  unfold ref04OfCon at h
  split at h
  · rename_i a0E a0P a1 a2
    rw [Tree.holds_chk] at h
    obtain ⟨hp, h⟩ := h
    refine ⟨noAnn, _, fun v S hv => ⟨_, h, hv⟩, ?_⟩
    rw [ref04OfVc a0E a0P a1 a2]
    revert hp
    unfold ref04OfC0 ref04OfC1 ref04OfC2 ref04OfC3 ref04OfC4 ref04OfC5 ref04OfPre
    cases (!ref04Number a0E a0P a1)
    ·
      cases (decide (a2 < (0 : Int)))
      ·
        cases (decide (a2 > (4611686018427387904 : Int)))
        ·
          cases (ref04DeadlinePre a0E a0P a1)
          ·
            intro hp; cases hp
          ·
            cases (decide (ref04Deadline a0E a0P a1 > IntKind.i64.wrap ((4611686018427387904 : Int) - a2)))
            ·
              cases (decide (ref04Group a0E a0P a1 > IntKind.i64.wrap ((4611686018427387904 : Int) - a2)))
              ·
                cases (ref04ReleasePre a0E a0P a1)
                ·
                  intro hp; cases hp
                ·
                  cases (ref04BitPre a0E a0P a1)
                  ·
                    intro hp; cases hp
                  ·
                    cases (decide (ref04Group a0E a0P a1 > (0 : Int)))
                    ·
                      intro _; exact ⟨⟨⟨⟨rfl, ⟨rfl, ⟨rfl, ⟨rfl, ⟨rfl, trivial⟩⟩⟩⟩⟩, ⟨rfl, trivial⟩⟩, trivial⟩, trivial⟩
                    ·
                      intro _; exact ⟨⟨⟨⟨rfl, ⟨rfl, ⟨rfl, ⟨rfl, ⟨rfl, trivial⟩⟩⟩⟩⟩, ⟨rfl, trivial⟩⟩, trivial⟩, trivial⟩
              ·
                intro _; exact ⟨⟨⟨⟨rfl, ⟨rfl, ⟨rfl, ⟨rfl, ⟨rfl, trivial⟩⟩⟩⟩⟩, ⟨rfl, trivial⟩⟩, trivial⟩, trivial⟩
            ·
              intro _; exact ⟨⟨⟨⟨rfl, ⟨rfl, ⟨rfl, ⟨rfl, ⟨rfl, trivial⟩⟩⟩⟩⟩, ⟨rfl, trivial⟩⟩, trivial⟩, trivial⟩
        ·
          intro _; exact ⟨⟨⟨⟨rfl, ⟨rfl, ⟨rfl, ⟨rfl, ⟨rfl, trivial⟩⟩⟩⟩⟩, ⟨rfl, trivial⟩⟩, trivial⟩, trivial⟩
      ·
        intro _; exact ⟨⟨⟨⟨rfl, ⟨rfl, ⟨rfl, ⟨rfl, ⟨rfl, trivial⟩⟩⟩⟩⟩, ⟨rfl, trivial⟩⟩, trivial⟩, trivial⟩
    ·
      intro _; exact ⟨⟨⟨⟨rfl, ⟨rfl, ⟨rfl, ⟨rfl, ⟨rfl, trivial⟩⟩⟩⟩⟩, ⟨rfl, trivial⟩⟩, trivial⟩, trivial⟩
  · exact h.elim)
noncomputable def tab22 : Tab T O := (11, ref04OfCon) :: tab21
theorem tabOk22 : TabOk R Try.prog tab22 := TabOk.cons R ref04OfOk <| tabOk21
noncomputable def X22 : Ctx T O := { X0 with con := conOf tab22 }
theorem X22Ok : TabOk R X22.P tab22 := tabOk22
end Go.Proofs.Ytjhkokdcjikkiaa
