/-
  Part of a proof over the seat Ytmdoilnmllajjaa: printed by a small program or typed by hand.
-/
import Derived.Test.YtmdoilnmllajjaaRuleS8
import Derived.KernelRfl
namespace Go.Proofs.Ytmdoilnmllajjaa
open Go.Sx Go.Proofs
/-! ### regatta/regattaref04.Of -/
def ref04OfC0 (a0E : Int) (a0P : Int) (a1 : Int) (a2 : Int) : Int := (match (!Ytmdoilnmllajjaa.ref04Number a0E a0P a1) with | true => (0) | false => (match (decide (a2 < 0)) with | true => (0) | false => (match (decide (a2 > 4611686018427387904)) with | true => (0) | false => (match (Ytmdoilnmllajjaa.ref04DeadlinePre a0E a0P a1) with | true => (match (decide (Ytmdoilnmllajjaa.ref04Deadline a0E a0P a1 > IntKind.i64.wrap (4611686018427387904 - a2))) with | true => (0) | false => (match (decide (Ytmdoilnmllajjaa.ref04Group a0E a0P a1 > IntKind.i64.wrap (4611686018427387904 - a2))) with | true => (0) | false => (match (Ytmdoilnmllajjaa.ref04ReleasePre a0E a0P a1) with | true => (match (Ytmdoilnmllajjaa.ref04BitPre a0E a0P a1) with | true => (match (decide (Ytmdoilnmllajjaa.ref04Group a0E a0P a1 > 0)) with | true => (a1) | false => (a1)) | false => 0) | false => 0))) | false => 0))))
def ref04OfC1 (a0E : Int) (a0P : Int) (a1 : Int) (a2 : Int) : Int := (match (!Ytmdoilnmllajjaa.ref04Number a0E a0P a1) with | true => (0) | false => (match (decide (a2 < 0)) with | true => (0) | false => (match (decide (a2 > 4611686018427387904)) with | true => (0) | false => (match (Ytmdoilnmllajjaa.ref04DeadlinePre a0E a0P a1) with | true => (match (decide (Ytmdoilnmllajjaa.ref04Deadline a0E a0P a1 > IntKind.i64.wrap (4611686018427387904 - a2))) with | true => (0) | false => (match (decide (Ytmdoilnmllajjaa.ref04Group a0E a0P a1 > IntKind.i64.wrap (4611686018427387904 - a2))) with | true => (0) | false => (match (Ytmdoilnmllajjaa.ref04ReleasePre a0E a0P a1) with | true => (match (Ytmdoilnmllajjaa.ref04BitPre a0E a0P a1) with | true => (match (decide (Ytmdoilnmllajjaa.ref04Group a0E a0P a1 > 0)) with | true => (IntKind.i64.wrap (Ytmdoilnmllajjaa.ref04Release a0E a0P a1 + a2)) | false => (IntKind.i64.wrap (Ytmdoilnmllajjaa.ref04Release a0E a0P a1 + a2))) | false => 0) | false => 0))) | false => 0))))
def ref04OfC2 (a0E : Int) (a0P : Int) (a1 : Int) (a2 : Int) : Int := (match (!Ytmdoilnmllajjaa.ref04Number a0E a0P a1) with | true => (0) | false => (match (decide (a2 < 0)) with | true => (0) | false => (match (decide (a2 > 4611686018427387904)) with | true => (0) | false => (match (Ytmdoilnmllajjaa.ref04DeadlinePre a0E a0P a1) with | true => (match (decide (Ytmdoilnmllajjaa.ref04Deadline a0E a0P a1 > IntKind.i64.wrap (4611686018427387904 - a2))) with | true => (0) | false => (match (decide (Ytmdoilnmllajjaa.ref04Group a0E a0P a1 > IntKind.i64.wrap (4611686018427387904 - a2))) with | true => (0) | false => (match (Ytmdoilnmllajjaa.ref04ReleasePre a0E a0P a1) with | true => (match (Ytmdoilnmllajjaa.ref04BitPre a0E a0P a1) with | true => (match (decide (Ytmdoilnmllajjaa.ref04Group a0E a0P a1 > 0)) with | true => (IntKind.i64.wrap (Ytmdoilnmllajjaa.ref04Deadline a0E a0P a1 + a2)) | false => (IntKind.i64.wrap (Ytmdoilnmllajjaa.ref04Deadline a0E a0P a1 + a2))) | false => 0) | false => 0))) | false => 0))))
def ref04OfC3 (a0E : Int) (a0P : Int) (a1 : Int) (a2 : Int) : Int := (match (!Ytmdoilnmllajjaa.ref04Number a0E a0P a1) with | true => (0) | false => (match (decide (a2 < 0)) with | true => (0) | false => (match (decide (a2 > 4611686018427387904)) with | true => (0) | false => (match (Ytmdoilnmllajjaa.ref04DeadlinePre a0E a0P a1) with | true => (match (decide (Ytmdoilnmllajjaa.ref04Deadline a0E a0P a1 > IntKind.i64.wrap (4611686018427387904 - a2))) with | true => (0) | false => (match (decide (Ytmdoilnmllajjaa.ref04Group a0E a0P a1 > IntKind.i64.wrap (4611686018427387904 - a2))) with | true => (0) | false => (match (Ytmdoilnmllajjaa.ref04ReleasePre a0E a0P a1) with | true => (match (Ytmdoilnmllajjaa.ref04BitPre a0E a0P a1) with | true => (match (decide (Ytmdoilnmllajjaa.ref04Group a0E a0P a1 > 0)) with | true => (Ytmdoilnmllajjaa.ref04Bit a0E a0P a1) | false => (Ytmdoilnmllajjaa.ref04Bit a0E a0P a1)) | false => 0) | false => 0))) | false => 0))))
def ref04OfC4 (a0E : Int) (a0P : Int) (a1 : Int) (a2 : Int) : Int := (match (!Ytmdoilnmllajjaa.ref04Number a0E a0P a1) with | true => (0) | false => (match (decide (a2 < 0)) with | true => (0) | false => (match (decide (a2 > 4611686018427387904)) with | true => (0) | false => (match (Ytmdoilnmllajjaa.ref04DeadlinePre a0E a0P a1) with | true => (match (decide (Ytmdoilnmllajjaa.ref04Deadline a0E a0P a1 > IntKind.i64.wrap (4611686018427387904 - a2))) with | true => (0) | false => (match (decide (Ytmdoilnmllajjaa.ref04Group a0E a0P a1 > IntKind.i64.wrap (4611686018427387904 - a2))) with | true => (0) | false => (match (Ytmdoilnmllajjaa.ref04ReleasePre a0E a0P a1) with | true => (match (Ytmdoilnmllajjaa.ref04BitPre a0E a0P a1) with | true => (match (decide (Ytmdoilnmllajjaa.ref04Group a0E a0P a1 > 0)) with | true => (IntKind.i64.wrap (Ytmdoilnmllajjaa.ref04Group a0E a0P a1 + a2)) | false => (0)) | false => 0) | false => 0))) | false => 0))))
def ref04OfC5 (a0E : Int) (a0P : Int) (a1 : Int) (a2 : Int) : Int := (match (!Ytmdoilnmllajjaa.ref04Number a0E a0P a1) with | true => (1) | false => (match (decide (a2 < 0)) with | true => (1) | false => (match (decide (a2 > 4611686018427387904)) with | true => (16) | false => (match (Ytmdoilnmllajjaa.ref04DeadlinePre a0E a0P a1) with | true => (match (decide (Ytmdoilnmllajjaa.ref04Deadline a0E a0P a1 > IntKind.i64.wrap (4611686018427387904 - a2))) with | true => (16) | false => (match (decide (Ytmdoilnmllajjaa.ref04Group a0E a0P a1 > IntKind.i64.wrap (4611686018427387904 - a2))) with | true => (16) | false => (match (Ytmdoilnmllajjaa.ref04ReleasePre a0E a0P a1) with | true => (match (Ytmdoilnmllajjaa.ref04BitPre a0E a0P a1) with | true => (match (decide (Ytmdoilnmllajjaa.ref04Group a0E a0P a1 > 0)) with | true => (0) | false => (0)) | false => 0) | false => 0))) | false => 0))))
def ref04OfPre (a0E : Int) (a0P : Int) (a1 : Int) (a2 : Int) : Bool := (match (!Ytmdoilnmllajjaa.ref04Number a0E a0P a1) with | true => true | false => (match (decide (a2 < 0)) with | true => true | false => (match (decide (a2 > 4611686018427387904)) with | true => true | false => (match (Ytmdoilnmllajjaa.ref04DeadlinePre a0E a0P a1) with | true => (match (decide (Ytmdoilnmllajjaa.ref04Deadline a0E a0P a1 > IntKind.i64.wrap (4611686018427387904 - a2))) with | true => true | false => (match (decide (Ytmdoilnmllajjaa.ref04Group a0E a0P a1 > IntKind.i64.wrap (4611686018427387904 - a2))) with | true => true | false => (match (Ytmdoilnmllajjaa.ref04ReleasePre a0E a0P a1) with | true => (match (Ytmdoilnmllajjaa.ref04BitPre a0E a0P a1) with | true => (match (decide (Ytmdoilnmllajjaa.ref04Group a0E a0P a1 > 0)) with | true => true | false => true) | false => false) | false => false))) | false => false))))
noncomputable def ref04OfCon : Con T O := fun args cs => match args, cs with
  | [.agg [.raw (.int .i64 a0E), .raw (.int .i64 a0P)], .raw (.int .i64 a1), .raw (.int .i64 a2)], [] => chk (ref04OfPre a0E a0P a1 a2) (retv (.tup [.agg [.raw (.int .i64 (ref04OfC0 a0E a0P a1 a2)), .raw (.int .i64 (ref04OfC1 a0E a0P a1 a2)), .raw (.int .i64 (ref04OfC2 a0E a0P a1 a2)), .raw (.int .i64 (ref04OfC3 a0E a0P a1 a2)), .raw (.int .i64 (ref04OfC4 a0E a0P a1 a2))], .raw (.int .i64 (ref04OfC5 a0E a0P a1 a2))]))
  | _, _ => .fail
theorem ref04OfVc (a0E : Int) (a0P : Int) (a1 : Int) (a2 : Int) : fnX X8 noAnn Try.f10 [.agg [.raw (.int .i64 a0E), .raw (.int .i64 a0P)], .raw (.int .i64 a1), .raw (.int .i64 a2)] [] (ends [] ⟨some (.tup [.agg [.raw (.int .i64 (ref04OfC0 a0E a0P a1 a2)), .raw (.int .i64 (ref04OfC1 a0E a0P a1 a2)), .raw (.int .i64 (ref04OfC2 a0E a0P a1 a2)), .raw (.int .i64 (ref04OfC3 a0E a0P a1 a2)), .raw (.int .i64 (ref04OfC4 a0E a0P a1 a2))], .raw (.int .i64 (ref04OfC5 a0E a0P a1 a2))]), []⟩) = ((match (!Ytmdoilnmllajjaa.ref04Number a0E a0P a1) with | true => ((((((ref04OfC0 a0E a0P a1 a2 = (0)) ∧ ((ref04OfC1 a0E a0P a1 a2 = (0)) ∧ ((ref04OfC2 a0E a0P a1 a2 = (0)) ∧ ((ref04OfC3 a0E a0P a1 a2 = (0)) ∧ ((ref04OfC4 a0E a0P a1 a2 = (0)) ∧ True)))))) ∧ ((ref04OfC5 a0E a0P a1 a2 = (1)) ∧ True))) ∧ True) ∧ True | false => (match (decide (a2 < 0)) with | true => ((((((ref04OfC0 a0E a0P a1 a2 = (0)) ∧ ((ref04OfC1 a0E a0P a1 a2 = (0)) ∧ ((ref04OfC2 a0E a0P a1 a2 = (0)) ∧ ((ref04OfC3 a0E a0P a1 a2 = (0)) ∧ ((ref04OfC4 a0E a0P a1 a2 = (0)) ∧ True)))))) ∧ ((ref04OfC5 a0E a0P a1 a2 = (1)) ∧ True))) ∧ True) ∧ True | false => (match (decide (a2 > 4611686018427387904)) with | true => ((((((ref04OfC0 a0E a0P a1 a2 = (0)) ∧ ((ref04OfC1 a0E a0P a1 a2 = (0)) ∧ ((ref04OfC2 a0E a0P a1 a2 = (0)) ∧ ((ref04OfC3 a0E a0P a1 a2 = (0)) ∧ ((ref04OfC4 a0E a0P a1 a2 = (0)) ∧ True)))))) ∧ ((ref04OfC5 a0E a0P a1 a2 = (16)) ∧ True))) ∧ True) ∧ True | false => (match (Ytmdoilnmllajjaa.ref04DeadlinePre a0E a0P a1) with | true => (match (decide (Ytmdoilnmllajjaa.ref04Deadline a0E a0P a1 > IntKind.i64.wrap (4611686018427387904 - a2))) with | true => ((((((ref04OfC0 a0E a0P a1 a2 = (0)) ∧ ((ref04OfC1 a0E a0P a1 a2 = (0)) ∧ ((ref04OfC2 a0E a0P a1 a2 = (0)) ∧ ((ref04OfC3 a0E a0P a1 a2 = (0)) ∧ ((ref04OfC4 a0E a0P a1 a2 = (0)) ∧ True)))))) ∧ ((ref04OfC5 a0E a0P a1 a2 = (16)) ∧ True))) ∧ True) ∧ True | false => (match (decide (Ytmdoilnmllajjaa.ref04Group a0E a0P a1 > IntKind.i64.wrap (4611686018427387904 - a2))) with | true => ((((((ref04OfC0 a0E a0P a1 a2 = (0)) ∧ ((ref04OfC1 a0E a0P a1 a2 = (0)) ∧ ((ref04OfC2 a0E a0P a1 a2 = (0)) ∧ ((ref04OfC3 a0E a0P a1 a2 = (0)) ∧ ((ref04OfC4 a0E a0P a1 a2 = (0)) ∧ True)))))) ∧ ((ref04OfC5 a0E a0P a1 a2 = (16)) ∧ True))) ∧ True) ∧ True | false => (match (Ytmdoilnmllajjaa.ref04ReleasePre a0E a0P a1) with | true => (match (Ytmdoilnmllajjaa.ref04DeadlinePre a0E a0P a1) with | true => (match (Ytmdoilnmllajjaa.ref04BitPre a0E a0P a1) with | true => (match (decide (Ytmdoilnmllajjaa.ref04Group a0E a0P a1 > 0)) with | true => ((((((ref04OfC0 a0E a0P a1 a2 = (a1)) ∧ ((ref04OfC1 a0E a0P a1 a2 = (IntKind.i64.wrap (Ytmdoilnmllajjaa.ref04Release a0E a0P a1 + a2))) ∧ ((ref04OfC2 a0E a0P a1 a2 = (IntKind.i64.wrap (Ytmdoilnmllajjaa.ref04Deadline a0E a0P a1 + a2))) ∧ ((ref04OfC3 a0E a0P a1 a2 = (Ytmdoilnmllajjaa.ref04Bit a0E a0P a1)) ∧ ((ref04OfC4 a0E a0P a1 a2 = (IntKind.i64.wrap (Ytmdoilnmllajjaa.ref04Group a0E a0P a1 + a2))) ∧ True)))))) ∧ ((ref04OfC5 a0E a0P a1 a2 = (0)) ∧ True))) ∧ True) ∧ True | false => ((((((ref04OfC0 a0E a0P a1 a2 = (a1)) ∧ ((ref04OfC1 a0E a0P a1 a2 = (IntKind.i64.wrap (Ytmdoilnmllajjaa.ref04Release a0E a0P a1 + a2))) ∧ ((ref04OfC2 a0E a0P a1 a2 = (IntKind.i64.wrap (Ytmdoilnmllajjaa.ref04Deadline a0E a0P a1 + a2))) ∧ ((ref04OfC3 a0E a0P a1 a2 = (Ytmdoilnmllajjaa.ref04Bit a0E a0P a1)) ∧ ((ref04OfC4 a0E a0P a1 a2 = (0)) ∧ True)))))) ∧ ((ref04OfC5 a0E a0P a1 a2 = (0)) ∧ True))) ∧ True) ∧ True) | false => False) | false => False) | false => False))) | false => False))))) := by kernel_rfl
theorem ref04OfOk : ConOk R Try.prog 10 ref04OfCon := con_of_fn R X8 (TabOk.con R X8Ok) mixed Try.call10 Try.func10 ref04OfCon (by
  intro args cs K h
  unfold ref04OfCon at h
  split at h
  · rename_i a0E a0P a1 a2
    rw [Tree.holds_chk] at h
    obtain ⟨hp, h⟩ := h
    refine ⟨noAnn, _, fun v S hv => ⟨_, h, hv⟩, ?_⟩
    rw [ref04OfVc]
    revert hp
    unfold ref04OfC0 ref04OfC1 ref04OfC2 ref04OfC3 ref04OfC4 ref04OfC5 ref04OfPre
    cases (!Ytmdoilnmllajjaa.ref04Number a0E a0P a1)
    ·
      cases (decide (a2 < 0))
      ·
        cases (decide (a2 > 4611686018427387904))
        ·
          cases (Ytmdoilnmllajjaa.ref04DeadlinePre a0E a0P a1)
          ·
            intro hp; cases hp
          ·
            cases (decide (Ytmdoilnmllajjaa.ref04Deadline a0E a0P a1 > IntKind.i64.wrap (4611686018427387904 - a2)))
            ·
              cases (decide (Ytmdoilnmllajjaa.ref04Group a0E a0P a1 > IntKind.i64.wrap (4611686018427387904 - a2)))
              ·
                cases (Ytmdoilnmllajjaa.ref04ReleasePre a0E a0P a1)
                ·
                  intro hp; cases hp
                ·
                  cases (Ytmdoilnmllajjaa.ref04BitPre a0E a0P a1)
                  ·
                    intro hp; cases hp
                  ·
                    cases (decide (Ytmdoilnmllajjaa.ref04Group a0E a0P a1 > 0))
                    ·
                      intro _; exact ⟨⟨⟨⟨rfl, ⟨rfl, ⟨rfl, ⟨rfl, ⟨rfl, trivial⟩⟩⟩⟩⟩, ⟨rfl, trivial⟩⟩, trivial⟩, trivial⟩
                    ·
                      intro _; exact ⟨⟨⟨⟨rfl, ⟨rfl, ⟨rfl, ⟨rfl, ⟨rfl, trivial⟩⟩⟩⟩⟩, ⟨rfl, trivial⟩⟩, trivial⟩, trivial⟩
              ·
                intro _; exact ⟨⟨⟨⟨rfl, ⟨rfl, ⟨rfl, ⟨rfl, ⟨rfl, trivial⟩⟩⟩⟩⟩, ⟨rfl, trivial⟩⟩, trivial⟩, trivial⟩
            ·
              intro _; exact ⟨⟨⟨⟨rfl, ⟨rfl, ⟨rfl, ⟨rfl, ⟨rfl, trivial⟩⟩⟩⟩⟩, ⟨rfl, trivial⟩⟩, trivial⟩, trivial⟩
        ·
          intro _; exact ⟨⟨⟨⟨rfl, ⟨rfl, ⟨rfl, ⟨rfl, ⟨rfl, trivial⟩⟩⟩⟩⟩, ⟨rfl, trivial⟩⟩, trivial⟩, trivial⟩
      ·
        intro _; exact ⟨⟨⟨⟨rfl, ⟨rfl, ⟨rfl, ⟨rfl, ⟨rfl, trivial⟩⟩⟩⟩⟩, ⟨rfl, trivial⟩⟩, trivial⟩, trivial⟩
    ·
      intro _; exact ⟨⟨⟨⟨rfl, ⟨rfl, ⟨rfl, ⟨rfl, ⟨rfl, trivial⟩⟩⟩⟩⟩, ⟨rfl, trivial⟩⟩, trivial⟩, trivial⟩
  · exact h.elim)
noncomputable def tab9 : Tab T O := (10, ref04OfCon) :: tab8
theorem tabOk9 : TabOk R Try.prog tab9 := TabOk.cons R ref04OfOk <| tabOk8
noncomputable def X9 : Ctx T O := { X0 with con := conOf tab9 }
theorem X9Ok : TabOk R X9.P tab9 := tabOk9
end Go.Proofs.Ytmdoilnmllajjaa
