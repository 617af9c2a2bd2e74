/-
  Part of a proof over the seat Ytmdoilnmllajjaa: printed by a small program or typed by hand.
-/
import Derived.Test.YtmdoilnmllajjaaRulS6
import Derived.KernelRfl
namespace Go.Proofs.Ytmdoilnmllajjaa
open Go.Sx Go.Proofs Classical
/-! ### regatta/regattaref04.Of -/
def ref04OfC0 (a0E : Int) (a0P : Int) (a1 : Int) (a2 : Int) : Int := (match (!ref04Number a0E a0P a1) with | true => ((0 : Int)) | false => (match (decide (a2 < (0 : Int))) with | true => ((0 : Int)) | false => (match (decide (a2 > (4611686018427387904 : Int))) with | true => ((0 : Int)) | false => (match (ref04DeadlinePre a0E a0P a1) with | true => (match (decide (ref04Deadline a0E a0P a1 > IntKind.i64.wrap ((4611686018427387904 : Int) - a2))) with | true => ((0 : Int)) | false => (match (decide (ref04Group a0E a0P a1 > IntKind.i64.wrap ((4611686018427387904 : Int) - a2))) with | true => ((0 : Int)) | false => (match (ref04ReleasePre a0E a0P a1) with | true => (match (ref04BitPre a0E a0P a1) with | true => (match (decide (ref04Group a0E a0P a1 > (0 : Int))) with | true => (a1) | false => (a1)) | false => 0) | false => 0))) | false => 0))))
def ref04OfC1 (a0E : Int) (a0P : Int) (a1 : Int) (a2 : Int) : Int := (match (!ref04Number a0E a0P a1) with | true => ((0 : Int)) | false => (match (decide (a2 < (0 : Int))) with | true => ((0 : Int)) | false => (match (decide (a2 > (4611686018427387904 : Int))) with | true => ((0 : Int)) | false => (match (ref04DeadlinePre a0E a0P a1) with | true => (match (decide (ref04Deadline a0E a0P a1 > IntKind.i64.wrap ((4611686018427387904 : Int) - a2))) with | true => ((0 : Int)) | false => (match (decide (ref04Group a0E a0P a1 > IntKind.i64.wrap ((4611686018427387904 : Int) - a2))) with | true => ((0 : Int)) | false => (match (ref04ReleasePre a0E a0P a1) with | true => (match (ref04BitPre a0E a0P a1) with | true => (match (decide (ref04Group a0E a0P a1 > (0 : Int))) with | true => (IntKind.i64.wrap (ref04Release a0E a0P a1 + a2)) | false => (IntKind.i64.wrap (ref04Release a0E a0P a1 + a2))) | false => 0) | false => 0))) | false => 0))))
def ref04OfC2 (a0E : Int) (a0P : Int) (a1 : Int) (a2 : Int) : Int := (match (!ref04Number a0E a0P a1) with | true => ((0 : Int)) | false => (match (decide (a2 < (0 : Int))) with | true => ((0 : Int)) | false => (match (decide (a2 > (4611686018427387904 : Int))) with | true => ((0 : Int)) | false => (match (ref04DeadlinePre a0E a0P a1) with | true => (match (decide (ref04Deadline a0E a0P a1 > IntKind.i64.wrap ((4611686018427387904 : Int) - a2))) with | true => ((0 : Int)) | false => (match (decide (ref04Group a0E a0P a1 > IntKind.i64.wrap ((4611686018427387904 : Int) - a2))) with | true => ((0 : Int)) | false => (match (ref04ReleasePre a0E a0P a1) with | true => (match (ref04BitPre a0E a0P a1) with | true => (match (decide (ref04Group a0E a0P a1 > (0 : Int))) with | true => (IntKind.i64.wrap (ref04Deadline a0E a0P a1 + a2)) | false => (IntKind.i64.wrap (ref04Deadline a0E a0P a1 + a2))) | false => 0) | false => 0))) | false => 0))))
def ref04OfC3 (a0E : Int) (a0P : Int) (a1 : Int) (a2 : Int) : Int := (match (!ref04Number a0E a0P a1) with | true => ((0 : Int)) | false => (match (decide (a2 < (0 : Int))) with | true => ((0 : Int)) | false => (match (decide (a2 > (4611686018427387904 : Int))) with | true => ((0 : Int)) | false => (match (ref04DeadlinePre a0E a0P a1) with | true => (match (decide (ref04Deadline a0E a0P a1 > IntKind.i64.wrap ((4611686018427387904 : Int) - a2))) with | true => ((0 : Int)) | false => (match (decide (ref04Group a0E a0P a1 > IntKind.i64.wrap ((4611686018427387904 : Int) - a2))) with | true => ((0 : Int)) | false => (match (ref04ReleasePre a0E a0P a1) with | true => (match (ref04BitPre a0E a0P a1) with | true => (match (decide (ref04Group a0E a0P a1 > (0 : Int))) with | true => (ref04Bit a0E a0P a1) | false => (ref04Bit a0E a0P a1)) | false => 0) | false => 0))) | false => 0))))
def ref04OfC4 (a0E : Int) (a0P : Int) (a1 : Int) (a2 : Int) : Int := (match (!ref04Number a0E a0P a1) with | true => ((0 : Int)) | false => (match (decide (a2 < (0 : Int))) with | true => ((0 : Int)) | false => (match (decide (a2 > (4611686018427387904 : Int))) with | true => ((0 : Int)) | false => (match (ref04DeadlinePre a0E a0P a1) with | true => (match (decide (ref04Deadline a0E a0P a1 > IntKind.i64.wrap ((4611686018427387904 : Int) - a2))) with | true => ((0 : Int)) | false => (match (decide (ref04Group a0E a0P a1 > IntKind.i64.wrap ((4611686018427387904 : Int) - a2))) with | true => ((0 : Int)) | false => (match (ref04ReleasePre a0E a0P a1) with | true => (match (ref04BitPre a0E a0P a1) with | true => (match (decide (ref04Group a0E a0P a1 > (0 : Int))) with | true => (IntKind.i64.wrap (ref04Group a0E a0P a1 + a2)) | false => ((0 : Int))) | false => 0) | false => 0))) | false => 0))))
def ref04OfC5 (a0E : Int) (a0P : Int) (a1 : Int) (a2 : Int) : Int := (match (!ref04Number a0E a0P a1) with | true => ((1 : Int)) | false => (match (decide (a2 < (0 : Int))) with | true => ((1 : Int)) | false => (match (decide (a2 > (4611686018427387904 : Int))) with | true => ((16 : Int)) | false => (match (ref04DeadlinePre a0E a0P a1) with | true => (match (decide (ref04Deadline a0E a0P a1 > IntKind.i64.wrap ((4611686018427387904 : Int) - a2))) with | true => ((16 : Int)) | false => (match (decide (ref04Group a0E a0P a1 > IntKind.i64.wrap ((4611686018427387904 : Int) - a2))) with | true => ((16 : Int)) | false => (match (ref04ReleasePre a0E a0P a1) with | true => (match (ref04BitPre a0E a0P a1) with | true => (match (decide (ref04Group a0E a0P a1 > (0 : Int))) with | true => ((0 : Int)) | false => ((0 : Int))) | false => 0) | false => 0))) | false => 0))))
def ref04OfPre (a0E : Int) (a0P : Int) (a1 : Int) (a2 : Int) : Bool := (match (!ref04Number a0E a0P a1) with | true => true | false => (match (decide (a2 < (0 : Int))) with | true => true | false => (match (decide (a2 > (4611686018427387904 : Int))) with | true => true | false => (match (ref04DeadlinePre a0E a0P a1) with | true => (match (decide (ref04Deadline a0E a0P a1 > IntKind.i64.wrap ((4611686018427387904 : Int) - a2))) with | true => true | false => (match (decide (ref04Group a0E a0P a1 > IntKind.i64.wrap ((4611686018427387904 : Int) - a2))) with | true => true | false => (match (ref04ReleasePre a0E a0P a1) with | true => (match (ref04BitPre a0E a0P a1) with | true => (match (decide (ref04Group a0E a0P a1 > (0 : Int))) with | true => true | false => true) | false => false) | false => false))) | false => false))))
noncomputable def ref04OfCon : Con T O := fun args cs => match args, cs with
  | [.agg [.raw (.int .i64 a0E), .raw (.int .i64 a0P)], .raw (.int .i64 a1), .raw (.int .i64 a2)], [] => chk (ref04OfPre a0E a0P a1 a2) (retv (.tup [.agg [.raw (.int .i64 (ref04OfC0 a0E a0P a1 a2)), .raw (.int .i64 (ref04OfC1 a0E a0P a1 a2)), .raw (.int .i64 (ref04OfC2 a0E a0P a1 a2)), .raw (.int .i64 (ref04OfC3 a0E a0P a1 a2)), .raw (.int .i64 (ref04OfC4 a0E a0P a1 a2))], .raw (.int .i64 (ref04OfC5 a0E a0P a1 a2))]))
  | _, _ => .fail
theorem ref04OfVc (a0E : Int) (a0P : Int) (a1 : Int) (a2 : Int) : fnX X6 noAnn Try.f10 [.agg [.raw (.int .i64 a0E), .raw (.int .i64 a0P)], .raw (.int .i64 a1), .raw (.int .i64 a2)] [] (ends [] ⟨some (.tup [.agg [.raw (.int .i64 (ref04OfC0 a0E a0P a1 a2)), .raw (.int .i64 (ref04OfC1 a0E a0P a1 a2)), .raw (.int .i64 (ref04OfC2 a0E a0P a1 a2)), .raw (.int .i64 (ref04OfC3 a0E a0P a1 a2)), .raw (.int .i64 (ref04OfC4 a0E a0P a1 a2))], .raw (.int .i64 (ref04OfC5 a0E a0P a1 a2))]), []⟩) = ((match (!ref04Number a0E a0P a1) with | true => ((((((ref04OfC0 a0E a0P a1 a2 = ((0 : Int))) ∧ ((ref04OfC1 a0E a0P a1 a2 = ((0 : Int))) ∧ ((ref04OfC2 a0E a0P a1 a2 = ((0 : Int))) ∧ ((ref04OfC3 a0E a0P a1 a2 = ((0 : Int))) ∧ ((ref04OfC4 a0E a0P a1 a2 = ((0 : Int))) ∧ True)))))) ∧ ((ref04OfC5 a0E a0P a1 a2 = ((1 : Int))) ∧ True))) ∧ True) ∧ True | false => (match (decide (a2 < (0 : Int))) with | true => ((((((ref04OfC0 a0E a0P a1 a2 = ((0 : Int))) ∧ ((ref04OfC1 a0E a0P a1 a2 = ((0 : Int))) ∧ ((ref04OfC2 a0E a0P a1 a2 = ((0 : Int))) ∧ ((ref04OfC3 a0E a0P a1 a2 = ((0 : Int))) ∧ ((ref04OfC4 a0E a0P a1 a2 = ((0 : Int))) ∧ True)))))) ∧ ((ref04OfC5 a0E a0P a1 a2 = ((1 : Int))) ∧ True))) ∧ True) ∧ True | false => (match (decide (a2 > (4611686018427387904 : Int))) with | true => ((((((ref04OfC0 a0E a0P a1 a2 = ((0 : Int))) ∧ ((ref04OfC1 a0E a0P a1 a2 = ((0 : Int))) ∧ ((ref04OfC2 a0E a0P a1 a2 = ((0 : Int))) ∧ ((ref04OfC3 a0E a0P a1 a2 = ((0 : Int))) ∧ ((ref04OfC4 a0E a0P a1 a2 = ((0 : Int))) ∧ True)))))) ∧ ((ref04OfC5 a0E a0P a1 a2 = ((16 : Int))) ∧ True))) ∧ True) ∧ True | false => (match (ref04DeadlinePre a0E a0P a1) with | true => (match (decide (ref04Deadline a0E a0P a1 > IntKind.i64.wrap ((4611686018427387904 : Int) - a2))) with | true => ((((((ref04OfC0 a0E a0P a1 a2 = ((0 : Int))) ∧ ((ref04OfC1 a0E a0P a1 a2 = ((0 : Int))) ∧ ((ref04OfC2 a0E a0P a1 a2 = ((0 : Int))) ∧ ((ref04OfC3 a0E a0P a1 a2 = ((0 : Int))) ∧ ((ref04OfC4 a0E a0P a1 a2 = ((0 : Int))) ∧ True)))))) ∧ ((ref04OfC5 a0E a0P a1 a2 = ((16 : Int))) ∧ True))) ∧ True) ∧ True | false => (match (decide (ref04Group a0E a0P a1 > IntKind.i64.wrap ((4611686018427387904 : Int) - a2))) with | true => ((((((ref04OfC0 a0E a0P a1 a2 = ((0 : Int))) ∧ ((ref04OfC1 a0E a0P a1 a2 = ((0 : Int))) ∧ ((ref04OfC2 a0E a0P a1 a2 = ((0 : Int))) ∧ ((ref04OfC3 a0E a0P a1 a2 = ((0 : Int))) ∧ ((ref04OfC4 a0E a0P a1 a2 = ((0 : Int))) ∧ True)))))) ∧ ((ref04OfC5 a0E a0P a1 a2 = ((16 : Int))) ∧ True))) ∧ True) ∧ True | false => (match (ref04ReleasePre a0E a0P a1) with | true => (match (ref04DeadlinePre a0E a0P a1) with | true => (match (ref04BitPre a0E a0P a1) with | true => (match (decide (ref04Group a0E a0P a1 > (0 : Int))) with | true => ((((((ref04OfC0 a0E a0P a1 a2 = (a1)) ∧ ((ref04OfC1 a0E a0P a1 a2 = (IntKind.i64.wrap (ref04Release a0E a0P a1 + a2))) ∧ ((ref04OfC2 a0E a0P a1 a2 = (IntKind.i64.wrap (ref04Deadline a0E a0P a1 + a2))) ∧ ((ref04OfC3 a0E a0P a1 a2 = (ref04Bit a0E a0P a1)) ∧ ((ref04OfC4 a0E a0P a1 a2 = (IntKind.i64.wrap (ref04Group a0E a0P a1 + a2))) ∧ True)))))) ∧ ((ref04OfC5 a0E a0P a1 a2 = ((0 : Int))) ∧ True))) ∧ True) ∧ True | false => ((((((ref04OfC0 a0E a0P a1 a2 = (a1)) ∧ ((ref04OfC1 a0E a0P a1 a2 = (IntKind.i64.wrap (ref04Release a0E a0P a1 + a2))) ∧ ((ref04OfC2 a0E a0P a1 a2 = (IntKind.i64.wrap (ref04Deadline a0E a0P a1 + a2))) ∧ ((ref04OfC3 a0E a0P a1 a2 = (ref04Bit a0E a0P a1)) ∧ ((ref04OfC4 a0E a0P a1 a2 = ((0 : Int))) ∧ True)))))) ∧ ((ref04OfC5 a0E a0P a1 a2 = ((0 : Int))) ∧ True))) ∧ True) ∧ True) | false => False) | false => False) | false => False))) | false => False))))) := by kernel_rfl
theorem ref04OfOk : ConOk R Try.prog 10 ref04OfCon := con_of_fn R X6 (TabOk.con R X6Ok) mixed Try.call10 Try.func10 ref04OfCon (by
  intro args cs K h
  unfold ref04OfCon at h
  split at h
  · rename_i a0E a0P a1 a2
    rw [Tree.holds_chk] at h
    obtain ⟨hp, h⟩ := h
    refine ⟨noAnn, _, fun v S hv => ⟨_, h, hv⟩, ?_⟩
    rw [ref04OfVc a0E a0P a1 a2]
    revert hp
    unfold ref04OfC0 ref04OfC1 ref04OfC2 ref04OfC3 ref04OfC4 ref04OfC5 ref04OfPre
    cases (!ref04Number a0E a0P a1)
    ·
      cases (decide (a2 < (0 : Int)))
      ·
        cases (decide (a2 > (4611686018427387904 : Int)))
        ·
          cases (ref04DeadlinePre a0E a0P a1)
          ·
            intro hp; cases hp
          ·
            cases (decide (ref04Deadline a0E a0P a1 > IntKind.i64.wrap ((4611686018427387904 : Int) - a2)))
            ·
              cases (decide (ref04Group a0E a0P a1 > IntKind.i64.wrap ((4611686018427387904 : Int) - a2)))
              ·
                cases (ref04ReleasePre a0E a0P a1)
                ·
                  intro hp; cases hp
                ·
                  cases (ref04BitPre a0E a0P a1)
                  ·
                    intro hp; cases hp
                  ·
                    cases (decide (ref04Group a0E a0P a1 > (0 : Int)))
                    ·
                      intro _; exact ⟨⟨⟨⟨rfl, ⟨rfl, ⟨rfl, ⟨rfl, ⟨rfl, trivial⟩⟩⟩⟩⟩, ⟨rfl, trivial⟩⟩, trivial⟩, trivial⟩
                    ·
                      intro _; exact ⟨⟨⟨⟨rfl, ⟨rfl, ⟨rfl, ⟨rfl, ⟨rfl, trivial⟩⟩⟩⟩⟩, ⟨rfl, trivial⟩⟩, trivial⟩, trivial⟩
              ·
                intro _; exact ⟨⟨⟨⟨rfl, ⟨rfl, ⟨rfl, ⟨rfl, ⟨rfl, trivial⟩⟩⟩⟩⟩, ⟨rfl, trivial⟩⟩, trivial⟩, trivial⟩
            ·
              intro _; exact ⟨⟨⟨⟨rfl, ⟨rfl, ⟨rfl, ⟨rfl, ⟨rfl, trivial⟩⟩⟩⟩⟩, ⟨rfl, trivial⟩⟩, trivial⟩, trivial⟩
        ·
          intro _; exact ⟨⟨⟨⟨rfl, ⟨rfl, ⟨rfl, ⟨rfl, ⟨rfl, trivial⟩⟩⟩⟩⟩, ⟨rfl, trivial⟩⟩, trivial⟩, trivial⟩
      ·
        intro _; exact ⟨⟨⟨⟨rfl, ⟨rfl, ⟨rfl, ⟨rfl, ⟨rfl, trivial⟩⟩⟩⟩⟩, ⟨rfl, trivial⟩⟩, trivial⟩, trivial⟩
    ·
      intro _; exact ⟨⟨⟨⟨rfl, ⟨rfl, ⟨rfl, ⟨rfl, ⟨rfl, trivial⟩⟩⟩⟩⟩, ⟨rfl, trivial⟩⟩, trivial⟩, trivial⟩
  · exact h.elim)
/-! ### regatta/rule.Latest -/
def latestK0Text (L : List Ev) : Prop := (match ((↑L.length : Int) == (0 : Int)) with | true => ((((((latE L).At = (0 : Int)) ∧ (((latE L).ID = (0 : Int)) ∧ (((latE L).Kind = (0 : Int)) ∧ True))) ∧ ((decide ((0 : Nat) < L.length) = false) ∧ True)) ∧ True) ∧ ((L = L) ∧ True)) | false => (match (decide ((0 : Nat) < L.length ∧ L.length ≤ (140737488355328 : Nat))) with | true => ((((((latE L).At = (latE L).At) ∧ (((latE L).ID = (latE L).ID) ∧ (((latE L).Kind = (latE L).Kind) ∧ True))) ∧ ((decide ((0 : Nat) < L.length) = true) ∧ True)) ∧ True) ∧ ((L = L) ∧ True)) | false => False))
theorem latestK0Vc (L : List Ev) : fnX X6 (noAnn) Try.f17 [.own 0] [.ro 2 L] (ends [.ro 2 L] ⟨some (.tup [.agg [.raw (.int .i64 (latE L).At), .raw (.int .i64 (latE L).ID), .raw (.int .i64 (latE L).Kind)], .raw (.bool (decide (0 < L.length)))]), []⟩) = latestK0Text L := by kernel_rfl
theorem latestK0Holds (L : List Ev) (hp : L.length ≤ 140737488355328) : latestK0Text L := by
  unfold latestK0Text
  by_cases h : L.length = 0
  · have e : L = [] := List.length_eq_zero_iff.1 h
    subst e
    repeat' first | trivial | rfl | apply And.intro
  · rw [show ((L.length : Int) == (0 : Int)) = false by rw [beq_eq_false_iff_ne]; omega, decide_eq_true (⟨by omega, hp⟩ : 0 < L.length ∧ L.length ≤ 140737488355328)]
    have e : decide (0 < L.length) = true := decide_eq_true (by omega)
    repeat' first | exact e | trivial | rfl | apply And.intro
def latestK1Text  : Prop := ((((((0 : Int) = (0 : Int)) ∧ (((0 : Int) = (0 : Int)) ∧ (((0 : Int) = (0 : Int)) ∧ True))) ∧ ((false = false) ∧ True)) ∧ True) ∧ True)
theorem latestK1Vc  : fnX X6 (noAnn) Try.f17 [.raw (.slice none 0 0)] [] (ends [] ⟨some (.tup [.agg [.raw (.int .i64 0), .raw (.int .i64 0), .raw (.int .i64 0)], .raw (.bool false)]), []⟩) = latestK1Text  := by kernel_rfl
theorem latestK1Holds  : latestK1Text  := by
  unfold latestK1Text
  repeat' first | trivial | rfl | apply And.intro
noncomputable def latestCon : Con T O := fun args cs => match args, cs with
  | [.own 0], [.ro 2 L] => chk (decide (L.length ≤ 140737488355328)) (.ret ⟨some (.tup [.agg [.raw (.int .i64 (latE L).At), .raw (.int .i64 (latE L).ID), .raw (.int .i64 (latE L).Kind)], .raw (.bool (decide (0 < L.length)))]), []⟩)
  | [.raw (.slice none 0 0)], [] => .ret ⟨some (.tup [.agg [.raw (.int .i64 0), .raw (.int .i64 0), .raw (.int .i64 0)], .raw (.bool false)]), []⟩
  | _, _ => .fail
theorem latestOk : ConOk R Try.prog 17 latestCon := con_of_fn R (X6) (TabOk.con R X6Ok) mixed Try.call17 Try.func17 latestCon (by
  intro args cs K h
  unfold latestCon at h
  split at h
  · rename_i L
    rw [Tree.holds_chk] at h
    obtain ⟨hp, h⟩ := h
    refine ⟨noAnn, _, fun v S hv => ⟨_, h, hv⟩, ?_⟩
    rw [latestK0Vc L]
    exact latestK0Holds L (of_decide_eq_true hp)
  ·
    refine ⟨noAnn, _, fun v S hv => ⟨_, h, hv⟩, ?_⟩
    rw [latestK1Vc ]
    exact latestK1Holds 
  · exact h.elim)
noncomputable def tab7 : Tab T O := (10, ref04OfCon) :: (17, latestCon) :: tab6
theorem tabOk7 : TabOk R Try.prog tab7 := TabOk.cons R ref04OfOk <| TabOk.cons R latestOk <| tabOk6
noncomputable def X7 : Ctx T O := { X0 with con := conOf tab7 }
theorem X7Ok : TabOk R X7.P tab7 := tabOk7
end Go.Proofs.Ytmdoilnmllajjaa
