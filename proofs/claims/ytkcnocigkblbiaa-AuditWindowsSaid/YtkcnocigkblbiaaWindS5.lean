/-
  Part of a proof over the seat Ytkcnocigkblbiaa: printed by a small program or typed by hand.
-/
import Derived.Test.YtkcnocigkblbiaaWindS4
import Derived.KernelRfl
namespace Go.Proofs.Ytkcnocigkblbiaa
open Go.Sx Go.Proofs Classical

def few20 (L : List Note) : List Note := L.take 20
def checkK (L : List Note) (m : Int) : Int := bif firstI auditLate1 L 0 != -1 then 1 else bif orderGo [] L 0 != -1 then 2 else bif slotsGo m none [] [] L 0 != -1 then 3 else 0
def checkAt (L : List Note) (m : Int) : Int := bif firstI auditLate1 L 0 != -1 then firstI auditLate1 L 0 else bif orderGo [] L 0 != -1 then orderGo [] L 0 else slotsGo m none [] [] L 0

/-! ### regatta/regattalaw20.few -/
def law20FewText (L : List Note) : Prop := (match (decide ((↑L.length : Int) > (20 : Int))) with | true => (match (slOk none (some (20 : Int)) none (↑L.length : Int)) with | true => ((True ∧ True) ∧ ((L = L) ∧ ((few20 L = cutL none (some (20 : Int)) L) ∧ True))) | false => False) | false => ((True ∧ True) ∧ ((L = L) ∧ ((few20 L = L) ∧ True))))
theorem law20FewVc (L : List Note) : fnX X4 (noAnn) Try.f15 [.own 0] [.ro 2 L] (ends [.ro 2 L] ⟨some (.own 1), [(1, some (.ro 2 (few20 L)))]⟩) = law20FewText L := by kernel_rfl
theorem law20FewHolds (L : List Note) : law20FewText L := by
  unfold law20FewText few20
  by_cases h : 20 < L.length
  · rw [show decide ((L.length : Int) > 20) = true by simp; omega]
    rw [show slOk none (some 20) none (L.length : Int) = true by (simp only [slOk, optB]; simp; exact decide_eq_true (by omega))]
    simp [cutL, optB]
  · rw [show decide ((L.length : Int) > 20) = false by simp; omega]
    simp [List.take_of_length_le (show L.length ≤ 20 by omega)]
noncomputable def law20FewCon : Con T O := fun args cs => match args, cs with
  | [.own 0], [.ro 2 L] => .ret ⟨some (.own 1), [(1, some (.ro 2 (few20 L)))]⟩
  | _, _ => .fail
theorem law20FewOk : ConOk R Try.prog 15 law20FewCon := con_of_fn R (X4) (TabOk.con R X4Ok) mixed Try.call15 Try.func15 law20FewCon (by
  intro args cs K h
  unfold law20FewCon at h
  split at h
  · rename_i L
    refine ⟨noAnn, _, fun v S hv => ⟨_, h, hv⟩, ?_⟩
    rw [law20FewVc L]
    exact law20FewHolds L
  · exact h.elim)
/-! ### regatta/audit.Check -/
def auditCheckText (L : List Note) (m : Int) : Prop := (match (decide (L.length ≤ (140737488355328 : Nat))) with | true => (match (decide (L.length ≤ (140737488355328 : Nat))) with | true => (match (decide (L.length ≤ (140737488355328 : Nat))) with | true => (match (firstI auditLate1 L (0 : Int) != (-1 : Int)) with | true => ((((checkK L m = IntKind.i64.wrap ((0 : Int) + (1 : Int))) ∧ ((checkAt L m = firstI auditLate1 L (0 : Int)) ∧ True)) ∧ True) ∧ ((L = L) ∧ True)) | false => (match (orderGo [] L (0 : Int) != (-1 : Int)) with | true => ((((checkK L m = IntKind.i64.wrap (IntKind.i64.wrap ((0 : Int) + (1 : Int)) + (1 : Int))) ∧ ((checkAt L m = orderGo [] L (0 : Int)) ∧ True)) ∧ True) ∧ ((L = L) ∧ True)) | false => (match (slotsGo m none [] [] L (0 : Int) != (-1 : Int)) with | true => ((((checkK L m = IntKind.i64.wrap (IntKind.i64.wrap (IntKind.i64.wrap ((0 : Int) + (1 : Int)) + (1 : Int)) + (1 : Int))) ∧ ((checkAt L m = slotsGo m none [] [] L (0 : Int)) ∧ True)) ∧ True) ∧ ((L = L) ∧ True)) | false => ((((checkK L m = (0 : Int)) ∧ ((checkAt L m = (-1 : Int)) ∧ True)) ∧ True) ∧ ((L = L) ∧ True))))) | false => False) | false => False) | false => False)
theorem auditCheckVc (L : List Note) (m : Int) : fnX X4 (annOf [] [(2, 4)]) Try.f21 [.own 0, .raw (.int .i64 m)] [.ro 2 L] (ends [.ro 2 L] ⟨some (.tup [.raw (.int .i64 (checkK L m)), .raw (.int .i64 (checkAt L m))]), []⟩) = auditCheckText L m := by kernel_rfl
theorem auditCheckHolds (L : List Note) (m : Int) (hp : L.length ≤ 140737488355328) : auditCheckText L m := by
  unfold auditCheckText checkK checkAt
  rw [decide_eq_true hp]
  cases h1 : firstI auditLate1 L 0 != -1
  · cases h2 : orderGo [] L 0 != -1
    · cases h3 : slotsGo m none [] [] L 0 != -1
      · simp at h3
        simp [h3]
      · exact ⟨⟨⟨rfl, rfl, trivial⟩, trivial⟩, rfl, trivial⟩
    · exact ⟨⟨⟨rfl, rfl, trivial⟩, trivial⟩, rfl, trivial⟩
  · exact ⟨⟨⟨rfl, rfl, trivial⟩, trivial⟩, rfl, trivial⟩
noncomputable def auditCheckCon : Con T O := fun args cs => match args, cs with
  | [.own 0, .raw (.int .i64 m)], [.ro 2 L] => chk (decide (L.length ≤ 140737488355328)) (.ret ⟨some (.tup [.raw (.int .i64 (checkK L m)), .raw (.int .i64 (checkAt L m))]), []⟩)
  | _, _ => .fail
theorem auditCheckOk : ConOk R Try.prog 21 auditCheckCon := con_of_fn R (X4) (TabOk.con R X4Ok) mixed Try.call21 Try.func21 auditCheckCon (by
  intro args cs K h
  unfold auditCheckCon at h
  split at h
  · rename_i m L
    rw [Tree.holds_chk] at h
    obtain ⟨hp, h⟩ := h
    refine ⟨annOf [] [(2, 4)], _, fun v S hv => ⟨_, h, hv⟩, ?_⟩
    rw [auditCheckVc L m]
    exact auditCheckHolds L m (of_decide_eq_true hp)
  · exact h.elim)
noncomputable def tab5 : Tab T O := (15, law20FewCon) :: (21, auditCheckCon) :: tab4
theorem tabOk5 : TabOk R Try.prog tab5 := TabOk.cons R law20FewOk <| TabOk.cons R auditCheckOk <| tabOk4
noncomputable def X5 : Ctx T O := { X0 with con := conOf tab5 }
theorem X5Ok : TabOk R X5.P tab5 := tabOk5
end Go.Proofs.Ytkcnocigkblbiaa
