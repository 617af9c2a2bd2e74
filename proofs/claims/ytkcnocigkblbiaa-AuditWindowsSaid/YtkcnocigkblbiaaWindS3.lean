/-
  Part of a proof over the seat Ytkcnocigkblbiaa: printed by a small program or typed by hand.
-/
import Derived.Test.YtkcnocigkblbiaaWindS2
import Derived.KernelRfl
namespace Go.Proofs.Ytkcnocigkblbiaa
open Go.Sx Go.Proofs Classical

/-- the first place where something is so -/
def firstI {α : Type} (p : α → Bool) : List α → Int → Int
  | [], _ => -1
  | a :: l, i => bif p a then i else firstI p l (i + 1)

/-! ### slices.IndexFunc[[]regatta/api.Note,regatta/api.Note] -/
def indexNoteK0Text (L : List Note) : Prop := ((∃ x : Nat, (((x ≤ L.length) ∧ (firstI auditLate1 L (0 : Int) = firstI auditLate1 (List.drop x L) (↑x : Int))) ∧ ((True ∧ (True ∧ (True ∧ (((↑L.length : Int) = (↑L.length : Int)) ∧ (((↑x : Int) = (0 : Int)) ∧ True))))) ∧ ((L = L) ∧ True)))) ∧ (∀ x : Nat, (((x ≤ L.length) ∧ (firstI auditLate1 L (0 : Int) = firstI auditLate1 (List.drop x L) (↑x : Int))) → (match (decide ((↑x : Int) < (↑L.length : Int))) with | true => (match (inb (↑x : Int) L.length) with | true => (match (inb (↑x : Int) L.length) with | true => (match (auditLate1 (at' (T (2 : Nat)).zero L (↑x : Int))) with | true => (((firstI auditLate1 L (0 : Int) = (↑x : Int)) ∧ True) ∧ ((L = L) ∧ True)) | false => (∃ x' : Nat, (((x' ≤ L.length) ∧ (firstI auditLate1 L (0 : Int) = firstI auditLate1 (List.drop x' L) (↑x' : Int))) ∧ ((L.length - x' < L.length - x) ∧ ((True ∧ (True ∧ (True ∧ (((↑L.length : Int) = (↑L.length : Int)) ∧ (((↑x' : Int) = IntKind.i64.wrap ((↑x : Int) + (1 : Int))) ∧ True))))) ∧ ((L = L) ∧ True)))))) | false => False) | false => False) | false => (((firstI auditLate1 L (0 : Int) = (-1 : Int)) ∧ True) ∧ ((L = L) ∧ True))))))
theorem indexNoteK0Vc (L : List Note) : fnX X2 (oneLoop 2 { σ := Nat, st := fun S x => (S.keep [0, 1, 6, 7]).int 8 x, inv := fun _ x => x ≤ L.length ∧ firstI auditLate1 L 0 = firstI auditLate1 (L.drop x) x, m := fun x => L.length - x }) Try.f25 [.own 0, .fn 26 []] [.ro 2 L] (ends [.ro 2 L] ⟨some (.raw (.int .i64 (firstI auditLate1 L 0))), []⟩) = indexNoteK0Text L := by kernel_rfl
theorem indexNoteK0Holds (L : List Note) (hp : L.length ≤ 140737488355328) : indexNoteK0Text L := by
  unfold indexNoteK0Text
  refine ⟨⟨0, ⟨by omega, rfl⟩, ⟨trivial, trivial, trivial, rfl, rfl, trivial⟩, rfl, trivial⟩, ?_⟩
  rintro x ⟨hx, hs⟩
  by_cases h : x < L.length
  · rw [dec_lt h, inb_nat h, at_nat h]
    rw [drop_at h] at hs
    simp only [firstI] at hs
    cases hp : auditLate1 L[x]
    · rw [hp] at hs
      exact ⟨x + 1, ⟨by omega, by simpa using hs⟩, by omega, ⟨trivial, trivial, trivial, rfl, (wrap_succ h (by omega)).symm, trivial⟩, rfl, trivial⟩
    · rw [hp] at hs
      exact ⟨⟨by simpa using hs, trivial⟩, rfl, trivial⟩
  · rw [dec_ge (by omega)]
    rw [List.drop_of_length_le (by omega)] at hs
    exact ⟨⟨hs, trivial⟩, rfl, trivial⟩
def indexNoteK1Text  : Prop := ((((-1 : Int) = (-1 : Int)) ∧ True) ∧ True)
theorem indexNoteK1Vc  : fnX X2 (annOf [] [(2, 1)]) Try.f25 [.raw (.slice none 0 0), .fn 26 []] [] (ends [] ⟨some (.raw (.int .i64 (-1))), []⟩) = indexNoteK1Text  := by kernel_rfl
theorem indexNoteK1Holds  : indexNoteK1Text  := by
  unfold indexNoteK1Text
  simp
noncomputable def indexNoteCon : Con T O := fun args cs => match args, cs with
  | [.own 0, .fn 26 []], [.ro 2 L] => chk (decide (L.length ≤ 140737488355328)) (.ret ⟨some (.raw (.int .i64 (firstI auditLate1 L 0))), []⟩)
  | [.raw (.slice none 0 0), .fn 26 []], [] => .ret ⟨some (.raw (.int .i64 (-1))), []⟩
  | _, _ => .fail
theorem indexNoteOk : ConOk R Try.prog 25 indexNoteCon := con_of_fn R (X2) (TabOk.con R X2Ok) mixed Try.call25 Try.func25 indexNoteCon (by
  intro args cs K h
  unfold indexNoteCon at h
  split at h
  · rename_i L
    rw [Tree.holds_chk] at h
    obtain ⟨hp, h⟩ := h
    refine ⟨oneLoop 2 { σ := Nat, st := fun S x => (S.keep [0, 1, 6, 7]).int 8 x, inv := fun _ x => x ≤ L.length ∧ firstI auditLate1 L 0 = firstI auditLate1 (L.drop x) x, m := fun x => L.length - x }, _, fun v S hv => ⟨_, h, hv⟩, ?_⟩
    rw [indexNoteK0Vc L]
    exact indexNoteK0Holds L (of_decide_eq_true hp)
  ·
    refine ⟨annOf [] [(2, 1)], _, fun v S hv => ⟨_, h, hv⟩, ?_⟩
    rw [indexNoteK1Vc ]
    exact indexNoteK1Holds 
  · exact h.elim)
noncomputable def tab3 : Tab T O := (25, indexNoteCon) :: tab2
theorem tabOk3 : TabOk R Try.prog tab3 := TabOk.cons R indexNoteOk <| tabOk2
noncomputable def X3 : Ctx T O := { X0 with con := conOf tab3 }
theorem X3Ok : TabOk R X3.P tab3 := tabOk3
end Go.Proofs.Ytkcnocigkblbiaa
