/-
  Part of a proof over the seat Ytmnnjclnldaejaa: printed by a small program or typed by hand.
-/
import Derived.Test.YtmnnjclnldaejaaSupS20
import Derived.KernelRfl
namespace Go.Proofs.Ytmnnjclnldaejaa
open Go.Sx Go.Proofs Classical
/-! ### slices.IndexFunc[[]regatta/api.Part,regatta/api.Part] -/
def indexPartText (L : List Part) : Prop := ((∃ x : Nat, (((x ≤ L.length) ∧ (firstI badPart L (0 : Int) = firstI badPart (List.drop x L) (↑x : Int))) ∧ ((True ∧ (True ∧ (True ∧ (((↑L.length : Int) = (↑L.length : Int)) ∧ (((↑x : Int) = (0 : Int)) ∧ True))))) ∧ ((L = L) ∧ True)))) ∧ (∀ x : Nat, (((x ≤ L.length) ∧ (firstI badPart L (0 : Int) = firstI badPart (List.drop x L) (↑x : Int))) → (match (decide ((↑x : Int) < (↑L.length : Int))) with | true => (match (inb (↑x : Int) L.length) with | true => (match (inb (↑x : Int) L.length) with | true => (match (!okP (at' partE.zero L (↑x : Int)).E (at' partE.zero L (↑x : Int)).P) with | true => (((firstI badPart L (0 : Int) = (↑x : Int)) ∧ True) ∧ ((L = L) ∧ True)) | false => (∃ x' : Nat, (((x' ≤ L.length) ∧ (firstI badPart L (0 : Int) = firstI badPart (List.drop x' L) (↑x' : Int))) ∧ ((L.length - x' < L.length - x) ∧ ((True ∧ (True ∧ (True ∧ (((↑L.length : Int) = (↑L.length : Int)) ∧ (((↑x' : Int) = IntKind.i64.wrap ((↑x : Int) + (1 : Int))) ∧ True))))) ∧ ((L = L) ∧ True)))))) | false => False) | false => False) | false => (((firstI badPart L (0 : Int) = (-1 : Int)) ∧ True) ∧ ((L = L) ∧ True))))))
theorem indexPartVc (L : List Part) : fnX X20 (oneLoop 2 { σ := Nat, st := fun S x => (S.keep [0, 1, 6, 7]).int 8 x, inv := fun _ x => x ≤ L.length ∧ firstI badPart L 0 = firstI badPart (L.drop x) x, m := fun x => L.length - x }) Try.f86 [.own 0, .fn 63 []] [.ro 3 L] (ends [.ro 3 L] ⟨some (.raw (.int .i64 (firstI badPart L 0))), []⟩) = indexPartText L := by kernel_rfl
theorem indexPartHolds (L : List Part) (hp : L.length ≤ 100000) : indexPartText L := by
  unfold indexPartText
  refine ⟨⟨0, ⟨Nat.zero_le _, rfl⟩, by repeat' first | trivial | rfl | apply And.intro⟩, ?_⟩
  rintro x ⟨hx, hs⟩
  by_cases h : x < L.length
  · have hwx := wrap_succ h (show L.length ≤ 140737488355328 by omega)
    rw [List.drop_eq_getElem_cons h] at hs
    simp only [firstI] at hs
    rw [dec_lt h, inb_nat h, at_nat h]
    by_cases g : okP L[x].E L[x].P = true
    · rw [show badPart L[x] = false by unfold badPart; rw [g]; rfl, cond_false] at hs
      rw [g, show (!true) = false from rfl]
      refine ⟨x + 1, ⟨h, hs⟩, by omega, ?_⟩
      repeat' first | exact hwx.symm | trivial | rfl | apply And.intro
    · have g : okP L[x].E L[x].P = false := by simpa using g
      rw [show badPart L[x] = true by unfold badPart; rw [g]; rfl, cond_true] at hs
      rw [g, show (!false) = true from rfl]
      repeat' first | exact hs | trivial | rfl | apply And.intro
  · rw [List.drop_of_length_le (by omega)] at hs
    rw [dec_ge (by omega : L.length ≤ x)]
    repeat' first | exact hs | trivial | rfl | apply And.intro
noncomputable def indexPartCon : Con T O := fun args cs => match args, cs with
  | [.own 0, .fn 63 []], [.ro 3 L] => chk (decide (L.length ≤ 100000)) (.ret ⟨some (.raw (.int .i64 (firstI badPart L 0))), []⟩)
  | _, _ => .fail
theorem indexPartOk : ConOk R Try.prog 86 indexPartCon := con_of_fn R (X20) (TabOk.con R X20Ok) mixed Try.call86 Try.func86 indexPartCon (by
  intro args cs K h
  unfold indexPartCon at h
  split at h
  · rename_i L
    rw [Tree.holds_chk] at h
    obtain ⟨hp, h⟩ := h
    refine ⟨oneLoop 2 { σ := Nat, st := fun S x => (S.keep [0, 1, 6, 7]).int 8 x, inv := fun _ x => x ≤ L.length ∧ firstI badPart L 0 = firstI badPart (L.drop x) x, m := fun x => L.length - x }, _, fun v S hv => ⟨_, h, hv⟩, ?_⟩
    rw [indexPartVc L]
    exact indexPartHolds L (of_decide_eq_true hp)
  · exact h.elim)
noncomputable def tab21 : Tab T O := (86, indexPartCon) :: tab20
theorem tabOk21 : TabOk R Try.prog tab21 := TabOk.cons R indexPartOk <| tabOk20
noncomputable def X21 : Ctx T O := { X0 with con := conOf tab21 }
theorem X21Ok : TabOk R X21.P tab21 := tabOk21
end Go.Proofs.Ytmnnjclnldaejaa
