/-
  Part of a proof over the seat Ytmnnjclnldaejaa: printed by a small program or typed by hand.
-/
import Derived.Test.YtmnnjclnldaejaaSupS21
import Derived.KernelRfl
namespace Go.Proofs.Ytmnnjclnldaejaa
open Go.Sx Go.Proofs Classical
/-! ### slices.ContainsFunc[[]regatta/api.Part,regatta/api.Part] -/
def containsPartText (L : List Part) : Prop := (match (decide (L.length ≤ (100000 : Nat))) with | true => (((L.any badPart = decide (firstI badPart L (0 : Int) ≥ (0 : Int))) ∧ True) ∧ ((L = L) ∧ True)) | false => False)
theorem containsPartVc (L : List Part) : fnX X21 (noAnn) Try.f62 [.own 0, .fn 63 []] [.ro 3 L] (ends [.ro 3 L] ⟨some (.raw (.bool (L.any badPart))), []⟩) = containsPartText L := by kernel_rfl
theorem containsPartHolds (L : List Part) (hp : L.length ≤ 100000) : containsPartText L := by
  unfold containsPartText
  rw [decide_eq_true hp]
  refine ⟨⟨(firstI_any badPart L 0 (by decide)).symm, trivial⟩, ?_⟩
  repeat' first | apply And.intro | exact True.intro | exact rfl
noncomputable def containsPartCon : Con T O := fun args cs => match args, cs with
  | [.own 0, .fn 63 []], [.ro 3 L] => chk (decide (L.length ≤ 100000)) (.ret ⟨some (.raw (.bool (L.any badPart))), []⟩)
  | _, _ => .fail
theorem containsPartOk : ConOk R Try.prog 62 containsPartCon := con_of_fn R (X21) (TabOk.con R X21Ok) mixed Try.call62 Try.func62 containsPartCon (by
  intro args cs K h
  unfold containsPartCon at h
  split at h
  · rename_i L
    rw [Tree.holds_chk] at h
    obtain ⟨hp, h⟩ := h
    refine ⟨noAnn, _, fun v S hv => ⟨_, h, hv⟩, ?_⟩
    rw [containsPartVc L]
    exact containsPartHolds L (of_decide_eq_true hp)
  · exact h.elim)
noncomputable def tab22 : Tab T O := (62, containsPartCon) :: tab21
theorem tabOk22 : TabOk R Try.prog tab22 := TabOk.cons R containsPartOk <| tabOk21
noncomputable def X22 : Ctx T O := { X0 with con := conOf tab22 }
theorem X22Ok : TabOk R X22.P tab22 := tabOk22
end Go.Proofs.Ytmnnjclnldaejaa
