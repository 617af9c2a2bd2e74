/-
  Part of a proof over the seat Ythfggjfpokknlaa: printed by a small program or typed by hand.
-/
import Derived.Test.YthfggjfpokknlaaStaS7
import Derived.KernelRfl
namespace Go.Proofs.Ythfggjfpokknlaa
open Go.Sx Go.Proofs Classical
/-! ### slices.SortStableFunc[[]int,int] -/
def srtIK0Text (L : List Int) (M : CM) : Prop := (match (decide ((↑L.length : Int) = (↑L.length : Int) ∧ L.length ≤ (1000 : Nat) ∧ PreT (ltI M) (tlI M) L)) with | true => ((True ∧ True) ∧ ((srtT (tlI M) L = srtT (tlI M) L) ∧ ((True ∧ True) ∧ ((True ∧ True) ∧ ((M = M) ∧ True))))) | false => False)
theorem srtIK0Vc (L : List Int) (M : CM) : fnX X7 (noAnn) Try.f37 [.own 0, .fn 38 [.ptr 1 0]] [.vec 0 L 3, .cells [.ptr 2 0] 24, .cells [.own 3] 51, .map 0 M] (ends [.vec 0 L 3, .cells [.ptr 2 0] 24, .cells [.own 3] 51, .map 0 M] ⟨some (.tup []), [(0, some (.vec 0 (srtT (tlI M) L) 3)), (3, some (.map 0 M))]⟩) = srtIK0Text L M := by kernel_rfl
theorem srtIK0Holds (L : List Int) (M : CM) (hp : L.length ≤ 1000 ∧ PreT (ltI M) (tlI M) L) : srtIK0Text L M := by
  unfold srtIK0Text
  obtain ⟨h1, h2⟩ := hp
  rw [decide_eq_true (⟨rfl, h1, h2⟩ : (L.length : Int) = (L.length : Int) ∧ L.length ≤ 1000 ∧ PreT (ltI M) (tlI M) L)]
  repeat' first | trivial | rfl | apply And.intro
def srtIK1Text  : Prop := ((True ∧ True) ∧ (((Value.pointer none = Value.pointer none) ∧ True) ∧ True))
theorem srtIK1Vc  : fnX X7 (noAnn) Try.f37 [.raw (.slice none 0 0), .fn 38 [.ptr 0 0]] [.cells [.raw (.pointer none)] 24] (ends [.cells [.raw (.pointer none)] 24] ⟨some (.tup []), []⟩) = srtIK1Text  := by kernel_rfl
theorem srtIK1Holds  : srtIK1Text  := by
  unfold srtIK1Text
  repeat' first | trivial | rfl | apply And.intro
noncomputable def srtICon : Con T O := fun args cs => match args, cs with
  | [.own 0, .fn 38 [.ptr 1 0]], [.vec 0 L 3, .cells [.ptr 2 0] 24, .cells [.own 3] 51, .map 0 M] => chk (decide (L.length ≤ 1000 ∧ PreT (ltI M) (tlI M) L)) (.ret ⟨some (.tup []), [(0, some (.vec 0 (srtT (tlI M) L) 3)), (3, some (.map 0 M))]⟩)
  | [.raw (.slice none 0 0), .fn 38 [.ptr 0 0]], [.cells [.raw (.pointer none)] 24] => .ret ⟨some (.tup []), []⟩
  | _, _ => .fail
theorem srtIOk : ConOk R Try.prog 37 srtICon := con_of_fn R (X7) (TabOk.con R X7Ok) mixed Try.call37 Try.func37 srtICon (by
  intro args cs K h
  unfold srtICon at h
  split at h
  · rename_i L M
    rw [Tree.holds_chk] at h
    obtain ⟨hp, h⟩ := h
    refine ⟨noAnn, _, fun v S hv => ⟨_, h, hv⟩, ?_⟩
    rw [srtIK0Vc L M]
    exact srtIK0Holds L M (of_decide_eq_true hp)
  ·
    refine ⟨noAnn, _, fun v S hv => ⟨_, h, hv⟩, ?_⟩
    rw [srtIK1Vc ]
    exact srtIK1Holds 
  · exact h.elim)
noncomputable def tab8 : Tab T O := (37, srtICon) :: tab7
theorem tabOk8 : TabOk R Try.prog tab8 := TabOk.cons R srtIOk <| tabOk7
noncomputable def X8 : Ctx T O := { X0 with con := conOf tab8 }
theorem X8Ok : TabOk R X8.P tab8 := tabOk8
end Go.Proofs.Ythfggjfpokknlaa
