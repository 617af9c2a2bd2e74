/-
  Part of a proof over the seat Ythfggjfpokknlaa: printed by a small program or typed by hand.
-/
import Derived.Test.YthfggjfpokknlaaStaS16
import Derived.KernelRfl
namespace Go.Proofs.Ythfggjfpokknlaa
open Go.Sx Go.Proofs Classical
/-! ### regatta/regattalaw21.StatsNil -/
def statsNilText (k n : Int) : Prop := (match (decide (keysOk (addM noCount k (5 : Int)) = true)) with | true => (match (sumL same (addM noCount k (5 : Int)) (keysS (addM noCount k (5 : Int))) == (5 : Int)) with | true => (((true = ((↑(keysS noCount).length : Int) == (0 : Int))) ∧ True) ∧ True) | false => (((true = false) ∧ True) ∧ True)) | false => False)
theorem statsNilVc (k n : Int) : fnX X16 (noAnn) Try.f6 [.raw (.int .i64 k), .raw (.int .i64 n)] [] (ends [] ⟨some (.raw (.bool true)), []⟩) = statsNilText k n := by kernel_rfl
theorem statsNilHolds (k n : Int) (hp : -9223372036854775808 ≤ k ∧ k ≤ 9223372036854775807) : statsNilText k n := by
  unfold statsNilText
  have e : addM noCount k 5 = oneM k 5 := by
    rw [noCount_one k, oneM_add, show addN 0 5 = 5 by kernel_rfl]
  have k1 : keysOk (oneM k 5) = true := by
    show (decide (1 ≤ 1000) && ([(k, (5 : Int))] : CM).all fun p => decide (-9223372036854775808 ≤ p.1) && decide (p.1 ≤ 9223372036854775807)) = true
    simp [hp.1, hp.2]
  have k2 : (sumL same (oneM k 5) (keysS (oneM k 5)) == 5) = true := by
    rw [oneM_keys]
    show (IntKind.i64.wrap (0 + getM (oneM k 5) k) == 5) = true
    rw [oneM_get]
    rfl
  have k3 : (((keysS noCount).length : Int) == 0) = true := by rw [noCount_one k, oneM_keys]; rfl
  rw [e, decide_eq_true k1, k2]
  exact ⟨⟨k3.symm, trivial⟩, trivial⟩
noncomputable def statsNilCon : Con T O := fun args cs => match args, cs with
  | [.raw (.int .i64 k), .raw (.int .i64 _)], [] => chk (decide (-9223372036854775808 ≤ k ∧ k ≤ 9223372036854775807)) (.ret ⟨some (.raw (.bool true)), []⟩)
  | _, _ => .fail
theorem statsNilOk : ConOk R Try.prog 6 statsNilCon := con_of_fn R (X16) (TabOk.con R X16Ok) mixed Try.call6 Try.func6 statsNilCon (by
  intro args cs K h
  unfold statsNilCon at h
  split at h
  · rename_i k n
    rw [Tree.holds_chk] at h
    obtain ⟨hp, h⟩ := h
    refine ⟨noAnn, _, fun v S hv => ⟨_, h, hv⟩, ?_⟩
    rw [statsNilVc k n]
    exact statsNilHolds k n (of_decide_eq_true hp)
  · exact h.elim)
noncomputable def tab17 : Tab T O := (6, statsNilCon) :: tab16
theorem tabOk17 : TabOk R Try.prog tab17 := TabOk.cons R statsNilOk <| tabOk16
noncomputable def X17 : Ctx T O := { X0 with con := conOf tab17 }
theorem X17Ok : TabOk R X17.P tab17 := tabOk17
end Go.Proofs.Ythfggjfpokknlaa
