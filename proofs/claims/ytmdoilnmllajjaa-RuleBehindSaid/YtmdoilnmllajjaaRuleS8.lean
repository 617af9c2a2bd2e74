/-
  Part of a proof over the seat Ytmdoilnmllajjaa: printed by a small program or typed by hand.
-/
import Derived.Test.YtmdoilnmllajjaaRuleS7
import Derived.KernelRfl
import Derived.Test.YtmdoilnmllajjaaRuleMath0
namespace Go.Proofs.Ytmdoilnmllajjaa
open Go.Sx Go.Proofs
noncomputable def annGroup (e p i : Int) : Ann T O := oneLoop 10
  { σ := Int
    st := fun S x => (S.keep [1, 2, 7, 8]).int 9 x
    inv := fun x => 0 ≤ x ∧ x ≤ gstar e p (ref04Deadline e p i)
    m := fun x => (gstar e p (ref04Deadline e p i) - x).toNat }
def ref04Group (e p i : Int) : Int :=
  if ref04Number e p i = true ∧ ref04Heavy e p = true then (if e = p then ref04Deadline e p i else ref04Up (gstar e p (ref04Deadline e p i) * p) (p - e)) else 0
noncomputable def goalGroup (e p i : Int) : Prop := fnX X7 (annGroup e p i) Try.f19 [.agg [.raw (.int .i64 e), .raw (.int .i64 p)], .raw (.int .i64 i)] [] (ends [] ⟨some (.raw (.int .i64 (ref04Group e p i))), []⟩)

def textGroup (e p i : Int) : Prop := (match (!Ytmdoilnmllajjaa.ref04Number e p i) with | true => (((Ytmdoilnmllajjaa.ref04Group e p i = 0) ∧ True) ∧ True) | false => (match (!Ytmdoilnmllajjaa.ref04Heavy e p) with | true => (((Ytmdoilnmllajjaa.ref04Group e p i = 0) ∧ True) ∧ True) | false => (match (Ytmdoilnmllajjaa.ref04DeadlinePre e p i) with | true => (match (e == p) with | true => (((Ytmdoilnmllajjaa.ref04Group e p i = Ytmdoilnmllajjaa.ref04Deadline e p i) ∧ True) ∧ True) | false => (match (p != 0) with | true => ((∃ x : Int, (((0 ≤ x) ∧ (x ≤ Ytmdoilnmllajjaa.gstar e p (Ytmdoilnmllajjaa.ref04Deadline e p i))) ∧ (((i = i) ∧ (True ∧ ((Ytmdoilnmllajjaa.ref04Deadline e p i = Ytmdoilnmllajjaa.ref04Deadline e p i) ∧ ((IntKind.i64.wrap (p - e) = IntKind.i64.wrap (p - e)) ∧ ((x = IntKind.i64.wrap (IntKind.i64.wrap ((Ytmdoilnmllajjaa.ref04Deadline e p i).tdiv p) * IntKind.i64.wrap (p - e))) ∧ True))))) ∧ (((e = e) ∧ ((p = p) ∧ True)) ∧ True)))) ∧ (∀ x : Int, (((0 ≤ x) ∧ (x ≤ Ytmdoilnmllajjaa.gstar e p (Ytmdoilnmllajjaa.ref04Deadline e p i))) → (match (Ytmdoilnmllajjaa.ref04UpPre (IntKind.i64.wrap (x * p)) (IntKind.i64.wrap (p - e))) with | true => (match (decide (Ytmdoilnmllajjaa.ref04Up (IntKind.i64.wrap (x * p)) (IntKind.i64.wrap (p - e)) < Ytmdoilnmllajjaa.ref04Deadline e p i)) with | true => (∃ x' : Int, (((0 ≤ x') ∧ (x' ≤ Ytmdoilnmllajjaa.gstar e p (Ytmdoilnmllajjaa.ref04Deadline e p i))) ∧ (((Ytmdoilnmllajjaa.gstar e p (Ytmdoilnmllajjaa.ref04Deadline e p i) - x').toNat < (Ytmdoilnmllajjaa.gstar e p (Ytmdoilnmllajjaa.ref04Deadline e p i) - x).toNat) ∧ (((i = i) ∧ (True ∧ ((Ytmdoilnmllajjaa.ref04Deadline e p i = Ytmdoilnmllajjaa.ref04Deadline e p i) ∧ ((IntKind.i64.wrap (p - e) = IntKind.i64.wrap (p - e)) ∧ ((x' = IntKind.i64.wrap (x + 1)) ∧ True))))) ∧ (((e = e) ∧ ((p = p) ∧ True)) ∧ True))))) | false => (match (Ytmdoilnmllajjaa.ref04UpPre (IntKind.i64.wrap (x * p)) (IntKind.i64.wrap (p - e))) with | true => (((Ytmdoilnmllajjaa.ref04Group e p i = Ytmdoilnmllajjaa.ref04Up (IntKind.i64.wrap (x * p)) (IntKind.i64.wrap (p - e))) ∧ True) ∧ True) | false => False)) | false => False)))) | false => False)) | false => False)))
theorem goalGroup_vc (e p i : Int) : fnX X7 (annGroup e p i) Try.f19 [.agg [.raw (.int .i64 e), .raw (.int .i64 p)], .raw (.int .i64 i)] [] (ends [] ⟨some (.raw (.int .i64 (ref04Group e p i))), []⟩) = textGroup e p i := by kernel_rfl
theorem textGroup_holds (e p i : Int) : textGroup e p i := by
  unfold textGroup ref04Group
  cases hnum : ref04Number e p i
  · exact ⟨⟨rfl, trivial⟩, trivial⟩
  obtain ⟨h, hi⟩ := number_elim hnum
  obtain ⟨h1, h2, h3⟩ := id h
  simp only [Bool.not_true]
  cases hhv : ref04Heavy e p
  · exact ⟨⟨rfl, trivial⟩, trivial⟩
  have hv : p ≤ 2 * e := by rw [heavy_of h] at hhv; exact of_decide_eq_true hhv
  simp only [Bool.not_true, deadline_pre_of h hi]
  by_cases hep : e = p
  · have : (e == p) = true := by simpa using hep
    rw [this]
    simp [hep]
  have hne : e < p := by omega
  have hb : (e == p) = false := by simpa using hep
  have hp0 : (p != 0) = true := by simp; omega
  rw [hb, hp0]
  obtain ⟨d1, d2⟩ := deadline_bound h hi
  obtain ⟨s1, s2, s3⟩ := gstart_of h hi hv hne rfl
  have hdp : ref04Deadline e p i / p ≤ ref04Deadline e p i := Int.ediv_le_self p (by omega)
  have hdp0 : 0 ≤ ref04Deadline e p i / p := Int.ediv_nonneg (by omega) (by omega)
  have hk : IntKind.i64.wrap (p - e) = p - e := wrap_id (by omega) (by omega)
  simp only [hk, tdiv_pos (show 0 ≤ ref04Deadline e p i by omega)]
  rw [wrap_id (n := ref04Deadline e p i / p) (by omega) (by omega), wrap_id (n := ref04Deadline e p i / p * (p - e)) (by omega) (by omega)]
  refine ⟨⟨ref04Deadline e p i / p * (p - e), ⟨s1, s2⟩, by simp⟩, ?_⟩
  rintro x ⟨x0, x1⟩
  obtain ⟨b0, b1, b2, b3⟩ := gstep_of h hi hv hne x0 x1
  obtain ⟨g1, g2, g3, g4, g5, g6⟩ := gstar_of h hi hv hne rfl
  rw [wrap_id (n := x * p) (by omega) (by omega), up_pre_of (by omega)]
  by_cases hlt : ref04Up (x * p) (p - e) < ref04Deadline e p i
  · rw [decide_eq_true hlt]
    have hx := b2 hlt
    have hgm : gstar e p (ref04Deadline e p i) ≤ p * gstar e p (ref04Deadline e p i) := by
      have := Int.mul_le_mul_of_nonneg_right (show 1 ≤ p by omega) (show 0 ≤ gstar e p (ref04Deadline e p i) by omega)
      omega
    refine ⟨x + 1, ⟨by omega, by omega⟩, by omega, ?_⟩
    rw [wrap_id (n := x + 1) (by omega) (by omega)]
    simp
  · rw [decide_eq_false hlt]
    have hx := b3 hlt
    simp [hx, hep]
noncomputable def ref04GroupCon : Con T O := fun args cs => match args, cs with
  | [.agg [.raw (.int .i64 e), .raw (.int .i64 p)], .raw (.int .i64 i)], [] => retv (.raw (.int .i64 (ref04Group e p i)))
  | _, _ => .fail
theorem ref04GroupOk : ConOk R Try.prog 19 ref04GroupCon := con_of_fn R X7 (TabOk.con R X7Ok) mixed Try.call19 Try.func19 ref04GroupCon (by
  intro args cs K h
  unfold ref04GroupCon at h
  split at h
  · rename_i e p i
    refine ⟨annGroup e p i, _, fun v S hv => ⟨_, h, hv⟩, ?_⟩
    rw [goalGroup_vc]
    exact textGroup_holds e p i
  · exact h.elim)

noncomputable def tab8 : Tab T O := (19, ref04GroupCon) :: tab7
theorem tabOk8 : TabOk R Try.prog tab8 := TabOk.cons R ref04GroupOk <| tabOk7
noncomputable def X8 : Ctx T O := { X0 with con := conOf tab8 }
theorem X8Ok : TabOk R X8.P tab8 := tabOk8
end Go.Proofs.Ytmdoilnmllajjaa
