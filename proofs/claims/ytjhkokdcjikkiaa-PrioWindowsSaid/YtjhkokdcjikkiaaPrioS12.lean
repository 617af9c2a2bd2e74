/-
  Part of a proof over the seat Ytjhkokdcjikkiaa: printed by a small program or typed by hand.
-/
import Derived.Test.YtjhkokdcjikkiaaPrioS11
import Derived.KernelRfl
namespace Go.Proofs.Ytjhkokdcjikkiaa
open Go.Sx Go.Proofs Classical

/-- goes ahead -/
def lt6 (a b : Ent) : Prop := a.SubDeadline < b.SubDeadline ∨ (a.SubDeadline = b.SubDeadline ∧ ((a.SubBit = 1 ∧ b.SubBit ≠ 1) ∨ (a.SubBit = 1 ∧ b.SubBit = 1 ∧ (b.SubGroup < a.SubGroup ∨ (a.SubGroup = b.SubGroup ∧ a.ID < b.ID))) ∨ (a.SubBit ≠ 1 ∧ b.SubBit ≠ 1 ∧ a.ID < b.ID)))
theorem cmpL_cases (a b : Int) : (a < b ∧ cmpL a b = -1) ∨ (b < a ∧ cmpL a b = 1) ∨ (a = b ∧ cmpL a b = 0) := by
  unfold cmpL nanL
  rw [show (a != a) = false by simp, show (b != b) = false by simp]
  simp only
  rcases Int.lt_trichotomy a b with h | h | h
  · rw [decide_eq_true h]; exact .inl ⟨h, rfl⟩
  · rw [decide_eq_false (by omega), decide_eq_false (by omega)]; exact .inr (.inr ⟨h, rfl⟩)
  · rw [decide_eq_false (by omega), decide_eq_true (by omega)]; exact .inr (.inl ⟨h, rfl⟩)
theorem cmpI_cases (a b : Int) : (a < b ∧ cmpI a b = -1) ∨ (b < a ∧ cmpI a b = 1) ∨ (a = b ∧ cmpI a b = 0) := cmpL_cases a b
theorem cmpI00 : cmpI 0 0 = 0 := rfl
theorem cmpI11 : cmpI 1 1 = 0 := rfl
theorem cmpI01 : cmpI 0 1 = -1 := rfl
theorem cmpI10 : cmpI 1 0 = 1 := rfl
theorem order_lt (a b : Ent) : prioOrder a b < 0 ↔ lt6 a b := by
  unfold prioOrder prioOverlaps lt6
  cases ha : a.SubBit == 1 <;> cases hb : b.SubBit == 1
  all_goals
    simp only [beq_eq_false_iff_ne, beq_iff_eq, ne_eq] at ha hb
    simp only [cmpI00, cmpI11, cmpI01, cmpI10, orL]
    rcases cmpL_cases a.SubDeadline b.SubDeadline with ⟨h1, e1⟩ | ⟨h1, e1⟩ | ⟨h1, e1⟩ <;> rcases cmpL_cases b.SubGroup a.SubGroup with ⟨h2, e2⟩ | ⟨h2, e2⟩ | ⟨h2, e2⟩ <;> rcases cmpI_cases a.ID b.ID with ⟨h3, e3⟩ | ⟨h3, e3⟩ | ⟨h3, e3⟩ <;> rw [e1, e3] <;> (try rw [e2]) <;> simp <;> omega
theorem less_iff (a b : Ent) : prioLess a b = true ↔ lt6 a b := by
  unfold prioLess
  rw [decide_eq_true_iff, order_lt]
theorem less_dec (a b : Ent) : prioLess a b = decide (lt6 a b) := by
  rw [Bool.eq_iff_iff, less_iff, decide_eq_true_iff]
theorem refLess_iff (a b : Ent) : ref06Less a b = true ↔ lt6 a b := by
  unfold ref06Less lt6
  cases ha : a.SubBit == 1 <;> cases hb : b.SubBit == 1 <;> cases hd : a.SubDeadline != b.SubDeadline <;> cases hg : a.SubGroup != b.SubGroup
  all_goals
    simp only [beq_eq_false_iff_ne, beq_iff_eq, ne_eq, bne_eq_false_iff_eq, bne_iff_ne] at ha hb hd hg
    simp
    try omega
theorem refLess_eq (a b : Ent) : ref06Less a b = prioLess a b := by
  rw [Bool.eq_iff_iff, refLess_iff, less_iff]
theorem lt6_irrefl (a : Ent) : ¬ lt6 a a := by unfold lt6; omega
theorem lt6_asymm {a b : Ent} (h : lt6 a b) : ¬ lt6 b a := by unfold lt6 at *; omega
theorem lt6_trans {a b c : Ent} (h : lt6 a b) (h' : lt6 b c) : lt6 a c := by unfold lt6 at *; omega
theorem lt6_total {a b : Ent} (h : a.ID ≠ b.ID) : lt6 a b ∨ lt6 b a := by unfold lt6 at *; omega
/-- what does not go ahead of what does not go ahead -/
theorem lt6_neg {a b c : Ent} (h : ¬ lt6 b a) (h' : ¬ lt6 c b) : ¬ lt6 c a := by unfold lt6 at *; omega

/-! ### regatta/regattalaw06.PrioOrder -/
def prioOrderLawText (a b c : Ent) : Prop := (match (a.ID != b.ID) with | true => (match (!prioLess a b != prioLess b a) with | true => (((true = false) ∧ True) ∧ True) | false => (match (prioLess a a) with | true => (((true = false) ∧ True) ∧ True) | false => (match (prioLess a b) with | true => (match (prioLess b a) with | true => (((true = false) ∧ True) ∧ True) | false => (match (prioLess a b) with | true => (match (prioLess b c) with | true => (((true = !!prioLess a c) ∧ True) ∧ True) | false => (((true = !false) ∧ True) ∧ True)) | false => (((true = !false) ∧ True) ∧ True))) | false => (match (prioLess a b) with | true => (match (prioLess b c) with | true => (((true = !!prioLess a c) ∧ True) ∧ True) | false => (((true = !false) ∧ True) ∧ True)) | false => (((true = !false) ∧ True) ∧ True))))) | false => (match (prioLess a a) with | true => (((true = false) ∧ True) ∧ True) | false => (match (prioLess a b) with | true => (match (prioLess b a) with | true => (((true = false) ∧ True) ∧ True) | false => (match (prioLess a b) with | true => (match (prioLess b c) with | true => (((true = !!prioLess a c) ∧ True) ∧ True) | false => (((true = !false) ∧ True) ∧ True)) | false => (((true = !false) ∧ True) ∧ True))) | false => (match (prioLess a b) with | true => (match (prioLess b c) with | true => (((true = !!prioLess a c) ∧ True) ∧ True) | false => (((true = !false) ∧ True) ∧ True)) | false => (((true = !false) ∧ True) ∧ True)))))
theorem prioOrderLawVc (a b c : Ent) : fnX X11 (noAnn) Try.f3 [.agg [.raw (.int .i64 a.ID), .raw (.int .i64 a.SubIndex), .raw (.int .i64 a.SubRelease), .raw (.int .i64 a.SubDeadline), .raw (.int .i64 a.SubBit), .raw (.int .i64 a.SubGroup)], .agg [.raw (.int .i64 b.ID), .raw (.int .i64 b.SubIndex), .raw (.int .i64 b.SubRelease), .raw (.int .i64 b.SubDeadline), .raw (.int .i64 b.SubBit), .raw (.int .i64 b.SubGroup)], .agg [.raw (.int .i64 c.ID), .raw (.int .i64 c.SubIndex), .raw (.int .i64 c.SubRelease), .raw (.int .i64 c.SubDeadline), .raw (.int .i64 c.SubBit), .raw (.int .i64 c.SubGroup)]] [] (ends [] ⟨some (.raw (.bool true)), []⟩) = prioOrderLawText a b c := by kernel_rfl
theorem prioOrderLawHolds (a b c : Ent) : prioOrderLawText a b c := by
  unfold prioOrderLawText
  have f1 : prioLess a a = false := by rw [Bool.eq_false_iff]; intro h; exact lt6_irrefl a ((less_iff a a).1 h)
  have f2 : prioLess a b = true → prioLess b a = false := by
    intro h
    rw [Bool.eq_false_iff]
    intro h2
    exact lt6_asymm ((less_iff a b).1 h) ((less_iff b a).1 h2)
  have f3 : (a.ID != b.ID) = true → prioLess a b = true ∨ prioLess b a = true := by
    intro h
    rcases lt6_total (bne_iff_ne.1 h) with h | h
    · exact .inl ((less_iff _ _).2 h)
    · exact .inr ((less_iff _ _).2 h)
  have f4 : prioLess a b = true → prioLess b c = true → prioLess a c = true := fun h h2 => (less_iff _ _).2 (lt6_trans ((less_iff _ _).1 h) ((less_iff _ _).1 h2))
  rw [f1]
  cases h1 : prioLess a b <;> cases h2 : prioLess b a <;> cases h3 : prioLess b c <;> cases h4 : prioLess a c <;> cases h5 : a.ID != b.ID <;> simp_all
noncomputable def prioOrderLawCon : Con T O := fun args cs => match args, cs with
  | [.agg [.raw (.int .i64 _), .raw (.int .i64 _), .raw (.int .i64 _), .raw (.int .i64 _), .raw (.int .i64 _), .raw (.int .i64 _)], .agg [.raw (.int .i64 _), .raw (.int .i64 _), .raw (.int .i64 _), .raw (.int .i64 _), .raw (.int .i64 _), .raw (.int .i64 _)], .agg [.raw (.int .i64 _), .raw (.int .i64 _), .raw (.int .i64 _), .raw (.int .i64 _), .raw (.int .i64 _), .raw (.int .i64 _)]], [] => .ret ⟨some (.raw (.bool true)), []⟩
  | _, _ => .fail
theorem prioOrderLawOk : ConOk R Try.prog 3 prioOrderLawCon := con_of_fn R (X11) (TabOk.con R X11Ok) mixed Try.call3 Try.func3 prioOrderLawCon (by
  intro args cs K h
  unfold prioOrderLawCon at h
  split at h
  · rename_i a_0 a_1 a_2 a_3 a_4 a_5 b_0 b_1 b_2 b_3 b_4 b_5 c_0 c_1 c_2 c_3 c_4 c_5
    refine ⟨noAnn, _, fun v S hv => ⟨_, h, hv⟩, ?_⟩
    rw [prioOrderLawVc (⟨a_0, a_1, a_2, a_3, a_4, a_5⟩ : Ent) (⟨b_0, b_1, b_2, b_3, b_4, b_5⟩ : Ent) (⟨c_0, c_1, c_2, c_3, c_4, c_5⟩ : Ent)]
    exact prioOrderLawHolds (⟨a_0, a_1, a_2, a_3, a_4, a_5⟩ : Ent) (⟨b_0, b_1, b_2, b_3, b_4, b_5⟩ : Ent) (⟨c_0, c_1, c_2, c_3, c_4, c_5⟩ : Ent)
  · exact h.elim)
/-! ### regatta/regattaref04.Heavy -/
def ref04Heavy (a0E : Int) (a0P : Int) : Bool := (match (ref04Check a0E a0P) with | true => (decide (IntKind.i64.wrap ((2 : Int) * a0E) ≥ a0P)) | false => (false))
noncomputable def ref04HeavyCon : Con T O := fun args cs => match args, cs with
  | [.agg [.raw (.int .i64 a0E), .raw (.int .i64 a0P)]], [] => retv (.raw (.bool (ref04Heavy a0E a0P)))
  | _, _ => .fail
theorem ref04HeavyVc (a0E : Int) (a0P : Int) : fnX X11 noAnn Try.f37 [.agg [.raw (.int .i64 a0E), .raw (.int .i64 a0P)]] [] (ends [] ⟨some (.raw (.bool (ref04Heavy a0E a0P))), []⟩) = ((match (ref04Check a0E a0P) with | true => ((ref04Heavy a0E a0P = (decide (IntKind.i64.wrap ((2 : Int) * a0E) ≥ a0P))) ∧ True) ∧ True | false => ((ref04Heavy a0E a0P = (false)) ∧ True) ∧ True)) := by kernel_rfl
theorem ref04HeavyOk : ConOk R Try.prog 37 ref04HeavyCon := con_of_fn R X11 (TabOk.con R X11Ok) mixed Try.call37 Try.func37 ref04HeavyCon (by
  intro args cs K h
  unfold ref04HeavyCon at h
  split at h
  · rename_i a0E a0P
    refine ⟨noAnn, _, fun v S hv => ⟨_, h, hv⟩, ?_⟩
    rw [ref04HeavyVc a0E a0P]
    unfold ref04Heavy
    cases (ref04Check a0E a0P)
    ·
      exact ⟨⟨rfl, trivial⟩, trivial⟩
    ·
      exact ⟨⟨rfl, trivial⟩, trivial⟩
  · exact h.elim)
/-! ### regatta/regattaref04.number -/
def ref04Number (a0E : Int) (a0P : Int) (a1 : Int) : Bool := (match (ref04Check a0E a0P) with | true => (match (decide (a1 ≥ (1 : Int))) with | true => (decide (a1 ≤ (1099511627776 : Int))) | false => (false)) | false => (false))
noncomputable def ref04NumberCon : Con T O := fun args cs => match args, cs with
  | [.agg [.raw (.int .i64 a0E), .raw (.int .i64 a0P)], .raw (.int .i64 a1)], [] => retv (.raw (.bool (ref04Number a0E a0P a1)))
  | _, _ => .fail
theorem ref04NumberVc (a0E : Int) (a0P : Int) (a1 : Int) : fnX X11 noAnn Try.f23 [.agg [.raw (.int .i64 a0E), .raw (.int .i64 a0P)], .raw (.int .i64 a1)] [] (ends [] ⟨some (.raw (.bool (ref04Number a0E a0P a1))), []⟩) = ((match (ref04Check a0E a0P) with | true => (match (decide (a1 ≥ (1 : Int))) with | true => ((ref04Number a0E a0P a1 = (decide (a1 ≤ (1099511627776 : Int)))) ∧ True) ∧ True | false => ((ref04Number a0E a0P a1 = (false)) ∧ True) ∧ True) | false => ((ref04Number a0E a0P a1 = (false)) ∧ True) ∧ True)) := by kernel_rfl
theorem ref04NumberOk : ConOk R Try.prog 23 ref04NumberCon := con_of_fn R X11 (TabOk.con R X11Ok) mixed Try.call23 Try.func23 ref04NumberCon (by
  intro args cs K h
  unfold ref04NumberCon at h
  split at h
  · rename_i a0E a0P a1
    refine ⟨noAnn, _, fun v S hv => ⟨_, h, hv⟩, ?_⟩
    rw [ref04NumberVc a0E a0P a1]
    unfold ref04Number
    cases (ref04Check a0E a0P)
    ·
      exact ⟨⟨rfl, trivial⟩, trivial⟩
    ·
      cases (decide (a1 ≥ (1 : Int)))
      ·
        exact ⟨⟨rfl, trivial⟩, trivial⟩
      ·
        exact ⟨⟨rfl, trivial⟩, trivial⟩
  · exact h.elim)
noncomputable def tab12 : Tab T O := (3, prioOrderLawCon) :: (37, ref04HeavyCon) :: (23, ref04NumberCon) :: tab11
theorem tabOk12 : TabOk R Try.prog tab12 := TabOk.cons R prioOrderLawOk <| TabOk.cons R ref04HeavyOk <| TabOk.cons R ref04NumberOk <| tabOk11
noncomputable def X12 : Ctx T O := { X0 with con := conOf tab12 }
theorem X12Ok : TabOk R X12.P tab12 := tabOk12
end Go.Proofs.Ytjhkokdcjikkiaa
