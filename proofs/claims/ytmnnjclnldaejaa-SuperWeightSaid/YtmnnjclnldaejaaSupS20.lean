/-
  Part of a proof over the seat Ytmnnjclnldaejaa: printed by a small program or typed by hand.
-/
import Derived.Test.YtmnnjclnldaejaaSupS19
import Derived.KernelRfl
namespace Go.Proofs.Ytmnnjclnldaejaa
open Go.Sx Go.Proofs Classical
/-! ### regatta/super.Check$1 -/
def supBadText (e p : Int) : Prop := ((((!okP e p) = !okP e p) ∧ True) ∧ True)
theorem supBadVc (e p : Int) : fnX X19 (noAnn) Try.f63 [.agg [.raw (.int .i64 e), .raw (.int .i64 p)]] [] (ends [] ⟨some (.raw (.bool (!okP e p))), []⟩) = supBadText e p := by kernel_rfl
theorem supBadHolds (e p : Int) : supBadText e p := by
  unfold supBadText
  repeat' first | apply And.intro | exact True.intro | exact rfl
noncomputable def supBadCon : Con T O := fun args cs => match args, cs with
  | [.agg [.raw (.int .i64 e), .raw (.int .i64 p)]], [] => .ret ⟨some (.raw (.bool (!okP e p))), []⟩
  | _, _ => .fail
theorem supBadOk : ConOk R Try.prog 63 supBadCon := con_of_fn R (X19) (TabOk.con R X19Ok) mixed Try.call63 Try.func63 supBadCon (by
  intro args cs K h
  unfold supBadCon at h
  split at h
  · rename_i e p
    refine ⟨noAnn, _, fun v S hv => ⟨_, h, hv⟩, ?_⟩
    rw [supBadVc e p]
    exact supBadHolds e p
  · exact h.elim)
/-! ### regatta/super.weights -/
def supWeightsText (L : List Part) : Prop := ((∃ x : Nat, ((x.le L.length) ∧ ((True ∧ (True ∧ (True ∧ (((↑L.length : Int) = (↑L.length : Int)) ∧ (((↑x : Int) = (0 : Int)) ∧ True))))) ∧ ((L = L) ∧ ((List.map asW (List.take x L) = []) ∧ True))))) ∧ (∀ x : Nat, ((x.le L.length) → (match (decide ((↑x : Int) < (↑L.length : Int))) with | true => (match (inb (↑x : Int) L.length) with | true => (match (inb (↑x : Int) L.length) with | true => (match (roomy ((List.map asW (List.take x L)).length + (1 : Nat)) (nat_lit 16)) with | true => (∃ x' : Nat, ((x'.le L.length) ∧ ((L.length - x' < L.length - x) ∧ ((True ∧ (True ∧ (True ∧ (((↑L.length : Int) = (↑L.length : Int)) ∧ (((↑x' : Int) = IntKind.i64.wrap ((↑x : Int) + (1 : Int))) ∧ True))))) ∧ ((L = L) ∧ ((List.map asW (List.take x' L) = List.map asW (List.take x L) ++ [Weight.mk (at' partE.zero L (↑x : Int)).E (at' partE.zero L (↑x : Int)).P]) ∧ True)))))) | false => False) | false => False) | false => False) | false => ((True ∧ True) ∧ ((L = L) ∧ ((List.map asW L = List.map asW (List.take x L)) ∧ True)))))))
theorem supWeightsVc (L : List Part) : fnX { X19 with frz := true } (annOf [(3, { σ := Nat, st := fun S x => ((S.keep [0, 6, 7]).int 8 x).new 3 (.vec 5 ((L.take x).map asW) 29), inv := fun _ x => x ≤ L.length, m := fun x => L.length - x })] []) Try.f67 [.own 0] [.ro 3 L] (ends [.ro 3 L] ⟨some (.own 1), [(1, some (.ro 5 (L.map asW)))]⟩) = supWeightsText L := by kernel_rfl
theorem supWeightsHolds (L : List Part) (hp : L.length ≤ 100000) : supWeightsText L := by
  unfold supWeightsText
  refine ⟨⟨0, Nat.zero_le _, by repeat' first | trivial | rfl | apply And.intro⟩, ?_⟩
  intro x hx
  have hx : x ≤ L.length := hx
  by_cases h : x < L.length
  · have hwx := wrap_succ h (show L.length ≤ 140737488355328 by omega)
    have hr : roomy (((L.take x).map asW).length + 1) 16 = true := by
      rw [List.length_map, List.length_take]
      exact decide_eq_true (by omega)
    have e : (L.take (x + 1)).map asW = (L.take x).map asW ++ [asW L[x]] := by rw [take_at h, List.map_append]; rfl
    rw [dec_lt h, inb_nat h, at_nat h, hr]
    refine ⟨x + 1, h, by omega, ?_⟩
    repeat' first | exact hwx.symm | exact e | trivial | rfl | apply And.intro
  · obtain rfl : x = L.length := by omega
    rw [dec_ge (Nat.le_refl _), List.take_length]
    repeat' first | trivial | rfl | apply And.intro
noncomputable def supWeightsCon : Con T O := fun args cs => match args, cs with
  | [.own 0], [.ro 3 L] => chk (decide (L.length ≤ 100000)) (.ret ⟨some (.own 1), [(1, some (.ro 5 (L.map asW)))]⟩)
  | _, _ => .fail
theorem supWeightsOk : ConOk R Try.prog 67 supWeightsCon := con_of_fn R ({ X19 with frz := true }) (TabOk.con R X19Ok) mixed Try.call67 Try.func67 supWeightsCon (by
  intro args cs K h
  unfold supWeightsCon at h
  split at h
  · rename_i L
    rw [Tree.holds_chk] at h
    obtain ⟨hp, h⟩ := h
    refine ⟨annOf [(3, { σ := Nat, st := fun S x => ((S.keep [0, 6, 7]).int 8 x).new 3 (.vec 5 ((L.take x).map asW) 29), inv := fun _ x => x ≤ L.length, m := fun x => L.length - x })] [], _, fun v S hv => ⟨_, h, hv⟩, ?_⟩
    rw [supWeightsVc L]
    exact supWeightsHolds L (of_decide_eq_true hp)
  · exact h.elim)
/-! ### regatta/regattaref14.periods -/
def r14PeriodsText (L : List Part) : Prop := ((∃ x : Nat, ((x.le L.length) ∧ ((True ∧ (True ∧ (((↑x : Int) = (0 : Int)) ∧ True))) ∧ ((L = L) ∧ ((List.map Part.P (List.take x L) = []) ∧ True))))) ∧ (∀ x : Nat, ((x.le L.length) → (match (decide ((↑x : Int) < (↑L.length : Int))) with | true => (match (inb (↑x : Int) L.length) with | true => (match (inb (↑x : Int) L.length) with | true => (match (roomy ((List.map Part.P (List.take x L)).length + (1 : Nat)) (nat_lit 8)) with | true => (∃ x' : Nat, ((x'.le L.length) ∧ ((L.length - x' < L.length - x) ∧ ((True ∧ (True ∧ (((↑x' : Int) = IntKind.i64.wrap ((↑x : Int) + (1 : Int))) ∧ True))) ∧ ((L = L) ∧ ((List.map Part.P (List.take x' L) = List.map Part.P (List.take x L) ++ [(at' partE.zero L (↑x : Int)).P]) ∧ True)))))) | false => False) | false => False) | false => False) | false => ((True ∧ True) ∧ ((L = L) ∧ ((List.map Part.P L = List.map Part.P (List.take x L)) ∧ True)))))))
theorem r14PeriodsVc (L : List Part) : fnX { X19 with frz := true } (oneLoop 3 { σ := Nat, st := fun S x => ((S.keep [0]).int 4 x).new 3 (.vec 0 ((L.take x).map Part.P) 2), inv := fun _ x => x ≤ L.length, m := fun x => L.length - x }) Try.f58 [.own 0] [.ro 3 L] (ends [.ro 3 L] ⟨some (.own 1), [(1, some (.ro 0 (L.map Part.P)))]⟩) = r14PeriodsText L := by kernel_rfl
theorem r14PeriodsHolds (L : List Part) (hp : L.length ≤ 100000) : r14PeriodsText L := by
  unfold r14PeriodsText
  refine ⟨⟨0, Nat.zero_le _, by repeat' first | trivial | rfl | apply And.intro⟩, ?_⟩
  intro x hx
  have hx : x ≤ L.length := hx
  by_cases h : x < L.length
  · have hwx := wrap_succ h (show L.length ≤ 140737488355328 by omega)
    have hr : roomy (((L.take x).map Part.P).length + 1) 8 = true := by
      rw [List.length_map, List.length_take]
      exact decide_eq_true (by omega)
    have e : (L.take (x + 1)).map Part.P = (L.take x).map Part.P ++ [Part.P L[x]] := by rw [take_at h, List.map_append]; rfl
    rw [dec_lt h, inb_nat h, at_nat h, hr]
    refine ⟨x + 1, h, by omega, ?_⟩
    repeat' first | exact hwx.symm | exact e | trivial | rfl | apply And.intro
  · obtain rfl : x = L.length := by omega
    rw [dec_ge (Nat.le_refl _), List.take_length]
    repeat' first | trivial | rfl | apply And.intro
noncomputable def r14PeriodsCon : Con T O := fun args cs => match args, cs with
  | [.own 0], [.ro 3 L] => chk (decide (L.length ≤ 100000)) (.ret ⟨some (.own 1), [(1, some (.ro 0 (L.map Part.P)))]⟩)
  | _, _ => .fail
theorem r14PeriodsOk : ConOk R Try.prog 58 r14PeriodsCon := con_of_fn R ({ X19 with frz := true }) (TabOk.con R X19Ok) mixed Try.call58 Try.func58 r14PeriodsCon (by
  intro args cs K h
  unfold r14PeriodsCon at h
  split at h
  · rename_i L
    rw [Tree.holds_chk] at h
    obtain ⟨hp, h⟩ := h
    refine ⟨oneLoop 3 { σ := Nat, st := fun S x => ((S.keep [0]).int 4 x).new 3 (.vec 0 ((L.take x).map Part.P) 2), inv := fun _ x => x ≤ L.length, m := fun x => L.length - x }, _, fun v S hv => ⟨_, h, hv⟩, ?_⟩
    rw [r14PeriodsVc L]
    exact r14PeriodsHolds L (of_decide_eq_true hp)
  · exact h.elim)
/-! ### regatta/regattaref14.Check -/
def r14CheckText (L : List Part) : Prop := ((∃ x : Nat, (((x ≤ L.length) ∧ (L.all okPart = (List.drop x L).all okPart)) ∧ ((True ∧ (((↑x : Int) = (0 : Int)) ∧ True)) ∧ ((L = L) ∧ True)))) ∧ (∀ x : Nat, (((x ≤ L.length) ∧ (L.all okPart = (List.drop x L).all okPart)) → (match (decide ((↑x : Int) < (↑L.length : Int))) with | true => (match (inb (↑x : Int) L.length) with | true => (match (inb (↑x : Int) L.length) with | true => (match (inb (↑x : Int) L.length) with | true => (match (inb (↑x : Int) L.length) with | true => (match (!okP (at' partE.zero L (↑x : Int)).E (at' partE.zero L (↑x : Int)).P) with | true => (((checkL L = false) ∧ True) ∧ ((L = L) ∧ True)) | false => (∃ x' : Nat, (((x' ≤ L.length) ∧ (L.all okPart = (List.drop x' L).all okPart)) ∧ ((L.length - x' < L.length - x) ∧ ((True ∧ (((↑x' : Int) = IntKind.i64.wrap ((↑x : Int) + (1 : Int))) ∧ True)) ∧ ((L = L) ∧ True)))))) | false => False) | false => False) | false => False) | false => False) | false => (match (decide ((↑L.length : Int) ≥ (1 : Int))) with | true => (((checkL L = decide ((↑L.length : Int) ≤ (8 : Int))) ∧ True) ∧ ((L = L) ∧ True)) | false => (((checkL L = false) ∧ True) ∧ ((L = L) ∧ True)))))))
theorem r14CheckVc (L : List Part) : fnX X19 (oneLoop 2 { σ := Nat, st := fun S x => (S.keep [0]).int 3 x, inv := fun _ x => x ≤ L.length ∧ L.all okPart = (L.drop x).all okPart, m := fun x => L.length - x }) Try.f35 [.own 0] [.ro 3 L] (ends [.ro 3 L] ⟨some (.raw (.bool (checkL L))), []⟩) = r14CheckText L := by kernel_rfl
theorem r14CheckHolds (L : List Part) (hp : L.length ≤ 100000) : r14CheckText L := by
  unfold r14CheckText
  refine ⟨⟨0, ⟨Nat.zero_le _, rfl⟩, by repeat' first | trivial | rfl | apply And.intro⟩, ?_⟩
  rintro x ⟨hx, hs⟩
  by_cases h : x < L.length
  · have hwx := wrap_succ h (show L.length ≤ 140737488355328 by omega)
    rw [List.drop_eq_getElem_cons h, List.all_cons] at hs
    rw [dec_lt h, inb_nat h, at_nat h]
    by_cases g : okP L[x].E L[x].P = true
    · rw [show okPart L[x] = true from g, Bool.true_and] at hs
      rw [g, show (!true) = false from rfl]
      refine ⟨x + 1, ⟨h, hs⟩, by omega, ?_⟩
      repeat' first | exact hwx.symm | trivial | rfl | apply And.intro
    · have g : okP L[x].E L[x].P = false := by simpa using g
      rw [show okPart L[x] = false from g, Bool.false_and] at hs
      rw [g, show (!false) = true from rfl]
      have e : checkL L = false := by unfold checkL; rw [hs, Bool.and_false]
      repeat' first | exact e | trivial | rfl | apply And.intro
  · rw [List.drop_of_length_le (by omega)] at hs
    have hs : L.all okPart = true := hs
    rw [dec_ge (by omega : L.length ≤ x)]
    by_cases g : 1 ≤ L.length
    · have e : checkL L = decide ((L.length : Int) ≤ 8) := by
        unfold checkL
        rw [hs, decide_eq_true g, Bool.and_true, Bool.true_and]
        by_cases k : L.length ≤ 8
        · rw [decide_eq_true k, decide_eq_true (by omega)]
        · rw [decide_eq_false k, decide_eq_false (by omega)]
      rw [show decide ((L.length : Int) ≥ 1) = true from decide_eq_true (by omega)]
      repeat' first | exact e | trivial | rfl | apply And.intro
    · have e : checkL L = false := by unfold checkL; rw [decide_eq_false g, Bool.false_and, Bool.false_and]
      rw [show decide ((L.length : Int) ≥ 1) = false from decide_eq_false (by omega)]
      repeat' first | exact e | trivial | rfl | apply And.intro
noncomputable def r14CheckCon : Con T O := fun args cs => match args, cs with
  | [.own 0], [.ro 3 L] => chk (decide (L.length ≤ 100000)) (.ret ⟨some (.raw (.bool (checkL L))), []⟩)
  | _, _ => .fail
theorem r14CheckOk : ConOk R Try.prog 35 r14CheckCon := con_of_fn R (X19) (TabOk.con R X19Ok) mixed Try.call35 Try.func35 r14CheckCon (by
  intro args cs K h
  unfold r14CheckCon at h
  split at h
  · rename_i L
    rw [Tree.holds_chk] at h
    obtain ⟨hp, h⟩ := h
    refine ⟨oneLoop 2 { σ := Nat, st := fun S x => (S.keep [0]).int 3 x, inv := fun _ x => x ≤ L.length ∧ L.all okPart = (L.drop x).all okPart, m := fun x => L.length - x }, _, fun v S hv => ⟨_, h, hv⟩, ?_⟩
    rw [r14CheckVc L]
    exact r14CheckHolds L (of_decide_eq_true hp)
  · exact h.elim)
noncomputable def tab20 : Tab T O := (63, supBadCon) :: (67, supWeightsCon) :: (58, r14PeriodsCon) :: (35, r14CheckCon) :: tab19
theorem tabOk20 : TabOk R Try.prog tab20 := TabOk.cons R supBadOk <| TabOk.cons R supWeightsOk <| TabOk.cons R r14PeriodsOk <| TabOk.cons R r14CheckOk <| tabOk19
noncomputable def X20 : Ctx T O := { X0 with con := conOf tab20 }
theorem X20Ok : TabOk R X20.P tab20 := tabOk20
end Go.Proofs.Ytmnnjclnldaejaa
