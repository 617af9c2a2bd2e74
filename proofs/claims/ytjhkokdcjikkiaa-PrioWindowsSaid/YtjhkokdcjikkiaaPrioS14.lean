/-
  Part of a proof over the seat Ytjhkokdcjikkiaa: printed by a small program or typed by hand.
-/
import Derived.Test.YtjhkokdcjikkiaaPrioS13
import Derived.KernelRfl
namespace Go.Proofs.Ytjhkokdcjikkiaa
open Go.Sx Go.Proofs Classical

/-- the first place where something is so -/
def firstI {α : Type} (p : α → Bool) : List α → Int → Int
  | [], _ => -1
  | a :: l, i => bif p a then i else firstI p l (i + 1)
def idIs (id : Int) (e : Ent) : Bool := e.ID == id
def ahead (L : List Ent) (e : Ent) : Nat := L.countP (fun y => prioLess y e)
def rankL (L : List Ent) (id : Int) : Int := bif decide (firstI (idIs id) L 0 < 0) then -1 else ahead L (at' ez L (firstI (idIs id) L 0))
theorem rank_found {L : List Ent} {id : Int} {x : Nat} (h : firstI (idIs id) L 0 = x) : rankL L id = ahead L (at' ez L (x : Int)) := by
  unfold rankL
  rw [h, show decide ((x : Int) < 0) = false from decide_eq_false (by omega)]
  rfl
theorem rank_none {L : List Ent} {id : Int} (h : firstI (idIs id) L 0 = -1) : rankL L id = -1 := by
  unfold rankL
  rw [h]
  rfl
theorem ahead_snoc (l : List Ent) (y e : Ent) : ahead (l ++ [y]) e = ahead l e + (bif prioLess y e then 1 else 0) := by
  unfold ahead
  rw [List.countP_append]
  congr 1
theorem ahead_le (l : List Ent) (e : Ent) : ahead l e ≤ l.length := List.countP_le_length
theorem slOk_cut {k n : Nat} (h : k ≤ n) : slOk none (some (k : Int)) none (n : Int) = true := by simp [slOk, optB]; omega
theorem slOk_cut' {k n : Nat} (h : k ≤ n) : (slOk none (some (k : Int)) none (n : Int) && decide (optB none 0 = 0)) = true := by rw [slOk_cut h]; rfl
theorem cutL_to {α : Type} (k : Nat) (l : List α) : cutL none (some (k : Int)) l = l.take k := rfl

/-! ### regatta/prio.Rank$1 -/
def rankIsText (e : Ent) (id : Int) : Prop := (((idIs id e = (e.ID == id)) ∧ True) ∧ (((id = id) ∧ True) ∧ True))
theorem rankIsVc (e : Ent) (id : Int) : fnX X13 (noAnn) Try.f31 [.agg [.raw (.int .i64 e.ID), .raw (.int .i64 e.SubIndex), .raw (.int .i64 e.SubRelease), .raw (.int .i64 e.SubDeadline), .raw (.int .i64 e.SubBit), .raw (.int .i64 e.SubGroup)], .ptr 0 0] [.cells [.raw (.int .i64 id)] 3] (ends [.cells [.raw (.int .i64 id)] 3] ⟨some (.raw (.bool (idIs id e))), []⟩) = rankIsText e id := by kernel_rfl
theorem rankIsHolds (e : Ent) (id : Int) : rankIsText e id := by
  unfold rankIsText
  repeat' first | trivial | rfl | apply And.intro
noncomputable def rankIsCon : Con T O := fun args cs => match args, cs with
  | [.agg [.raw (.int .i64 e_0), .raw (.int .i64 e_1), .raw (.int .i64 e_2), .raw (.int .i64 e_3), .raw (.int .i64 e_4), .raw (.int .i64 e_5)], .ptr 0 0], [.cells [.raw (.int .i64 id)] 3] => .ret ⟨some (.raw (.bool (idIs id (⟨e_0, e_1, e_2, e_3, e_4, e_5⟩ : Ent)))), []⟩
  | _, _ => .fail
theorem rankIsOk : ConOk R Try.prog 31 rankIsCon := con_of_fn R (X13) (TabOk.con R X13Ok) mixed Try.call31 Try.func31 rankIsCon (by
  intro args cs K h
  unfold rankIsCon at h
  split at h
  · rename_i e_0 e_1 e_2 e_3 e_4 e_5 id
    refine ⟨noAnn, _, fun v S hv => ⟨_, h, hv⟩, ?_⟩
    rw [rankIsVc (⟨e_0, e_1, e_2, e_3, e_4, e_5⟩ : Ent) id]
    exact rankIsHolds (⟨e_0, e_1, e_2, e_3, e_4, e_5⟩ : Ent) id
  · exact h.elim)
/-! ### regatta/regattaref06.Pick -/
def rPickText (L : List Ent) (m : Int) : Prop := (match (decide (m < (1 : Int))) with | true => ((True ∧ True) ∧ ((L = L) ∧ ((List.take m.toNat (srt L) = []) ∧ True))) | false => (match (decide (L.length ≤ (1000 : Nat))) with | true => (match (decide ((↑(srt L).length : Int) > m)) with | true => (match (slOk none (some m) none (↑(srt L).length : Int) && decide (optB none (0 : Int) = (0 : Int))) with | true => ((True ∧ True) ∧ ((L = L) ∧ ((List.take m.toNat (srt L) = cutL none (some m) (srt L)) ∧ True))) | false => False) | false => ((True ∧ True) ∧ ((L = L) ∧ ((List.take m.toNat (srt L) = srt L) ∧ True)))) | false => False))
theorem rPickVc (L : List Ent) (m : Int) : fnX X13 (noAnn) Try.f18 [.own 0, .raw (.int .i64 m)] [.ro 2 L] (ends [.ro 2 L] ⟨some (.own 1), [(1, some (.vec 2 ((srt L).take m.toNat) 25))]⟩) = rPickText L m := by kernel_rfl
theorem rPickHolds (L : List Ent) (m : Int) (hp : L.length ≤ 20) : rPickText L m := by
  unfold rPickText
  by_cases h : m < 1
  · rw [decide_eq_true h, show m.toNat = 0 by omega]
    repeat' first | trivial | rfl | apply And.intro
  · obtain ⟨k, rfl⟩ := Int.eq_ofNat_of_zero_le (show 0 ≤ m by omega)
    rw [decide_eq_false h, decide_eq_true (show L.length ≤ 1000 by omega), srt_length, Int.toNat_natCast]
    by_cases g : k < L.length
    · rw [show decide ((L.length : Int) > (k : Int)) = true from decide_eq_true (by omega), slOk_cut' (Nat.le_of_lt g)]
      repeat' first | trivial | rfl | apply And.intro
    · rw [show decide ((L.length : Int) > (k : Int)) = false from decide_eq_false (by omega)]
      have e : (srt L).take k = srt L := List.take_of_length_le (by rw [srt_length]; omega)
      repeat' first | exact e | trivial | rfl | apply And.intro
noncomputable def rPickCon : Con T O := fun args cs => match args, cs with
  | [.own 0, .raw (.int .i64 m)], [.ro 2 L] => chk (decide (L.length ≤ 20)) (.ret ⟨some (.own 1), [(1, some (.vec 2 ((srt L).take m.toNat) 25))]⟩)
  | _, _ => .fail
theorem rPickOk : ConOk R Try.prog 18 rPickCon := con_of_fn R (X13) (TabOk.con R X13Ok) mixed Try.call18 Try.func18 rPickCon (by
  intro args cs K h
  unfold rPickCon at h
  split at h
  · rename_i m L
    rw [Tree.holds_chk] at h
    obtain ⟨hp, h⟩ := h
    refine ⟨noAnn, _, fun v S hv => ⟨_, h, hv⟩, ?_⟩
    rw [rPickVc L m]
    exact rPickHolds L m (of_decide_eq_true hp)
  · exact h.elim)
/-! ### regatta/prio.Pick -/
def pPickK0Text (L : List Ent) (m : Int) : Prop := (match (decide (m < (1 : Int))) with | true => ((True ∧ True) ∧ ((L = L) ∧ ((List.take m.toNat (srt L) = []) ∧ True))) | false => (match (decide (L.length ≤ (20 : Nat))) with | true => (match (slOk none (some (if m < (↑(isortN L L.length).length : Int) then m else (↑(isortN L L.length).length : Int))) none (↑(isortN L L.length).length : Int) && decide (optB none (0 : Int) = (0 : Int))) with | true => ((True ∧ True) ∧ ((L = L) ∧ ((List.take m.toNat (srt L) = cutL none (some (if m < (↑(isortN L L.length).length : Int) then m else (↑(isortN L L.length).length : Int))) (isortN L L.length)) ∧ True))) | false => False) | false => False))
theorem pPickK0Vc (L : List Ent) (m : Int) : fnX X13 (noAnn) Try.f13 [.own 0, .raw (.int .i64 m)] [.ro 2 L] (ends [.ro 2 L] ⟨some (.own 1), [(1, some (.vec 2 ((srt L).take m.toNat) 25))]⟩) = pPickK0Text L m := by kernel_rfl
theorem pPickK0Holds (L : List Ent) (m : Int) (hp : L.length ≤ 20) : pPickK0Text L m := by
  unfold pPickK0Text
  by_cases h : m < 1
  · rw [decide_eq_true h, show m.toNat = 0 by omega]
    repeat' first | trivial | rfl | apply And.intro
  · obtain ⟨k, rfl⟩ := Int.eq_ofNat_of_zero_le (show 0 ≤ m by omega)
    rw [decide_eq_false h, decide_eq_true hp, isortN_all, srt_length, Int.toNat_natCast]
    by_cases g : k < L.length
    · rw [if_pos (show (k : Int) < (L.length : Int) by omega), slOk_cut' (Nat.le_of_lt g)]
      repeat' first | trivial | rfl | apply And.intro
    · rw [if_neg (show ¬ (k : Int) < (L.length : Int) by omega), slOk_cut' (Nat.le_refl _), cutL_to]
      have e : (srt L).take k = (srt L).take L.length := by rw [List.take_of_length_le (by rw [srt_length]; omega), List.take_of_length_le (by rw [srt_length]; omega)]
      repeat' first | exact e | trivial | rfl | apply And.intro
def pPickK1Text (L : List Ent) (m : Int) : Prop := (match (decide (m < (1 : Int))) with | true => ((True ∧ True) ∧ ((L = L) ∧ ((List.take m.toNat (srt L) = []) ∧ True))) | false => (match (decide (L.length ≤ (20 : Nat))) with | true => (match (slOk none (some (if m < (↑(isortN L L.length).length : Int) then m else (↑(isortN L L.length).length : Int))) none (↑(isortN L L.length).length : Int) && decide (optB none (0 : Int) = (0 : Int))) with | true => ((True ∧ True) ∧ ((L = L) ∧ ((List.take m.toNat (srt L) = cutL none (some (if m < (↑(isortN L L.length).length : Int) then m else (↑(isortN L L.length).length : Int))) (isortN L L.length)) ∧ True))) | false => False) | false => False))
theorem pPickK1Vc (L : List Ent) (m : Int) : fnX X13 (noAnn) Try.f13 [.own 0, .raw (.int .i64 m)] [.vec 2 L 25] (ends [.vec 2 L 25] ⟨some (.own 1), [(0, some (.vec 2 L 25)), (1, some (.vec 2 ((srt L).take m.toNat) 25))]⟩) = pPickK1Text L m := by kernel_rfl
theorem pPickK1Holds (L : List Ent) (m : Int) (hp : L.length ≤ 20) : pPickK1Text L m := by
  unfold pPickK1Text
  by_cases h : m < 1
  · rw [decide_eq_true h, show m.toNat = 0 by omega]
    repeat' first | trivial | rfl | apply And.intro
  · obtain ⟨k, rfl⟩ := Int.eq_ofNat_of_zero_le (show 0 ≤ m by omega)
    rw [decide_eq_false h, decide_eq_true hp, isortN_all, srt_length, Int.toNat_natCast]
    by_cases g : k < L.length
    · rw [if_pos (show (k : Int) < (L.length : Int) by omega), slOk_cut' (Nat.le_of_lt g)]
      repeat' first | trivial | rfl | apply And.intro
    · rw [if_neg (show ¬ (k : Int) < (L.length : Int) by omega), slOk_cut' (Nat.le_refl _), cutL_to]
      have e : (srt L).take k = (srt L).take L.length := by rw [List.take_of_length_le (by rw [srt_length]; omega), List.take_of_length_le (by rw [srt_length]; omega)]
      repeat' first | exact e | trivial | rfl | apply And.intro
noncomputable def pPickCon : Con T O := fun args cs => match args, cs with
  | [.own 0, .raw (.int .i64 m)], [.ro 2 L] => chk (decide (L.length ≤ 20)) (.ret ⟨some (.own 1), [(1, some (.vec 2 ((srt L).take m.toNat) 25))]⟩)
  | [.own 0, .raw (.int .i64 m)], [.vec 2 L 25] => chk (decide (L.length ≤ 20)) (.ret ⟨some (.own 1), [(0, some (.vec 2 L 25)), (1, some (.vec 2 ((srt L).take m.toNat) 25))]⟩)
  | _, _ => .fail
theorem pPickOk : ConOk R Try.prog 13 pPickCon := con_of_fn R (X13) (TabOk.con R X13Ok) mixed Try.call13 Try.func13 pPickCon (by
  intro args cs K h
  unfold pPickCon at h
  split at h
  · rename_i m L
    rw [Tree.holds_chk] at h
    obtain ⟨hp, h⟩ := h
    refine ⟨noAnn, _, fun v S hv => ⟨_, h, hv⟩, ?_⟩
    rw [pPickK0Vc L m]
    exact pPickK0Holds L m (of_decide_eq_true hp)
  · rename_i m L
    rw [Tree.holds_chk] at h
    obtain ⟨hp, h⟩ := h
    refine ⟨noAnn, _, fun v S hv => ⟨_, h, hv⟩, ?_⟩
    rw [pPickK1Vc L m]
    exact pPickK1Holds L m (of_decide_eq_true hp)
  · exact h.elim)
/-! ### regatta/regattaref06.Rank -/
def rRankText (L : List Ent) (id : Int) : Prop := ((∃ x : Nat, (((x ≤ L.length) ∧ (firstI (idIs id) L (0 : Int) = firstI (idIs id) (List.drop x L) (↑x : Int))) ∧ ((True ∧ ((id = id) ∧ (((↑x : Int) = (0 : Int)) ∧ True))) ∧ ((L = L) ∧ True)))) ∧ (∀ x : Nat, (((x ≤ L.length) ∧ (firstI (idIs id) L (0 : Int) = firstI (idIs id) (List.drop x L) (↑x : Int))) → (match (decide ((↑x : Int) < (↑L.length : Int))) with | true => (match (inb (↑x : Int) L.length) with | true => (match (inb (↑x : Int) L.length) with | true => (match ((at' entE.zero L (↑x : Int)).ID != id) with | true => (∃ x' : Nat, (((x' ≤ L.length) ∧ (firstI (idIs id) L (0 : Int) = firstI (idIs id) (List.drop x' L) (↑x' : Int))) ∧ ((L.length - x' < L.length - x) ∧ ((True ∧ ((id = id) ∧ (((↑x' : Int) = IntKind.i64.wrap ((↑x : Int) + (1 : Int))) ∧ True))) ∧ ((L = L) ∧ True))))) | false => ((∃ x1 : Nat, ((x1.le L.length) ∧ ((True ∧ ((id = id) ∧ (((↑x : Int) = (↑x : Int)) ∧ (((↑(ahead (List.take x1 L) (at' ez L (↑x : Int))) : Int) = (0 : Int)) ∧ (((↑x1 : Int) = (0 : Int)) ∧ True))))) ∧ ((L = L) ∧ True)))) ∧ (∀ x1 : Nat, ((x1.le L.length) → (match (decide ((↑x1 : Int) < (↑L.length : Int))) with | true => (match (inb (↑x1 : Int) L.length) with | true => (match (inb (↑x1 : Int) L.length) with | true => (match (inb (↑x : Int) L.length) with | true => (match (inb (↑x : Int) L.length) with | true => (match (ref06Less (at' entE.zero L (↑x1 : Int)) (at' entE.zero L (↑x : Int))) with | true => (∃ x' : Nat, ((x'.le L.length) ∧ ((L.length - x' < L.length - x1) ∧ ((True ∧ ((id = id) ∧ (((↑x : Int) = (↑x : Int)) ∧ (((↑(ahead (List.take x' L) (at' ez L (↑x : Int))) : Int) = IntKind.i64.wrap ((↑(ahead (List.take x1 L) (at' ez L (↑x : Int))) : Int) + (1 : Int))) ∧ (((↑x' : Int) = IntKind.i64.wrap ((↑x1 : Int) + (1 : Int))) ∧ True))))) ∧ ((L = L) ∧ True))))) | false => (∃ x' : Nat, ((x'.le L.length) ∧ ((L.length - x' < L.length - x1) ∧ ((True ∧ ((id = id) ∧ (((↑x : Int) = (↑x : Int)) ∧ (((↑(ahead (List.take x' L) (at' ez L (↑x : Int))) : Int) = (↑(ahead (List.take x1 L) (at' ez L (↑x : Int))) : Int)) ∧ (((↑x' : Int) = IntKind.i64.wrap ((↑x1 : Int) + (1 : Int))) ∧ True))))) ∧ ((L = L) ∧ True)))))) | false => False) | false => False) | false => False) | false => False) | false => (((rankL L id = (↑(ahead (List.take x1 L) (at' ez L (↑x : Int))) : Int)) ∧ True) ∧ ((L = L) ∧ True))))))) | false => False) | false => False) | false => (((rankL L id = (-1 : Int)) ∧ True) ∧ ((L = L) ∧ True))))))
theorem rRankVc (L : List Ent) (id : Int) : fnX X13 (annOf [(2, { σ := Nat, st := fun S x => (S.keep [0, 1]).int 5 x, inv := fun _ x => x ≤ L.length ∧ firstI (idIs id) L 0 = firstI (idIs id) (L.drop x) x, m := fun x => L.length - x }), (7, { σ := Nat, st := fun S x => ((S.keep [0, 1, 5]).int 7 x).int 6 ((ahead (L.take x) (at' ez L (S.gi 5)) : Nat) : Int), inv := fun _ x => x ≤ L.length, m := fun x => L.length - x })] []) Try.f19 [.own 0, .raw (.int .i64 id)] [.ro 2 L] (ends [.ro 2 L] ⟨some (.raw (.int .i64 (rankL L id))), []⟩) = rRankText L id := by kernel_rfl
theorem rRankHolds (L : List Ent) (id : Int) (hp : L.length ≤ 1000) : rRankText L id := by
  unfold rRankText
  simp only [refLess_eq]
  refine ⟨⟨0, ⟨by omega, rfl⟩, by repeat' first | trivial | rfl | apply And.intro⟩, ?_⟩
  rintro x ⟨hx, hs⟩
  by_cases h : x < L.length
  · have hwx := wrap_succ h (show L.length ≤ 140737488355328 by omega)
    simp only [dec_lt h, inb_nat h, at_nat h]
    rw [drop_at h] at hs
    simp only [firstI] at hs
    cases hp : L[x].ID != id
    · have hid : idIs id L[x] = true := by simpa [idIs] using hp
      rw [hid, cond_true] at hs
      have hr := rank_found hs
      rw [at_nat h] at hr
      refine ⟨⟨0, Nat.zero_le _, by repeat' first | trivial | rfl | apply And.intro⟩, ?_⟩
      rintro k hk
      by_cases g : k < L.length
      · have hwk := wrap_succ g (show L.length ≤ 140737488355328 by omega)
        have ha := ahead_le (L.take k) L[x]
        rw [List.length_take] at ha
        have hwa : IntKind.i64.wrap ((ahead (L.take k) L[x] : Int) + 1) = ((ahead (L.take k) L[x] + 1 : Nat) : Int) := by rw [wrap_id (by omega) (by omega)]; omega
        have hn := ahead_snoc (L.take k) L[k] L[x]
        rw [← take_snoc g] at hn
        simp only [dec_lt g, inb_nat g, at_nat g]
        cases hy : prioLess L[k] L[x]
        · rw [hy, cond_false] at hn
          refine ⟨k + 1, g, by omega, ?_⟩
          rw [hn]
          repeat' first | exact hwk.symm | trivial | rfl | apply And.intro
        · rw [hy, cond_true] at hn
          refine ⟨k + 1, g, by omega, ?_⟩
          rw [hn]
          repeat' first | exact hwk.symm | exact hwa.symm | trivial | rfl | apply And.intro
      · simp only [dec_ge (show L.length ≤ k by omega)]
        rw [List.take_of_length_le (by omega)]
        repeat' first | exact hr | trivial | rfl | apply And.intro
    · have hid : idIs id L[x] = false := by simpa [idIs] using hp
      rw [hid, cond_false] at hs
      refine ⟨x + 1, ⟨h, by simpa using hs⟩, by omega, ?_⟩
      repeat' first | exact hwx.symm | trivial | rfl | apply And.intro
  · rw [dec_ge (by omega)]
    rw [List.drop_of_length_le (by omega)] at hs
    have hr := rank_none hs
    repeat' first | exact hr | trivial | rfl | apply And.intro
noncomputable def rRankCon : Con T O := fun args cs => match args, cs with
  | [.own 0, .raw (.int .i64 id)], [.ro 2 L] => chk (decide (L.length ≤ 1000)) (.ret ⟨some (.raw (.int .i64 (rankL L id))), []⟩)
  | _, _ => .fail
theorem rRankOk : ConOk R Try.prog 19 rRankCon := con_of_fn R (X13) (TabOk.con R X13Ok) mixed Try.call19 Try.func19 rRankCon (by
  intro args cs K h
  unfold rRankCon at h
  split at h
  · rename_i id L
    rw [Tree.holds_chk] at h
    obtain ⟨hp, h⟩ := h
    refine ⟨annOf [(2, { σ := Nat, st := fun S x => (S.keep [0, 1]).int 5 x, inv := fun _ x => x ≤ L.length ∧ firstI (idIs id) L 0 = firstI (idIs id) (L.drop x) x, m := fun x => L.length - x }), (7, { σ := Nat, st := fun S x => ((S.keep [0, 1, 5]).int 7 x).int 6 ((ahead (L.take x) (at' ez L (S.gi 5)) : Nat) : Int), inv := fun _ x => x ≤ L.length, m := fun x => L.length - x })] [], _, fun v S hv => ⟨_, h, hv⟩, ?_⟩
    rw [rRankVc L id]
    exact rRankHolds L id (of_decide_eq_true hp)
  · exact h.elim)
noncomputable def tab14 : Tab T O := (31, rankIsCon) :: (18, rPickCon) :: (13, pPickCon) :: (19, rRankCon) :: tab13
theorem tabOk14 : TabOk R Try.prog tab14 := TabOk.cons R rankIsOk <| TabOk.cons R rPickOk <| TabOk.cons R pPickOk <| TabOk.cons R rRankOk <| tabOk13
noncomputable def X14 : Ctx T O := { X0 with con := conOf tab14 }
theorem X14Ok : TabOk R X14.P tab14 := tabOk14
end Go.Proofs.Ytjhkokdcjikkiaa
