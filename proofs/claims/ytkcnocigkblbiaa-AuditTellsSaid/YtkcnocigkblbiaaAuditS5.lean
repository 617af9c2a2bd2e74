/-
  Part of a proof over the seat Ytkcnocigkblbiaa: printed by a small program or typed by hand.
-/
import Derived.Test.YtkcnocigkblbiaaAuditS4
import Derived.KernelRfl
namespace Go.Proofs.Ytkcnocigkblbiaa
open Go.Sx Go.Proofs Classical

def few20 (L : List Note) : List Note := L.take 20
def checkK (L : List Note) (m : Int) : Int := bif firstI auditLate1 L 0 != -1 then 1 else bif orderGo [] L 0 != -1 then 2 else bif slotsGo m none [] [] L 0 != -1 then 3 else 0
def checkAt (L : List Note) (m : Int) : Int := bif firstI auditLate1 L 0 != -1 then firstI auditLate1 L 0 else bif orderGo [] L 0 != -1 then orderGo [] L 0 else slotsGo m none [] [] L 0
/-- what is read of a row so far, of six -/
def sixK (r : List Int) (k : Nat) : List Int := (List.range 6).map fun j => if j < k then r.getD j 0 else 0
theorem sixK_len (r : List Int) (k : Nat) : (sixK r k).length = 6 := by simp [sixK]
theorem sixK_set (r : List Int) (k : Nat) (h : k < r.length) (h6 : k < 6) : (sixK r k).set k r[k] = sixK r (k + 1) := by
  apply List.ext_getElem
  · simp [sixK]
  · intro i h1 h2
    have hi : i < 6 := by simpa [sixK] using h2
    rw [List.getElem_set]
    simp only [sixK, List.getElem_map, List.getElem_range]
    by_cases e : k = i
    · subst e; simp [List.getD, List.getElem?_eq_getElem h]
    · rw [if_neg e]
      by_cases e2 : i < k
      · rw [if_pos e2, if_pos (by omega)]
      · rw [if_neg e2, if_neg (by omega)]
theorem sixK_end (r : List Int) (k : Nat) (h : r.length ≤ k ∨ 6 ≤ k) : sixK r k = sixK r 6 := by
  apply List.ext_getElem
  · simp [sixK]
  · intro i h1 h2
    have hi : i < 6 := by simpa [sixK] using h2
    simp only [sixK, List.getElem_map, List.getElem_range, if_pos hi]
    split
    · rfl
    · rw [List.getD_eq_getElem?_getD, List.getElem?_eq_none (by omega)]; rfl
def b64 (n : Int) (m : Int) : Int := bits .and .i64 n m
def madeAt (t : Int) (r : List Int) : Int := IntKind.i64.wrap (t + b64 (at' 0 (sixK r 6) 0) 1)
def madeNote (t : Int) (r : List Int) : Note :=
  { ID := b64 (at' 0 (sixK r 6) 1) 3, Since := b64 (at' 0 (sixK r 6) 2) 1, SubIndex := IntKind.i64.wrap (1 + b64 (at' 0 (sixK r 6) 3) 7), SubRelease := 0,
    SubDeadline := IntKind.i64.wrap (IntKind.i64.wrap (IntKind.i64.wrap (t + 1) + b64 (at' 0 (sixK r 6) 4) 3) - b64 (Int.fdiv (at' 0 (sixK r 6) 4) (2 ^ (min (Int.toNat 4) 64))) 1), SubBit := b64 (Int.fdiv (at' 0 (sixK r 6) 4) (2 ^ (min (Int.toNat 2) 64))) 1, SubGroup := 0,
    Ready := IntKind.i64.wrap (t - b64 (Int.fdiv (at' 0 (sixK r 6) 4) (2 ^ (min (Int.toNat 3) 64))) 1), At := t, Core := b64 (at' 0 (sixK r 6) 5) 3 }
def madeGo : Int → List (List Int) → List Note
  | _, [] => []
  | t, r :: l => madeNote (madeAt t r) r :: madeGo (madeAt t r) l

/-! ### regatta/regattalaw20.few -/
def law20FewText (L : List Note) : Prop := (match (decide ((↑L.length : Int) > 20)) with | true => (match (slOk none (some 20) none (↑L.length : Int)) with | true => ((True ∧ True) ∧ ((L = L) ∧ ((few20 L = cutL none (some 20) L) ∧ True))) | false => False) | false => ((True ∧ True) ∧ ((L = L) ∧ ((few20 L = L) ∧ True))))
theorem law20FewVc (L : List Note) : fnX X4 (noAnn) Try.f15 [.own 0] [.ro 2 L] (ends [.ro 2 L] ⟨some (.own 1), [(1, some (.ro 2 (few20 L)))]⟩) = law20FewText L := by kernel_rfl
theorem law20FewHolds (L : List Note) : law20FewText L := by
  unfold law20FewText few20
  by_cases h : 20 < L.length
  · rw [show decide ((L.length : Int) > 20) = true by simp; omega]
    rw [show slOk none (some 20) none (L.length : Int) = true by (simp only [slOk, optB]; simp; exact decide_eq_true (by omega))]
    simp [cutL, optB]
  · rw [show decide ((L.length : Int) > 20) = false by simp; omega]
    simp [List.take_of_length_le (show L.length ≤ 20 by omega)]
noncomputable def law20FewCon : Con T O := fun args cs => match args, cs with
  | [.own 0], [.ro 2 L] => .ret ⟨some (.own 1), [(1, some (.ro 2 (few20 L)))]⟩
  | _, _ => .fail
theorem law20FewOk : ConOk R Try.prog 15 law20FewCon := con_of_fn R (X4) (TabOk.con R X4Ok) mixed Try.call15 Try.func15 law20FewCon (by
  intro args cs K h
  unfold law20FewCon at h
  split at h
  · rename_i L
    refine ⟨noAnn, _, fun v S hv => ⟨_, h, hv⟩, ?_⟩
    rw [law20FewVc L]
    exact law20FewHolds L
  · exact h.elim)
/-! ### regatta/audit.Check -/
def auditCheckText (L : List Note) (m : Int) : Prop := (match (decide (L.length ≤ 140737488355328)) with | true => (match (decide (L.length ≤ 140737488355328)) with | true => (match (decide (L.length ≤ 140737488355328)) with | true => (match (firstI auditLate1 L 0 != -1) with | true => ((((checkK L m = IntKind.i64.wrap (0 + 1)) ∧ ((checkAt L m = firstI auditLate1 L 0) ∧ True)) ∧ True) ∧ ((L = L) ∧ True)) | false => (match (orderGo [] L 0 != -1) with | true => ((((checkK L m = IntKind.i64.wrap (IntKind.i64.wrap (0 + 1) + 1)) ∧ ((checkAt L m = orderGo [] L 0) ∧ True)) ∧ True) ∧ ((L = L) ∧ True)) | false => (match (slotsGo m none [] [] L 0 != -1) with | true => ((((checkK L m = IntKind.i64.wrap (IntKind.i64.wrap (IntKind.i64.wrap (0 + 1) + 1) + 1)) ∧ ((checkAt L m = slotsGo m none [] [] L 0) ∧ True)) ∧ True) ∧ ((L = L) ∧ True)) | false => ((((checkK L m = 0) ∧ ((checkAt L m = -1) ∧ True)) ∧ True) ∧ ((L = L) ∧ True))))) | false => False) | false => False) | false => False)
theorem auditCheckVc (L : List Note) (m : Int) : fnX X4 (annOf [] [(2, 4)]) Try.f21 [.own 0, .raw (.int .i64 m)] [.ro 2 L] (ends [.ro 2 L] ⟨some (.tup [.raw (.int .i64 (checkK L m)), .raw (.int .i64 (checkAt L m))]), []⟩) = auditCheckText L m := by kernel_rfl
theorem auditCheckHolds (L : List Note) (m : Int) (hp : L.length ≤ 140737488355328) : auditCheckText L m := by
  unfold auditCheckText checkK checkAt
  rw [decide_eq_true hp]
  cases h1 : firstI auditLate1 L 0 != -1
  · cases h2 : orderGo [] L 0 != -1
    · cases h3 : slotsGo m none [] [] L 0 != -1
      · simp at h3
        simp [h3]
      · exact ⟨⟨⟨rfl, rfl, trivial⟩, trivial⟩, rfl, trivial⟩
    · exact ⟨⟨⟨rfl, rfl, trivial⟩, trivial⟩, rfl, trivial⟩
  · exact ⟨⟨⟨rfl, rfl, trivial⟩, trivial⟩, rfl, trivial⟩
noncomputable def auditCheckCon : Con T O := fun args cs => match args, cs with
  | [.own 0, .raw (.int .i64 m)], [.ro 2 L] => chk (decide (L.length ≤ 140737488355328)) (.ret ⟨some (.tup [.raw (.int .i64 (checkK L m)), .raw (.int .i64 (checkAt L m))]), []⟩)
  | _, _ => .fail
theorem auditCheckOk : ConOk R Try.prog 21 auditCheckCon := con_of_fn R (X4) (TabOk.con R X4Ok) mixed Try.call21 Try.func21 auditCheckCon (by
  intro args cs K h
  unfold auditCheckCon at h
  split at h
  · rename_i m L
    rw [Tree.holds_chk] at h
    obtain ⟨hp, h⟩ := h
    refine ⟨annOf [] [(2, 4)], _, fun v S hv => ⟨_, h, hv⟩, ?_⟩
    rw [auditCheckVc L m]
    exact auditCheckHolds L m (of_decide_eq_true hp)
  · exact h.elim)
/-! ### regatta/regattalaw20.made -/
def law20MadeText (LL : List (List Int)) : Prop := ((∃ x : Nat × Int × List Note, (((x.fst ≤ 20) ∧ ((x.fst ≤ LL.length) ∧ ((x.snd.snd.length = x.fst) ∧ (madeGo 0 (List.take 20 LL) = x.snd.snd ++ madeGo x.snd.fst (List.drop x.fst (List.take 20 LL)))))) ∧ ((True ∧ (True ∧ ((x.snd.fst = 0) ∧ (((↑x.fst : Int) = 0) ∧ True)))) ∧ ((LL = LL) ∧ ((x.snd.snd = []) ∧ True))))) ∧ (∀ x : Nat × Int × List Note, (((x.fst ≤ 20) ∧ ((x.fst ≤ LL.length) ∧ ((x.snd.snd.length = x.fst) ∧ (madeGo 0 (List.take 20 LL) = x.snd.snd ++ madeGo x.snd.fst (List.drop x.fst (List.take 20 LL)))))) → (match (decide ((↑x.fst : Int) < (↑LL.length : Int))) with | true => (match (decide ((↑x.fst : Int) < 20)) with | true => ((∃ x1 : Nat × List Int, (((x1.fst ≤ 6) ∧ ((x1.fst ≤ (at' [] LL (↑x.fst : Int)).length) ∧ (x1.snd = sixK (at' [] LL (↑x.fst : Int)) x1.fst))) ∧ ((True ∧ (True ∧ ((x.snd.fst = x.snd.fst) ∧ (((↑x.fst : Int) = (↑x.fst : Int)) ∧ (True ∧ (((↑x1.fst : Int) = 0) ∧ True)))))) ∧ ((LL = LL) ∧ ((x.snd.snd = x.snd.snd) ∧ ((x1.snd = [0, 0, 0, 0, 0, 0]) ∧ True)))))) ∧ (∀ x1 : Nat × List Int, (((x1.fst ≤ 6) ∧ ((x1.fst ≤ (at' [] LL (↑x.fst : Int)).length) ∧ (x1.snd = sixK (at' [] LL (↑x.fst : Int)) x1.fst))) → (match (decide ((↑x1.fst : Int) < 6)) with | true => (match (inb (↑x.fst : Int) LL.length) with | true => (match (inb (↑x.fst : Int) LL.length) with | true => (match (decide ((↑x1.fst : Int) < (↑(at' [] LL (↑x.fst : Int)).length : Int))) with | true => (match (inb (↑x.fst : Int) LL.length) with | true => (match (inb (↑x.fst : Int) LL.length) with | true => (match (inb (↑x1.fst : Int) (at' [] LL (↑x.fst : Int)).length) with | true => (match (inb (↑x1.fst : Int) (at' [] LL (↑x.fst : Int)).length) with | true => (match (x1.snd.length == 6) with | true => (match (inb (↑x1.fst : Int) 6) with | true => (match (inb (↑x1.fst : Int) x1.snd.length) with | true => (∃ x' : Nat × List Int, (((x'.fst ≤ 6) ∧ ((x'.fst ≤ (at' [] LL (↑x.fst : Int)).length) ∧ (x'.snd = sixK (at' [] LL (↑x.fst : Int)) x'.fst))) ∧ ((6 - x'.fst < 6 - x1.fst) ∧ ((True ∧ (True ∧ ((x.snd.fst = x.snd.fst) ∧ (((↑x.fst : Int) = (↑x.fst : Int)) ∧ (True ∧ (((↑x'.fst : Int) = IntKind.i64.wrap ((↑x1.fst : Int) + 1)) ∧ True)))))) ∧ ((LL = LL) ∧ ((x.snd.snd = x.snd.snd) ∧ ((x'.snd = x1.snd.set (↑x1.fst : Int).toNat (at' (T 0).zero (at' [] LL (↑x.fst : Int)) (↑x1.fst : Int))) ∧ True))))))) | false => False) | false => False) | false => False) | false => False) | false => False) | false => False) | false => False) | false => (match (x1.snd.length == 6) with | true => (match (inb 0 x1.snd.length) with | true => (match (x1.snd.length == 6) with | true => (match (inb 1 x1.snd.length) with | true => (match (x1.snd.length == 6) with | true => (match (inb 2 x1.snd.length) with | true => (match (x1.snd.length == 6) with | true => (match (inb 3 x1.snd.length) with | true => (match (x1.snd.length == 6) with | true => (match (inb 4 x1.snd.length) with | true => (match (x1.snd.length == 6) with | true => (match (inb 4 x1.snd.length) with | true => (match (x1.snd.length == 6) with | true => (match (inb 4 x1.snd.length) with | true => (match (x1.snd.length == 6) with | true => (match (inb 4 x1.snd.length) with | true => (match (x1.snd.length == 6) with | true => (match (inb 5 x1.snd.length) with | true => (match (roomy (x.snd.snd.length + 1) 80) with | true => (∃ x' : Nat × Int × List Note, (((x'.fst ≤ 20) ∧ ((x'.fst ≤ LL.length) ∧ ((x'.snd.snd.length = x'.fst) ∧ (madeGo 0 (List.take 20 LL) = x'.snd.snd ++ madeGo x'.snd.fst (List.drop x'.fst (List.take 20 LL)))))) ∧ ((20 - x'.fst < 20 - x.fst) ∧ ((True ∧ (True ∧ ((x'.snd.fst = IntKind.i64.wrap (x.snd.fst + bits BinOp.and IntKind.i64 (at' (T 0).zero x1.snd 0) 1)) ∧ (((↑x'.fst : Int) = IntKind.i64.wrap ((↑x.fst : Int) + 1)) ∧ True)))) ∧ ((LL = LL) ∧ ((x'.snd.snd = x.snd.snd ++ [{ ID := bits BinOp.and IntKind.i64 (at' (T 0).zero x1.snd 1) 3, Since := bits BinOp.and IntKind.i64 (at' (T 0).zero x1.snd 2) 1, SubIndex := IntKind.i64.wrap (1 + bits BinOp.and IntKind.i64 (at' (T 0).zero x1.snd 3) 7), SubRelease := 0, SubDeadline := IntKind.i64.wrap (IntKind.i64.wrap (IntKind.i64.wrap (IntKind.i64.wrap (x.snd.fst + bits BinOp.and IntKind.i64 (at' (T 0).zero x1.snd 0) 1) + 1) + bits BinOp.and IntKind.i64 (at' (T 0).zero x1.snd 4) 3) - bits BinOp.and IntKind.i64 (Int.fdiv (at' (T 0).zero x1.snd 4) (2 ^ min (Int.toNat 4) IntKind.i64.bits)) 1), SubBit := bits BinOp.and IntKind.i64 (Int.fdiv (at' (T 0).zero x1.snd 4) (2 ^ min (Int.toNat 2) IntKind.i64.bits)) 1, SubGroup := 0, Ready := IntKind.i64.wrap (IntKind.i64.wrap (x.snd.fst + bits BinOp.and IntKind.i64 (at' (T 0).zero x1.snd 0) 1) - bits BinOp.and IntKind.i64 (Int.fdiv (at' (T 0).zero x1.snd 4) (2 ^ min (Int.toNat 3) IntKind.i64.bits)) 1), At := IntKind.i64.wrap (x.snd.fst + bits BinOp.and IntKind.i64 (at' (T 0).zero x1.snd 0) 1), Core := bits BinOp.and IntKind.i64 (at' (T 0).zero x1.snd 5) 3 }]) ∧ True)))))) | false => False) | false => False) | false => False) | false => False) | false => False) | false => False) | false => False) | false => False) | false => False) | false => False) | false => False) | false => False) | false => False) | false => False) | false => False) | false => False) | false => False) | false => False) | false => False)) | false => False) | false => False) | false => (match (x1.snd.length == 6) with | true => (match (inb 0 x1.snd.length) with | true => (match (x1.snd.length == 6) with | true => (match (inb 1 x1.snd.length) with | true => (match (x1.snd.length == 6) with | true => (match (inb 2 x1.snd.length) with | true => (match (x1.snd.length == 6) with | true => (match (inb 3 x1.snd.length) with | true => (match (x1.snd.length == 6) with | true => (match (inb 4 x1.snd.length) with | true => (match (x1.snd.length == 6) with | true => (match (inb 4 x1.snd.length) with | true => (match (x1.snd.length == 6) with | true => (match (inb 4 x1.snd.length) with | true => (match (x1.snd.length == 6) with | true => (match (inb 4 x1.snd.length) with | true => (match (x1.snd.length == 6) with | true => (match (inb 5 x1.snd.length) with | true => (match (roomy (x.snd.snd.length + 1) 80) with | true => (∃ x' : Nat × Int × List Note, (((x'.fst ≤ 20) ∧ ((x'.fst ≤ LL.length) ∧ ((x'.snd.snd.length = x'.fst) ∧ (madeGo 0 (List.take 20 LL) = x'.snd.snd ++ madeGo x'.snd.fst (List.drop x'.fst (List.take 20 LL)))))) ∧ ((20 - x'.fst < 20 - x.fst) ∧ ((True ∧ (True ∧ ((x'.snd.fst = IntKind.i64.wrap (x.snd.fst + bits BinOp.and IntKind.i64 (at' (T 0).zero x1.snd 0) 1)) ∧ (((↑x'.fst : Int) = IntKind.i64.wrap ((↑x.fst : Int) + 1)) ∧ True)))) ∧ ((LL = LL) ∧ ((x'.snd.snd = x.snd.snd ++ [{ ID := bits BinOp.and IntKind.i64 (at' (T 0).zero x1.snd 1) 3, Since := bits BinOp.and IntKind.i64 (at' (T 0).zero x1.snd 2) 1, SubIndex := IntKind.i64.wrap (1 + bits BinOp.and IntKind.i64 (at' (T 0).zero x1.snd 3) 7), SubRelease := 0, SubDeadline := IntKind.i64.wrap (IntKind.i64.wrap (IntKind.i64.wrap (IntKind.i64.wrap (x.snd.fst + bits BinOp.and IntKind.i64 (at' (T 0).zero x1.snd 0) 1) + 1) + bits BinOp.and IntKind.i64 (at' (T 0).zero x1.snd 4) 3) - bits BinOp.and IntKind.i64 (Int.fdiv (at' (T 0).zero x1.snd 4) (2 ^ min (Int.toNat 4) IntKind.i64.bits)) 1), SubBit := bits BinOp.and IntKind.i64 (Int.fdiv (at' (T 0).zero x1.snd 4) (2 ^ min (Int.toNat 2) IntKind.i64.bits)) 1, SubGroup := 0, Ready := IntKind.i64.wrap (IntKind.i64.wrap (x.snd.fst + bits BinOp.and IntKind.i64 (at' (T 0).zero x1.snd 0) 1) - bits BinOp.and IntKind.i64 (Int.fdiv (at' (T 0).zero x1.snd 4) (2 ^ min (Int.toNat 3) IntKind.i64.bits)) 1), At := IntKind.i64.wrap (x.snd.fst + bits BinOp.and IntKind.i64 (at' (T 0).zero x1.snd 0) 1), Core := bits BinOp.and IntKind.i64 (at' (T 0).zero x1.snd 5) 3 }]) ∧ True)))))) | false => False) | false => False) | false => False) | false => False) | false => False) | false => False) | false => False) | false => False) | false => False) | false => False) | false => False) | false => False) | false => False) | false => False) | false => False) | false => False) | false => False) | false => False) | false => False))))) | false => ((True ∧ True) ∧ ((LL = LL) ∧ ((madeGo 0 (List.take 20 LL) = x.snd.snd) ∧ True)))) | false => ((True ∧ True) ∧ ((LL = LL) ∧ ((madeGo 0 (List.take 20 LL) = x.snd.snd) ∧ True)))))))
theorem law20MadeVc (LL : List (List Int)) : fnX X4 (annOf [(4, { σ := Nat × Int × List Note, st := fun S x => (((S.keep [0]).int 5 x.1).int 4 x.2.1).new 3 (.vec 2 x.2.2 49), inv := fun _ x => x.1 ≤ 20 ∧ x.1 ≤ LL.length ∧ x.2.2.length = x.1 ∧ madeGo 0 (LL.take 20) = x.2.2 ++ madeGo x.2.1 ((LL.take 20).drop x.1), m := fun x => 20 - x.1 }),
  (8, { σ := Nat × List Int, st := fun S x => ((S.keep [0, 3, 4, 5, 6]).int 7 x.1).at' 6 (.arr 0 x.2 59), inv := fun S x => x.1 ≤ 6 ∧ x.1 ≤ (at' [] LL (S.gi 5)).length ∧ x.2 = sixK (at' [] LL (S.gi 5)) x.1, m := fun x => 6 - x.1 })] []) Try.f9 [.own 0] [.nest 0 LL] (ends [.nest 0 LL] ⟨some (.own 1), [(1, some (.ro 2 (madeGo 0 (LL.take 20))))]⟩) = law20MadeText LL := by kernel_rfl
theorem law20MadeHolds (LL : List (List Int)) : law20MadeText LL := by
  unfold law20MadeText
  refine ⟨⟨(0, 0, []), ⟨by omega, by omega, rfl, rfl⟩, by simp⟩, ?_⟩
  rintro ⟨x, t, out⟩ ⟨h1, h2, h3, h4⟩
  dsimp only at h1 h2 h3 h4 ⊢
  by_cases hx : x < LL.length
  · rw [dec_lt hx]
    by_cases hx20 : x < 20
    · rw [show decide ((x : Int) < 20) = true by simp; omega]
      dsimp only
      refine ⟨⟨(0, sixK (at' [] LL x) 0), ⟨by omega, by omega, rfl⟩, by simp [sixK, List.range, List.range.loop]⟩, ?_⟩
      rintro ⟨k, N⟩ ⟨g3, g4, g5⟩
      dsimp only at g3 g4 g5 ⊢
      subst g5
      rw [at_nat hx] at *
      rw [inb_nat hx]
      have hw := wrap_succ hx20 (by omega)
      have hroom : roomy (out.length + 1) 80 = true := by simp [roomy]; omega
      have hs : ∀ k, ((sixK LL[x] k).length == 6) = true := fun k => by simp [sixK_len]
      have hs6 := hs 6
      have i0 : inb 0 (sixK LL[x] 6).length = true := by simp [inb, sixK_len]
      have i1 : inb 1 (sixK LL[x] 6).length = true := by simp [inb, sixK_len]
      have i2 : inb 2 (sixK LL[x] 6).length = true := by simp [inb, sixK_len]
      have i3 : inb 3 (sixK LL[x] 6).length = true := by simp [inb, sixK_len]
      have i4 : inb 4 (sixK LL[x] 6).length = true := by simp [inb, sixK_len]
      have i5 : inb 5 (sixK LL[x] 6).length = true := by simp [inb, sixK_len]
      have ht : (LL.take 20).drop x = LL[x] :: (LL.take 20).drop (x + 1) := by
        rw [drop_at (L := LL.take 20) (x := x) (by simp; omega)]
        simp
      have hgo : madeGo 0 (LL.take 20) = (out ++ [madeNote (madeAt t LL[x]) LL[x]]) ++ madeGo (madeAt t LL[x]) ((LL.take 20).drop (x + 1)) := by
        rw [h4, ht]
        simp [madeGo]
      by_cases hk : k < 6
      · rw [show decide ((k : Int) < 6) = true by simp; omega]
        by_cases hl : k < LL[x].length
        · rw [dec_lt hl, inb_nat hl, hs k, show inb (k : Int) 6 = true by simp [inb]; omega, show inb (k : Int) (sixK LL[x] k).length = true by simp [inb, sixK_len]; omega, at_nat hl]
          have hwk := wrap_succ hk (by omega)
          exact ⟨(k + 1, sixK LL[x] (k + 1)), ⟨by omega, by omega, rfl⟩, by dsimp only; omega, ⟨trivial, trivial, rfl, rfl, trivial, hwk.symm, trivial⟩, rfl, rfl, by rw [← sixK_set LL[x] k hl hk]; simp, trivial⟩
        · rw [dec_ge (by omega)]
          have ek := sixK_end LL[x] k (.inl (by omega))
          dsimp only
          rw [ek]
          simp only [hs6, i0, i1, i2, i3, i4, i5, hroom]
          exact ⟨(x + 1, madeAt t LL[x], out ++ [madeNote (madeAt t LL[x]) LL[x]]), ⟨by omega, hx, by simp [h3], hgo⟩, by dsimp only; omega, ⟨trivial, trivial, rfl, hw.symm, trivial⟩, by trivial, rfl, trivial⟩
      · rw [show decide ((k : Int) < 6) = false by simp; omega]
        have ek := sixK_end LL[x] k (.inr (by omega))
        dsimp only
        rw [ek]
        simp only [hs6, i0, i1, i2, i3, i4, i5, hroom]
        exact ⟨(x + 1, madeAt t LL[x], out ++ [madeNote (madeAt t LL[x]) LL[x]]), ⟨by omega, hx, by simp [h3], hgo⟩, by dsimp only; omega, ⟨trivial, trivial, rfl, hw.symm, trivial⟩, by trivial, rfl, trivial⟩
    · rw [show decide ((x : Int) < 20) = false by simp; omega]
      have e : (LL.take 20).drop x = [] := List.drop_of_length_le (by simp; omega)
      rw [e] at h4
      simp [h4, madeGo]
  · rw [dec_ge (by omega)]
    have e : (LL.take 20).drop x = [] := List.drop_of_length_le (by simp; omega)
    rw [e] at h4
    simp [h4, madeGo]
noncomputable def law20MadeCon : Con T O := fun args cs => match args, cs with
  | [.own 0], [.nest 0 LL] => .ret ⟨some (.own 1), [(1, some (.ro 2 (madeGo 0 (LL.take 20))))]⟩
  | _, _ => .fail
theorem law20MadeOk : ConOk R Try.prog 9 law20MadeCon := con_of_fn R (X4) (TabOk.con R X4Ok) mixed Try.call9 Try.func9 law20MadeCon (by
  intro args cs K h
  unfold law20MadeCon at h
  split at h
  · rename_i LL
    refine ⟨annOf [(4, { σ := Nat × Int × List Note, st := fun S x => (((S.keep [0]).int 5 x.1).int 4 x.2.1).new 3 (.vec 2 x.2.2 49), inv := fun _ x => x.1 ≤ 20 ∧ x.1 ≤ LL.length ∧ x.2.2.length = x.1 ∧ madeGo 0 (LL.take 20) = x.2.2 ++ madeGo x.2.1 ((LL.take 20).drop x.1), m := fun x => 20 - x.1 }),
  (8, { σ := Nat × List Int, st := fun S x => ((S.keep [0, 3, 4, 5, 6]).int 7 x.1).at' 6 (.arr 0 x.2 59), inv := fun S x => x.1 ≤ 6 ∧ x.1 ≤ (at' [] LL (S.gi 5)).length ∧ x.2 = sixK (at' [] LL (S.gi 5)) x.1, m := fun x => 6 - x.1 })] [], _, fun v S hv => ⟨_, h, hv⟩, ?_⟩
    rw [law20MadeVc LL]
    exact law20MadeHolds LL
  · exact h.elim)
noncomputable def tab5 : Tab T O := (15, law20FewCon) :: (21, auditCheckCon) :: (9, law20MadeCon) :: tab4
theorem tabOk5 : TabOk R Try.prog tab5 := TabOk.cons R law20FewOk <| TabOk.cons R auditCheckOk <| TabOk.cons R law20MadeOk <| tabOk4
noncomputable def X5 : Ctx T O := { X0 with con := conOf tab5 }
theorem X5Ok : TabOk R X5.P tab5 := tabOk5
end Go.Proofs.Ytkcnocigkblbiaa
