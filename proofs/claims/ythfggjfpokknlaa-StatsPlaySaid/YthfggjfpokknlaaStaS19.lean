/-
  Part of a proof over the seat Ythfggjfpokknlaa: printed by a small program or typed by hand.
-/
import Derived.Test.YthfggjfpokknlaaStaS18
import Derived.KernelRfl
namespace Go.Proofs.Ythfggjfpokknlaa
open Go.Sx Go.Proofs Classical
/-! ### (*regatta/regattaref21.Counter).Add -/
def addRCText (R : List Cnt) (k n : Int) : Prop := (match (decide (R.length ≤ (1000 : Nat))) with | true => (match (decide (n > IntKind.i64.wrap ((1099511627776 : Int) - getR k R))) with | true => ((∃ x : Nat × List Cnt × Bool, (((x.fst ≤ R.length) ∧ ((x.snd.fst.length ≤ (2 : Nat) * x.fst) ∧ (addC R k n = x.snd.fst ++ addR k (refN (getR k R) n) x.snd.snd (List.drop x.fst R)))) ∧ ((True ∧ ((k = k) ∧ ((refN (getR k R) n = (1099511627776 : Int)) ∧ (True ∧ ((x.snd.snd = ((1099511627776 : Int) == (0 : Int))) ∧ (((↑x.fst : Int) = (0 : Int)) ∧ True)))))) ∧ ((True ∧ True) ∧ ((R = R) ∧ ((x.snd.fst = []) ∧ True)))))) ∧ (∀ x : Nat × List Cnt × Bool, (((x.fst ≤ R.length) ∧ ((x.snd.fst.length ≤ (2 : Nat) * x.fst) ∧ (addC R k n = x.snd.fst ++ addR k (refN (getR k R) n) x.snd.snd (List.drop x.fst R)))) → (match (decide ((↑x.fst : Int) < (↑R.length : Int))) with | true => (match (inb (↑x.fst : Int) R.length) with | true => (match (inb (↑x.fst : Int) R.length) with | true => (match ((at' cntE.zero R (↑x.fst : Int)).K == k) with | true => (∃ x' : Nat × List Cnt × Bool, (((x'.fst ≤ R.length) ∧ ((x'.snd.fst.length ≤ (2 : Nat) * x'.fst) ∧ (addC R k n = x'.snd.fst ++ addR k (refN (getR k R) n) x'.snd.snd (List.drop x'.fst R)))) ∧ ((R.length - x'.fst < R.length - x.fst) ∧ ((True ∧ ((k = k) ∧ ((refN (getR k R) n = refN (getR k R) n) ∧ (True ∧ ((x'.snd.snd = x.snd.snd) ∧ (((↑x'.fst : Int) = IntKind.i64.wrap ((↑x.fst : Int) + (1 : Int))) ∧ True)))))) ∧ ((True ∧ True) ∧ ((R = R) ∧ ((x'.snd.fst = x.snd.fst) ∧ True))))))) | false => (match (!x.snd.snd) with | true => (match (inb (↑x.fst : Int) R.length) with | true => (match (inb (↑x.fst : Int) R.length) with | true => (match (decide (k < (at' cntE.zero R (↑x.fst : Int)).K)) with | true => (match (roomy (x.snd.fst.length + (1 : Nat)) (nat_lit 16)) with | true => (match (inb (↑x.fst : Int) R.length) with | true => (match (inb (↑x.fst : Int) R.length) with | true => (match (roomy ((x.snd.fst ++ [Cnt.mk k (refN (getR k R) n)]).length + (1 : Nat)) (nat_lit 16)) with | true => (∃ x' : Nat × List Cnt × Bool, (((x'.fst ≤ R.length) ∧ ((x'.snd.fst.length ≤ (2 : Nat) * x'.fst) ∧ (addC R k n = x'.snd.fst ++ addR k (refN (getR k R) n) x'.snd.snd (List.drop x'.fst R)))) ∧ ((R.length - x'.fst < R.length - x.fst) ∧ ((True ∧ ((k = k) ∧ ((refN (getR k R) n = refN (getR k R) n) ∧ (True ∧ ((x'.snd.snd = true) ∧ (((↑x'.fst : Int) = IntKind.i64.wrap ((↑x.fst : Int) + (1 : Int))) ∧ True)))))) ∧ ((True ∧ True) ∧ ((R = R) ∧ ((x'.snd.fst = x.snd.fst ++ [Cnt.mk k (refN (getR k R) n)] ++ [at' cntE.zero R (↑x.fst : Int)]) ∧ True))))))) | false => False) | false => False) | false => False) | false => False) | false => (match (inb (↑x.fst : Int) R.length) with | true => (match (inb (↑x.fst : Int) R.length) with | true => (match (roomy (x.snd.fst.length + (1 : Nat)) (nat_lit 16)) with | true => (∃ x' : Nat × List Cnt × Bool, (((x'.fst ≤ R.length) ∧ ((x'.snd.fst.length ≤ (2 : Nat) * x'.fst) ∧ (addC R k n = x'.snd.fst ++ addR k (refN (getR k R) n) x'.snd.snd (List.drop x'.fst R)))) ∧ ((R.length - x'.fst < R.length - x.fst) ∧ ((True ∧ ((k = k) ∧ ((refN (getR k R) n = refN (getR k R) n) ∧ (True ∧ ((x'.snd.snd = x.snd.snd) ∧ (((↑x'.fst : Int) = IntKind.i64.wrap ((↑x.fst : Int) + (1 : Int))) ∧ True)))))) ∧ ((True ∧ True) ∧ ((R = R) ∧ ((x'.snd.fst = x.snd.fst ++ [at' cntE.zero R (↑x.fst : Int)]) ∧ True))))))) | false => False) | false => False) | false => False)) | false => False) | false => False) | false => (match (inb (↑x.fst : Int) R.length) with | true => (match (inb (↑x.fst : Int) R.length) with | true => (match (roomy (x.snd.fst.length + (1 : Nat)) (nat_lit 16)) with | true => (∃ x' : Nat × List Cnt × Bool, (((x'.fst ≤ R.length) ∧ ((x'.snd.fst.length ≤ (2 : Nat) * x'.fst) ∧ (addC R k n = x'.snd.fst ++ addR k (refN (getR k R) n) x'.snd.snd (List.drop x'.fst R)))) ∧ ((R.length - x'.fst < R.length - x.fst) ∧ ((True ∧ ((k = k) ∧ ((refN (getR k R) n = refN (getR k R) n) ∧ (True ∧ ((x'.snd.snd = x.snd.snd) ∧ (((↑x'.fst : Int) = IntKind.i64.wrap ((↑x.fst : Int) + (1 : Int))) ∧ True)))))) ∧ ((True ∧ True) ∧ ((R = R) ∧ ((x'.snd.fst = x.snd.fst ++ [at' cntE.zero R (↑x.fst : Int)]) ∧ True))))))) | false => False) | false => False) | false => False))) | false => False) | false => False) | false => (match (!x.snd.snd) with | true => (match (roomy (x.snd.fst.length + (1 : Nat)) (nat_lit 16)) with | true => (((refN (getR k R) n = refN (getR k R) n) ∧ True) ∧ ((True ∧ True) ∧ ((addC R k n = x.snd.fst ++ [Cnt.mk k (refN (getR k R) n)]) ∧ True))) | false => False) | false => (((refN (getR k R) n = refN (getR k R) n) ∧ True) ∧ ((True ∧ True) ∧ ((addC R k n = x.snd.fst) ∧ True)))))))) | false => (match (decide (n < IntKind.i64.wrap ((0 : Int) - getR k R))) with | true => ((∃ x : Nat × List Cnt × Bool, (((x.fst ≤ R.length) ∧ ((x.snd.fst.length ≤ (2 : Nat) * x.fst) ∧ (addC R k n = x.snd.fst ++ addR k (refN (getR k R) n) x.snd.snd (List.drop x.fst R)))) ∧ ((True ∧ ((k = k) ∧ ((refN (getR k R) n = (0 : Int)) ∧ (True ∧ ((x.snd.snd = ((0 : Int) == (0 : Int))) ∧ (((↑x.fst : Int) = (0 : Int)) ∧ True)))))) ∧ ((True ∧ True) ∧ ((R = R) ∧ ((x.snd.fst = []) ∧ True)))))) ∧ (∀ x : Nat × List Cnt × Bool, (((x.fst ≤ R.length) ∧ ((x.snd.fst.length ≤ (2 : Nat) * x.fst) ∧ (addC R k n = x.snd.fst ++ addR k (refN (getR k R) n) x.snd.snd (List.drop x.fst R)))) → (match (decide ((↑x.fst : Int) < (↑R.length : Int))) with | true => (match (inb (↑x.fst : Int) R.length) with | true => (match (inb (↑x.fst : Int) R.length) with | true => (match ((at' cntE.zero R (↑x.fst : Int)).K == k) with | true => (∃ x' : Nat × List Cnt × Bool, (((x'.fst ≤ R.length) ∧ ((x'.snd.fst.length ≤ (2 : Nat) * x'.fst) ∧ (addC R k n = x'.snd.fst ++ addR k (refN (getR k R) n) x'.snd.snd (List.drop x'.fst R)))) ∧ ((R.length - x'.fst < R.length - x.fst) ∧ ((True ∧ ((k = k) ∧ ((refN (getR k R) n = refN (getR k R) n) ∧ (True ∧ ((x'.snd.snd = x.snd.snd) ∧ (((↑x'.fst : Int) = IntKind.i64.wrap ((↑x.fst : Int) + (1 : Int))) ∧ True)))))) ∧ ((True ∧ True) ∧ ((R = R) ∧ ((x'.snd.fst = x.snd.fst) ∧ True))))))) | false => (match (!x.snd.snd) with | true => (match (inb (↑x.fst : Int) R.length) with | true => (match (inb (↑x.fst : Int) R.length) with | true => (match (decide (k < (at' cntE.zero R (↑x.fst : Int)).K)) with | true => (match (roomy (x.snd.fst.length + (1 : Nat)) (nat_lit 16)) with | true => (match (inb (↑x.fst : Int) R.length) with | true => (match (inb (↑x.fst : Int) R.length) with | true => (match (roomy ((x.snd.fst ++ [Cnt.mk k (refN (getR k R) n)]).length + (1 : Nat)) (nat_lit 16)) with | true => (∃ x' : Nat × List Cnt × Bool, (((x'.fst ≤ R.length) ∧ ((x'.snd.fst.length ≤ (2 : Nat) * x'.fst) ∧ (addC R k n = x'.snd.fst ++ addR k (refN (getR k R) n) x'.snd.snd (List.drop x'.fst R)))) ∧ ((R.length - x'.fst < R.length - x.fst) ∧ ((True ∧ ((k = k) ∧ ((refN (getR k R) n = refN (getR k R) n) ∧ (True ∧ ((x'.snd.snd = true) ∧ (((↑x'.fst : Int) = IntKind.i64.wrap ((↑x.fst : Int) + (1 : Int))) ∧ True)))))) ∧ ((True ∧ True) ∧ ((R = R) ∧ ((x'.snd.fst = x.snd.fst ++ [Cnt.mk k (refN (getR k R) n)] ++ [at' cntE.zero R (↑x.fst : Int)]) ∧ True))))))) | false => False) | false => False) | false => False) | false => False) | false => (match (inb (↑x.fst : Int) R.length) with | true => (match (inb (↑x.fst : Int) R.length) with | true => (match (roomy (x.snd.fst.length + (1 : Nat)) (nat_lit 16)) with | true => (∃ x' : Nat × List Cnt × Bool, (((x'.fst ≤ R.length) ∧ ((x'.snd.fst.length ≤ (2 : Nat) * x'.fst) ∧ (addC R k n = x'.snd.fst ++ addR k (refN (getR k R) n) x'.snd.snd (List.drop x'.fst R)))) ∧ ((R.length - x'.fst < R.length - x.fst) ∧ ((True ∧ ((k = k) ∧ ((refN (getR k R) n = refN (getR k R) n) ∧ (True ∧ ((x'.snd.snd = x.snd.snd) ∧ (((↑x'.fst : Int) = IntKind.i64.wrap ((↑x.fst : Int) + (1 : Int))) ∧ True)))))) ∧ ((True ∧ True) ∧ ((R = R) ∧ ((x'.snd.fst = x.snd.fst ++ [at' cntE.zero R (↑x.fst : Int)]) ∧ True))))))) | false => False) | false => False) | false => False)) | false => False) | false => False) | false => (match (inb (↑x.fst : Int) R.length) with | true => (match (inb (↑x.fst : Int) R.length) with | true => (match (roomy (x.snd.fst.length + (1 : Nat)) (nat_lit 16)) with | true => (∃ x' : Nat × List Cnt × Bool, (((x'.fst ≤ R.length) ∧ ((x'.snd.fst.length ≤ (2 : Nat) * x'.fst) ∧ (addC R k n = x'.snd.fst ++ addR k (refN (getR k R) n) x'.snd.snd (List.drop x'.fst R)))) ∧ ((R.length - x'.fst < R.length - x.fst) ∧ ((True ∧ ((k = k) ∧ ((refN (getR k R) n = refN (getR k R) n) ∧ (True ∧ ((x'.snd.snd = x.snd.snd) ∧ (((↑x'.fst : Int) = IntKind.i64.wrap ((↑x.fst : Int) + (1 : Int))) ∧ True)))))) ∧ ((True ∧ True) ∧ ((R = R) ∧ ((x'.snd.fst = x.snd.fst ++ [at' cntE.zero R (↑x.fst : Int)]) ∧ True))))))) | false => False) | false => False) | false => False))) | false => False) | false => False) | false => (match (!x.snd.snd) with | true => (match (roomy (x.snd.fst.length + (1 : Nat)) (nat_lit 16)) with | true => (((refN (getR k R) n = refN (getR k R) n) ∧ True) ∧ ((True ∧ True) ∧ ((addC R k n = x.snd.fst ++ [Cnt.mk k (refN (getR k R) n)]) ∧ True))) | false => False) | false => (((refN (getR k R) n = refN (getR k R) n) ∧ True) ∧ ((True ∧ True) ∧ ((addC R k n = x.snd.fst) ∧ True)))))))) | false => ((∃ x : Nat × List Cnt × Bool, (((x.fst ≤ R.length) ∧ ((x.snd.fst.length ≤ (2 : Nat) * x.fst) ∧ (addC R k n = x.snd.fst ++ addR k (refN (getR k R) n) x.snd.snd (List.drop x.fst R)))) ∧ ((True ∧ ((k = k) ∧ ((refN (getR k R) n = IntKind.i64.wrap (getR k R + n)) ∧ (True ∧ ((x.snd.snd = (IntKind.i64.wrap (getR k R + n) == (0 : Int))) ∧ (((↑x.fst : Int) = (0 : Int)) ∧ True)))))) ∧ ((True ∧ True) ∧ ((R = R) ∧ ((x.snd.fst = []) ∧ True)))))) ∧ (∀ x : Nat × List Cnt × Bool, (((x.fst ≤ R.length) ∧ ((x.snd.fst.length ≤ (2 : Nat) * x.fst) ∧ (addC R k n = x.snd.fst ++ addR k (refN (getR k R) n) x.snd.snd (List.drop x.fst R)))) → (match (decide ((↑x.fst : Int) < (↑R.length : Int))) with | true => (match (inb (↑x.fst : Int) R.length) with | true => (match (inb (↑x.fst : Int) R.length) with | true => (match ((at' cntE.zero R (↑x.fst : Int)).K == k) with | true => (∃ x' : Nat × List Cnt × Bool, (((x'.fst ≤ R.length) ∧ ((x'.snd.fst.length ≤ (2 : Nat) * x'.fst) ∧ (addC R k n = x'.snd.fst ++ addR k (refN (getR k R) n) x'.snd.snd (List.drop x'.fst R)))) ∧ ((R.length - x'.fst < R.length - x.fst) ∧ ((True ∧ ((k = k) ∧ ((refN (getR k R) n = refN (getR k R) n) ∧ (True ∧ ((x'.snd.snd = x.snd.snd) ∧ (((↑x'.fst : Int) = IntKind.i64.wrap ((↑x.fst : Int) + (1 : Int))) ∧ True)))))) ∧ ((True ∧ True) ∧ ((R = R) ∧ ((x'.snd.fst = x.snd.fst) ∧ True))))))) | false => (match (!x.snd.snd) with | true => (match (inb (↑x.fst : Int) R.length) with | true => (match (inb (↑x.fst : Int) R.length) with | true => (match (decide (k < (at' cntE.zero R (↑x.fst : Int)).K)) with | true => (match (roomy (x.snd.fst.length + (1 : Nat)) (nat_lit 16)) with | true => (match (inb (↑x.fst : Int) R.length) with | true => (match (inb (↑x.fst : Int) R.length) with | true => (match (roomy ((x.snd.fst ++ [Cnt.mk k (refN (getR k R) n)]).length + (1 : Nat)) (nat_lit 16)) with | true => (∃ x' : Nat × List Cnt × Bool, (((x'.fst ≤ R.length) ∧ ((x'.snd.fst.length ≤ (2 : Nat) * x'.fst) ∧ (addC R k n = x'.snd.fst ++ addR k (refN (getR k R) n) x'.snd.snd (List.drop x'.fst R)))) ∧ ((R.length - x'.fst < R.length - x.fst) ∧ ((True ∧ ((k = k) ∧ ((refN (getR k R) n = refN (getR k R) n) ∧ (True ∧ ((x'.snd.snd = true) ∧ (((↑x'.fst : Int) = IntKind.i64.wrap ((↑x.fst : Int) + (1 : Int))) ∧ True)))))) ∧ ((True ∧ True) ∧ ((R = R) ∧ ((x'.snd.fst = x.snd.fst ++ [Cnt.mk k (refN (getR k R) n)] ++ [at' cntE.zero R (↑x.fst : Int)]) ∧ True))))))) | false => False) | false => False) | false => False) | false => False) | false => (match (inb (↑x.fst : Int) R.length) with | true => (match (inb (↑x.fst : Int) R.length) with | true => (match (roomy (x.snd.fst.length + (1 : Nat)) (nat_lit 16)) with | true => (∃ x' : Nat × List Cnt × Bool, (((x'.fst ≤ R.length) ∧ ((x'.snd.fst.length ≤ (2 : Nat) * x'.fst) ∧ (addC R k n = x'.snd.fst ++ addR k (refN (getR k R) n) x'.snd.snd (List.drop x'.fst R)))) ∧ ((R.length - x'.fst < R.length - x.fst) ∧ ((True ∧ ((k = k) ∧ ((refN (getR k R) n = refN (getR k R) n) ∧ (True ∧ ((x'.snd.snd = x.snd.snd) ∧ (((↑x'.fst : Int) = IntKind.i64.wrap ((↑x.fst : Int) + (1 : Int))) ∧ True)))))) ∧ ((True ∧ True) ∧ ((R = R) ∧ ((x'.snd.fst = x.snd.fst ++ [at' cntE.zero R (↑x.fst : Int)]) ∧ True))))))) | false => False) | false => False) | false => False)) | false => False) | false => False) | false => (match (inb (↑x.fst : Int) R.length) with | true => (match (inb (↑x.fst : Int) R.length) with | true => (match (roomy (x.snd.fst.length + (1 : Nat)) (nat_lit 16)) with | true => (∃ x' : Nat × List Cnt × Bool, (((x'.fst ≤ R.length) ∧ ((x'.snd.fst.length ≤ (2 : Nat) * x'.fst) ∧ (addC R k n = x'.snd.fst ++ addR k (refN (getR k R) n) x'.snd.snd (List.drop x'.fst R)))) ∧ ((R.length - x'.fst < R.length - x.fst) ∧ ((True ∧ ((k = k) ∧ ((refN (getR k R) n = refN (getR k R) n) ∧ (True ∧ ((x'.snd.snd = x.snd.snd) ∧ (((↑x'.fst : Int) = IntKind.i64.wrap ((↑x.fst : Int) + (1 : Int))) ∧ True)))))) ∧ ((True ∧ True) ∧ ((R = R) ∧ ((x'.snd.fst = x.snd.fst ++ [at' cntE.zero R (↑x.fst : Int)]) ∧ True))))))) | false => False) | false => False) | false => False))) | false => False) | false => False) | false => (match (!x.snd.snd) with | true => (match (roomy (x.snd.fst.length + (1 : Nat)) (nat_lit 16)) with | true => (((refN (getR k R) n = refN (getR k R) n) ∧ True) ∧ ((True ∧ True) ∧ ((addC R k n = x.snd.fst ++ [Cnt.mk k (refN (getR k R) n)]) ∧ True))) | false => False) | false => (((refN (getR k R) n = refN (getR k R) n) ∧ True) ∧ ((True ∧ True) ∧ ((addC R k n = x.snd.fst) ∧ True)))))))))) | false => False)
theorem addRCVc (R : List Cnt) (k n : Int) : fnX X18 (oneLoop 10 { σ := Nat × List Cnt × Bool, st := fun S x => (((S.keep [0, 1]).int 10 x.1).int 7 (refN (getR k R) n) |>.bool 9 x.2.2).new 8 (.vec 5 x.2.1 60), inv := fun _ x => x.1 ≤ R.length ∧ x.2.1.length ≤ 2 * x.1 ∧ addC R k n = x.2.1 ++ addR k (refN (getR k R) n) x.2.2 (R.drop x.1), m := fun x => R.length - x.1 }) Try.f12 [.ptr 0 0, .raw (.int .i64 k), .raw (.int .i64 n)] [.cells [.own 1] 29, .vec 5 R 60] (ends [.cells [.own 1] 29, .vec 5 R 60] ⟨some (.raw (.int .i64 (refN (getR k R) n))), [(0, some (.cells [.own 2] 29)), (1, none), (2, some (.vec 5 (addC R k n) 60))]⟩) = addRCText R k n := by kernel_rfl
theorem addRCHolds (R : List Cnt) (k n : Int) (hp : R.length ≤ 900) : addRCText R k n := by
  unfold addRCText
  rw [decide_eq_true (show R.length ≤ 1000 by omega)]
  by_cases c1 : n > IntKind.i64.wrap (1099511627776 - getR k R)
  · rw [decide_eq_true c1]
    have hm : refN (getR k R) n = 1099511627776 := by unfold refN; rw [if_pos c1]
    
    refine ⟨⟨(0, [], refN (getR k R) n == 0), ⟨Nat.zero_le _, Nat.zero_le _, by rw [List.nil_append, List.drop_zero]; rfl⟩, ?_⟩, ?_⟩
    · have hm2 : (refN (getR k R) n == 0) = ((1099511627776 : Int) == 0) := by rw [hm]
      repeat' first | exact hm | exact hm2 | trivial | rfl | apply And.intro
    rintro ⟨x, out, put⟩ ⟨hx, hl, hs⟩
    dsimp only at hx hl hs ⊢
    by_cases h : x < R.length
    · have hwx := wrap_succ h (show R.length ≤ 140737488355328 by omega)
      rw [drop_at h] at hs
      simp only [addR] at hs
      rw [dec_lt h, inb_nat h, at_nat h, room16 out (by omega), room16 (out ++ [Cnt.mk k (refN (getR k R) n)]) (by simp; omega)]
      cases hc : R[x].K == k
      · rw [hc, cond_false] at hs
        cases put
        · cases hq : decide (k < R[x].K)
          · rw [hq, Bool.not_false, Bool.true_and, cond_false] at hs
            refine ⟨(x + 1, out ++ [R[x]], false), ⟨h, by simp <;> omega, by first | exact hs | (rw [hs]; simp)⟩, by dsimp only; omega, ?_⟩
            repeat' first | exact hwx.symm | exact hm | trivial | rfl | apply And.intro
          · rw [hq, Bool.not_false, Bool.true_and, cond_true] at hs
            refine ⟨(x + 1, out ++ [Cnt.mk k (refN (getR k R) n)] ++ [R[x]], true), ⟨h, by simp <;> omega, by first | exact hs | (rw [hs]; simp)⟩, by dsimp only; omega, ?_⟩
            repeat' first | exact hwx.symm | exact hm | trivial | rfl | apply And.intro
        · rw [Bool.not_true, Bool.false_and, cond_false] at hs
          refine ⟨(x + 1, out ++ [R[x]], true), ⟨h, by simp <;> omega, by first | exact hs | (rw [hs]; simp)⟩, by dsimp only; omega, ?_⟩
          repeat' first | exact hwx.symm | exact hm | trivial | rfl | apply And.intro
      · rw [hc, cond_true] at hs
        refine ⟨(x + 1, out, put), ⟨h, by simp <;> omega, by first | exact hs | (rw [hs]; simp)⟩, by dsimp only; omega, ?_⟩
        repeat' first | exact hwx.symm | exact hm | trivial | rfl | apply And.intro
    · rw [dec_ge (by omega)]
      rw [List.drop_of_length_le (by omega)] at hs
      rw [room16 out (by omega)]
      cases put
      · have e : addC R k n = out ++ [Cnt.mk k (refN (getR k R) n)] := hs
        repeat' first | exact e | exact hm | trivial | rfl | apply And.intro
      · have e : addC R k n = out := by rw [hs]; simp [addR]
        repeat' first | exact e | exact hm | trivial | rfl | apply And.intro
  · rw [decide_eq_false c1]
    by_cases c2 : n < IntKind.i64.wrap (0 - getR k R)
    · rw [decide_eq_true c2]
      have hm : refN (getR k R) n = 0 := by unfold refN; rw [if_neg c1, if_pos c2]
      
      refine ⟨⟨(0, [], refN (getR k R) n == 0), ⟨Nat.zero_le _, Nat.zero_le _, by rw [List.nil_append, List.drop_zero]; rfl⟩, ?_⟩, ?_⟩
      · have hm2 : (refN (getR k R) n == 0) = ((0 : Int) == 0) := by rw [hm]
        repeat' first | exact hm | exact hm2 | trivial | rfl | apply And.intro
      rintro ⟨x, out, put⟩ ⟨hx, hl, hs⟩
      dsimp only at hx hl hs ⊢
      by_cases h : x < R.length
      · have hwx := wrap_succ h (show R.length ≤ 140737488355328 by omega)
        rw [drop_at h] at hs
        simp only [addR] at hs
        rw [dec_lt h, inb_nat h, at_nat h, room16 out (by omega), room16 (out ++ [Cnt.mk k (refN (getR k R) n)]) (by simp; omega)]
        cases hc : R[x].K == k
        · rw [hc, cond_false] at hs
          cases put
          · cases hq : decide (k < R[x].K)
            · rw [hq, Bool.not_false, Bool.true_and, cond_false] at hs
              refine ⟨(x + 1, out ++ [R[x]], false), ⟨h, by simp <;> omega, by first | exact hs | (rw [hs]; simp)⟩, by dsimp only; omega, ?_⟩
              repeat' first | exact hwx.symm | exact hm | trivial | rfl | apply And.intro
            · rw [hq, Bool.not_false, Bool.true_and, cond_true] at hs
              refine ⟨(x + 1, out ++ [Cnt.mk k (refN (getR k R) n)] ++ [R[x]], true), ⟨h, by simp <;> omega, by first | exact hs | (rw [hs]; simp)⟩, by dsimp only; omega, ?_⟩
              repeat' first | exact hwx.symm | exact hm | trivial | rfl | apply And.intro
          · rw [Bool.not_true, Bool.false_and, cond_false] at hs
            refine ⟨(x + 1, out ++ [R[x]], true), ⟨h, by simp <;> omega, by first | exact hs | (rw [hs]; simp)⟩, by dsimp only; omega, ?_⟩
            repeat' first | exact hwx.symm | exact hm | trivial | rfl | apply And.intro
        · rw [hc, cond_true] at hs
          refine ⟨(x + 1, out, put), ⟨h, by simp <;> omega, by first | exact hs | (rw [hs]; simp)⟩, by dsimp only; omega, ?_⟩
          repeat' first | exact hwx.symm | exact hm | trivial | rfl | apply And.intro
      · rw [dec_ge (by omega)]
        rw [List.drop_of_length_le (by omega)] at hs
        rw [room16 out (by omega)]
        cases put
        · have e : addC R k n = out ++ [Cnt.mk k (refN (getR k R) n)] := hs
          repeat' first | exact e | exact hm | trivial | rfl | apply And.intro
        · have e : addC R k n = out := by rw [hs]; simp [addR]
          repeat' first | exact e | exact hm | trivial | rfl | apply And.intro
    · rw [decide_eq_false c2]
      have hm : refN (getR k R) n = IntKind.i64.wrap (getR k R + n) := by unfold refN; rw [if_neg c1, if_neg c2]
      
      refine ⟨⟨(0, [], refN (getR k R) n == 0), ⟨Nat.zero_le _, Nat.zero_le _, by rw [List.nil_append, List.drop_zero]; rfl⟩, ?_⟩, ?_⟩
      · have hm2 : (refN (getR k R) n == 0) = (IntKind.i64.wrap (getR k R + n) == 0) := by rw [hm]
        repeat' first | exact hm | exact hm2 | trivial | rfl | apply And.intro
      rintro ⟨x, out, put⟩ ⟨hx, hl, hs⟩
      dsimp only at hx hl hs ⊢
      by_cases h : x < R.length
      · have hwx := wrap_succ h (show R.length ≤ 140737488355328 by omega)
        rw [drop_at h] at hs
        simp only [addR] at hs
        rw [dec_lt h, inb_nat h, at_nat h, room16 out (by omega), room16 (out ++ [Cnt.mk k (refN (getR k R) n)]) (by simp; omega)]
        cases hc : R[x].K == k
        · rw [hc, cond_false] at hs
          cases put
          · cases hq : decide (k < R[x].K)
            · rw [hq, Bool.not_false, Bool.true_and, cond_false] at hs
              refine ⟨(x + 1, out ++ [R[x]], false), ⟨h, by simp <;> omega, by first | exact hs | (rw [hs]; simp)⟩, by dsimp only; omega, ?_⟩
              repeat' first | exact hwx.symm | exact hm | trivial | rfl | apply And.intro
            · rw [hq, Bool.not_false, Bool.true_and, cond_true] at hs
              refine ⟨(x + 1, out ++ [Cnt.mk k (refN (getR k R) n)] ++ [R[x]], true), ⟨h, by simp <;> omega, by first | exact hs | (rw [hs]; simp)⟩, by dsimp only; omega, ?_⟩
              repeat' first | exact hwx.symm | exact hm | trivial | rfl | apply And.intro
          · rw [Bool.not_true, Bool.false_and, cond_false] at hs
            refine ⟨(x + 1, out ++ [R[x]], true), ⟨h, by simp <;> omega, by first | exact hs | (rw [hs]; simp)⟩, by dsimp only; omega, ?_⟩
            repeat' first | exact hwx.symm | exact hm | trivial | rfl | apply And.intro
        · rw [hc, cond_true] at hs
          refine ⟨(x + 1, out, put), ⟨h, by simp <;> omega, by first | exact hs | (rw [hs]; simp)⟩, by dsimp only; omega, ?_⟩
          repeat' first | exact hwx.symm | exact hm | trivial | rfl | apply And.intro
      · rw [dec_ge (by omega)]
        rw [List.drop_of_length_le (by omega)] at hs
        rw [room16 out (by omega)]
        cases put
        · have e : addC R k n = out ++ [Cnt.mk k (refN (getR k R) n)] := hs
          repeat' first | exact e | exact hm | trivial | rfl | apply And.intro
        · have e : addC R k n = out := by rw [hs]; simp [addR]
          repeat' first | exact e | exact hm | trivial | rfl | apply And.intro
noncomputable def addRCCon : Con T O := fun args cs => match args, cs with
  | [.ptr 0 0, .raw (.int .i64 k), .raw (.int .i64 n)], [.cells [.own 1] 29, .vec 5 R 60] => chk (decide (R.length ≤ 900)) (.ret ⟨some (.raw (.int .i64 (refN (getR k R) n))), [(0, some (.cells [.own 2] 29)), (1, none), (2, some (.vec 5 (addC R k n) 60))]⟩)
  | _, _ => .fail
theorem addRCOk : ConOk R Try.prog 12 addRCCon := con_of_fn R (X18) (TabOk.con R X18Ok) mixed Try.call12 Try.func12 addRCCon (by
  intro args cs K h
  unfold addRCCon at h
  split at h
  · rename_i k n R
    rw [Tree.holds_chk] at h
    obtain ⟨hp, h⟩ := h
    refine ⟨oneLoop 10 { σ := Nat × List Cnt × Bool, st := fun S x => (((S.keep [0, 1]).int 10 x.1).int 7 (refN (getR k R) n) |>.bool 9 x.2.2).new 8 (.vec 5 x.2.1 60), inv := fun _ x => x.1 ≤ R.length ∧ x.2.1.length ≤ 2 * x.1 ∧ addC R k n = x.2.1 ++ addR k (refN (getR k R) n) x.2.2 (R.drop x.1), m := fun x => R.length - x.1 }, _, fun v S hv => ⟨_, h, hv⟩, ?_⟩
    rw [addRCVc R k n]
    exact addRCHolds R k n (of_decide_eq_true hp)
  · exact h.elim)
noncomputable def tab19 : Tab T O := (12, addRCCon) :: tab18
theorem tabOk19 : TabOk R Try.prog tab19 := TabOk.cons R addRCOk <| tabOk18
noncomputable def X19 : Ctx T O := { X0 with con := conOf tab19 }
theorem X19Ok : TabOk R X19.P tab19 := tabOk19
end Go.Proofs.Ythfggjfpokknlaa
