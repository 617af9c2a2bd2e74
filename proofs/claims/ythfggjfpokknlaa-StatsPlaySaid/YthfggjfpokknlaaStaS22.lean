/-
  Part of a proof over the seat Ythfggjfpokknlaa: printed by a small program or typed by hand.
-/
import Derived.Test.YthfggjfpokknlaaStaS21
import Derived.KernelRfl
namespace Go.Proofs.Ythfggjfpokknlaa
open Go.Sx Go.Proofs Classical

theorem topLt {M : CM} (h : keysNd M) {x : Nat} (h0 : 0 < x) (hx : x < (topI M).length) : getM M (topI M)[x] < getM M (topI M)[x - 1] ∨ (getM M (topI M)[x] = getM M (topI M)[x - 1] ∧ (topI M)[x - 1] < (topI M)[x]) := by
  have := List.pairwise_iff_getElem.1 (topI_asc h) (x - 1) x (by omega) hx (by omega)
  have := (tlI_iff M _ _).1 this
  omega

/-! ### regatta/regattalaw21.StatsTop -/
def statsTopText (L : List Int) (n : Int) : Prop := ((∃ x : Nat × CM, (((x.fst ≤ (40 : Nat)) ∧ (COk (0 : Int) (15 : Int) x.snd)) ∧ ((True ∧ ((n = n) ∧ ((true = true) ∧ (True ∧ (((↑x.fst : Int) = (0 : Int)) ∧ True))))) ∧ ((L = L) ∧ ((True ∧ True) ∧ ((x.snd = noCount) ∧ True)))))) ∧ (∀ x : Nat × CM, (((x.fst ≤ (40 : Nat)) ∧ (COk (0 : Int) (15 : Int) x.snd)) → (match (decide ((↑x.fst : Int) < (↑L.length : Int))) with | true => (match (decide ((↑x.fst : Int) < (40 : Int))) with | true => (match (inb (↑x.fst : Int) L.length) with | true => (match (inb (↑x.fst : Int) L.length) with | true => (match (inb (↑x.fst : Int) L.length) with | true => (match (inb (↑x.fst : Int) L.length) with | true => (∃ x' : Nat × CM, (((x'.fst ≤ (40 : Nat)) ∧ (COk (0 : Int) (15 : Int) x'.snd)) ∧ (((40 : Nat) - x'.fst < (40 : Nat) - x.fst) ∧ ((True ∧ ((n = n) ∧ ((true = true) ∧ (True ∧ (((↑x'.fst : Int) = IntKind.i64.wrap ((↑x.fst : Int) + (1 : Int))) ∧ True))))) ∧ ((L = L) ∧ ((True ∧ True) ∧ ((x'.snd = addM x.snd (bits BinOp.and IntKind.i64 (at' (0 : Int) L (↑x.fst : Int)) (15 : Int)) (IntKind.i64.wrap ((1 : Int) + bits BinOp.and IntKind.i64 (Int.fdiv (at' (0 : Int) L (↑x.fst : Int)) ((2 : Int) ^ min (Int.toNat (4 : Int)) IntKind.i64.bits)) (7 : Int)))) ∧ True))))))) | false => False) | false => False) | false => False) | false => False) | false => (match (decide (keysOk x.snd = true ∧ keysNd x.snd)) with | true => (match (decide (keysOk x.snd = true ∧ keysNd x.snd)) with | true => (match (decide (keysOk x.snd = true)) with | true => (match ((↑(List.take (Int.toNat (100 : Int)) (topI x.snd)).length : Int) != (↑(keysS x.snd).length : Int)) with | true => (((true = false) ∧ True) ∧ ((L = L) ∧ True)) | false => (match ((↑(List.take ((IntKind.i64.wrap (n.tmod (19 : Int) + (19 : Int))).tmod (19 : Int)).toNat (topI x.snd)).length : Int) != if (↑(keysS x.snd).length : Int) < (IntKind.i64.wrap (n.tmod (19 : Int) + (19 : Int))).tmod (19 : Int) then (↑(keysS x.snd).length : Int) else (IntKind.i64.wrap (n.tmod (19 : Int) + (19 : Int))).tmod (19 : Int)) with | true => (((true = false) ∧ True) ∧ ((L = L) ∧ True)) | false => ((∃ x1 : Nat, ((x1.le (List.take (Int.toNat (100 : Int)) (topI x.snd)).length) ∧ (((true = true) ∧ (True ∧ (True ∧ (True ∧ (True ∧ (((↑x1 : Int) = (0 : Int)) ∧ True)))))) ∧ ((L = L) ∧ ((True ∧ True) ∧ ((x.snd = x.snd) ∧ ((List.take ((IntKind.i64.wrap (n.tmod (19 : Int) + (19 : Int))).tmod (19 : Int)).toNat (topI x.snd) = List.take ((IntKind.i64.wrap (n.tmod (19 : Int) + (19 : Int))).tmod (19 : Int)).toNat (topI x.snd)) ∧ ((List.take (Int.toNat (100 : Int)) (topI x.snd) = List.take (Int.toNat (100 : Int)) (topI x.snd)) ∧ ((keysS x.snd = keysS x.snd) ∧ True))))))))) ∧ (∀ x1 : Nat, ((x1.le (List.take (Int.toNat (100 : Int)) (topI x.snd)).length) → (match (decide ((↑x1 : Int) < (↑(List.take (Int.toNat (100 : Int)) (topI x.snd)).length : Int))) with | true => (match (decide ((↑x1 : Int) < (↑(List.take ((IntKind.i64.wrap (n.tmod (19 : Int) + (19 : Int))).tmod (19 : Int)).toNat (topI x.snd)).length : Int))) with | true => (match (inb (↑x1 : Int) (List.take ((IntKind.i64.wrap (n.tmod (19 : Int) + (19 : Int))).tmod (19 : Int)).toNat (topI x.snd)).length) with | true => (match (inb (↑x1 : Int) (List.take ((IntKind.i64.wrap (n.tmod (19 : Int) + (19 : Int))).tmod (19 : Int)).toNat (topI x.snd)).length) with | true => (match (inb (↑x1 : Int) (List.take (Int.toNat (100 : Int)) (topI x.snd)).length) with | true => (match (inb (↑x1 : Int) (List.take (Int.toNat (100 : Int)) (topI x.snd)).length) with | true => (match (at' (0 : Int) (List.take ((IntKind.i64.wrap (n.tmod (19 : Int) + (19 : Int))).tmod (19 : Int)).toNat (topI x.snd)) (↑x1 : Int) != at' (0 : Int) (List.take (Int.toNat (100 : Int)) (topI x.snd)) (↑x1 : Int)) with | true => (((true = false) ∧ True) ∧ ((L = L) ∧ True)) | false => (match (decide ((↑x1 : Int) > (0 : Int))) with | true => (match (inb (↑x1 : Int) (List.take (Int.toNat (100 : Int)) (topI x.snd)).length) with | true => (match (inb (↑x1 : Int) (List.take (Int.toNat (100 : Int)) (topI x.snd)).length) with | true => (match (inb (IntKind.i64.wrap ((↑x1 : Int) - (1 : Int))) (List.take (Int.toNat (100 : Int)) (topI x.snd)).length) with | true => (match (inb (IntKind.i64.wrap ((↑x1 : Int) - (1 : Int))) (List.take (Int.toNat (100 : Int)) (topI x.snd)).length) with | true => (match (decide (getM x.snd (at' (0 : Int) (List.take (Int.toNat (100 : Int)) (topI x.snd)) (↑x1 : Int)) > getM x.snd (at' (0 : Int) (List.take (Int.toNat (100 : Int)) (topI x.snd)) (IntKind.i64.wrap ((↑x1 : Int) - (1 : Int)))))) with | true => (((true = false) ∧ True) ∧ ((L = L) ∧ True)) | false => (match (inb (↑x1 : Int) (List.take (Int.toNat (100 : Int)) (topI x.snd)).length) with | true => (match (inb (↑x1 : Int) (List.take (Int.toNat (100 : Int)) (topI x.snd)).length) with | true => (match (inb (IntKind.i64.wrap ((↑x1 : Int) - (1 : Int))) (List.take (Int.toNat (100 : Int)) (topI x.snd)).length) with | true => (match (inb (IntKind.i64.wrap ((↑x1 : Int) - (1 : Int))) (List.take (Int.toNat (100 : Int)) (topI x.snd)).length) with | true => (match (getM x.snd (at' (0 : Int) (List.take (Int.toNat (100 : Int)) (topI x.snd)) (↑x1 : Int)) == getM x.snd (at' (0 : Int) (List.take (Int.toNat (100 : Int)) (topI x.snd)) (IntKind.i64.wrap ((↑x1 : Int) - (1 : Int))))) with | true => (match (inb (↑x1 : Int) (List.take (Int.toNat (100 : Int)) (topI x.snd)).length) with | true => (match (inb (↑x1 : Int) (List.take (Int.toNat (100 : Int)) (topI x.snd)).length) with | true => (match (inb (IntKind.i64.wrap ((↑x1 : Int) - (1 : Int))) (List.take (Int.toNat (100 : Int)) (topI x.snd)).length) with | true => (match (inb (IntKind.i64.wrap ((↑x1 : Int) - (1 : Int))) (List.take (Int.toNat (100 : Int)) (topI x.snd)).length) with | true => (match (decide (at' (0 : Int) (List.take (Int.toNat (100 : Int)) (topI x.snd)) (↑x1 : Int) ≤ at' (0 : Int) (List.take (Int.toNat (100 : Int)) (topI x.snd)) (IntKind.i64.wrap ((↑x1 : Int) - (1 : Int))))) with | true => (((true = false) ∧ True) ∧ ((L = L) ∧ True)) | false => (∃ x' : Nat, ((x'.le (List.take (Int.toNat (100 : Int)) (topI x.snd)).length) ∧ (((1000 : Nat) - x' < (1000 : Nat) - x1) ∧ (((true = true) ∧ (True ∧ (True ∧ (True ∧ (True ∧ (((↑x' : Int) = IntKind.i64.wrap ((↑x1 : Int) + (1 : Int))) ∧ True)))))) ∧ ((L = L) ∧ ((True ∧ True) ∧ ((x.snd = x.snd) ∧ ((List.take ((IntKind.i64.wrap (n.tmod (19 : Int) + (19 : Int))).tmod (19 : Int)).toNat (topI x.snd) = List.take ((IntKind.i64.wrap (n.tmod (19 : Int) + (19 : Int))).tmod (19 : Int)).toNat (topI x.snd)) ∧ ((List.take (Int.toNat (100 : Int)) (topI x.snd) = List.take (Int.toNat (100 : Int)) (topI x.snd)) ∧ ((keysS x.snd = keysS x.snd) ∧ True))))))))))) | false => False) | false => False) | false => False) | false => False) | false => (∃ x' : Nat, ((x'.le (List.take (Int.toNat (100 : Int)) (topI x.snd)).length) ∧ (((1000 : Nat) - x' < (1000 : Nat) - x1) ∧ (((true = true) ∧ (True ∧ (True ∧ (True ∧ (True ∧ (((↑x' : Int) = IntKind.i64.wrap ((↑x1 : Int) + (1 : Int))) ∧ True)))))) ∧ ((L = L) ∧ ((True ∧ True) ∧ ((x.snd = x.snd) ∧ ((List.take ((IntKind.i64.wrap (n.tmod (19 : Int) + (19 : Int))).tmod (19 : Int)).toNat (topI x.snd) = List.take ((IntKind.i64.wrap (n.tmod (19 : Int) + (19 : Int))).tmod (19 : Int)).toNat (topI x.snd)) ∧ ((List.take (Int.toNat (100 : Int)) (topI x.snd) = List.take (Int.toNat (100 : Int)) (topI x.snd)) ∧ ((keysS x.snd = keysS x.snd) ∧ True))))))))))) | false => False) | false => False) | false => False) | false => False)) | false => False) | false => False) | false => False) | false => False) | false => (∃ x' : Nat, ((x'.le (List.take (Int.toNat (100 : Int)) (topI x.snd)).length) ∧ (((1000 : Nat) - x' < (1000 : Nat) - x1) ∧ (((true = true) ∧ (True ∧ (True ∧ (True ∧ (True ∧ (((↑x' : Int) = IntKind.i64.wrap ((↑x1 : Int) + (1 : Int))) ∧ True)))))) ∧ ((L = L) ∧ ((True ∧ True) ∧ ((x.snd = x.snd) ∧ ((List.take ((IntKind.i64.wrap (n.tmod (19 : Int) + (19 : Int))).tmod (19 : Int)).toNat (topI x.snd) = List.take ((IntKind.i64.wrap (n.tmod (19 : Int) + (19 : Int))).tmod (19 : Int)).toNat (topI x.snd)) ∧ ((List.take (Int.toNat (100 : Int)) (topI x.snd) = List.take (Int.toNat (100 : Int)) (topI x.snd)) ∧ ((keysS x.snd = keysS x.snd) ∧ True)))))))))))) | false => False) | false => False) | false => False) | false => False) | false => (match (decide ((↑x1 : Int) > (0 : Int))) with | true => (match (inb (↑x1 : Int) (List.take (Int.toNat (100 : Int)) (topI x.snd)).length) with | true => (match (inb (↑x1 : Int) (List.take (Int.toNat (100 : Int)) (topI x.snd)).length) with | true => (match (inb (IntKind.i64.wrap ((↑x1 : Int) - (1 : Int))) (List.take (Int.toNat (100 : Int)) (topI x.snd)).length) with | true => (match (inb (IntKind.i64.wrap ((↑x1 : Int) - (1 : Int))) (List.take (Int.toNat (100 : Int)) (topI x.snd)).length) with | true => (match (decide (getM x.snd (at' (0 : Int) (List.take (Int.toNat (100 : Int)) (topI x.snd)) (↑x1 : Int)) > getM x.snd (at' (0 : Int) (List.take (Int.toNat (100 : Int)) (topI x.snd)) (IntKind.i64.wrap ((↑x1 : Int) - (1 : Int)))))) with | true => (((true = false) ∧ True) ∧ ((L = L) ∧ True)) | false => (match (inb (↑x1 : Int) (List.take (Int.toNat (100 : Int)) (topI x.snd)).length) with | true => (match (inb (↑x1 : Int) (List.take (Int.toNat (100 : Int)) (topI x.snd)).length) with | true => (match (inb (IntKind.i64.wrap ((↑x1 : Int) - (1 : Int))) (List.take (Int.toNat (100 : Int)) (topI x.snd)).length) with | true => (match (inb (IntKind.i64.wrap ((↑x1 : Int) - (1 : Int))) (List.take (Int.toNat (100 : Int)) (topI x.snd)).length) with | true => (match (getM x.snd (at' (0 : Int) (List.take (Int.toNat (100 : Int)) (topI x.snd)) (↑x1 : Int)) == getM x.snd (at' (0 : Int) (List.take (Int.toNat (100 : Int)) (topI x.snd)) (IntKind.i64.wrap ((↑x1 : Int) - (1 : Int))))) with | true => (match (inb (↑x1 : Int) (List.take (Int.toNat (100 : Int)) (topI x.snd)).length) with | true => (match (inb (↑x1 : Int) (List.take (Int.toNat (100 : Int)) (topI x.snd)).length) with | true => (match (inb (IntKind.i64.wrap ((↑x1 : Int) - (1 : Int))) (List.take (Int.toNat (100 : Int)) (topI x.snd)).length) with | true => (match (inb (IntKind.i64.wrap ((↑x1 : Int) - (1 : Int))) (List.take (Int.toNat (100 : Int)) (topI x.snd)).length) with | true => (match (decide (at' (0 : Int) (List.take (Int.toNat (100 : Int)) (topI x.snd)) (↑x1 : Int) ≤ at' (0 : Int) (List.take (Int.toNat (100 : Int)) (topI x.snd)) (IntKind.i64.wrap ((↑x1 : Int) - (1 : Int))))) with | true => (((true = false) ∧ True) ∧ ((L = L) ∧ True)) | false => (∃ x' : Nat, ((x'.le (List.take (Int.toNat (100 : Int)) (topI x.snd)).length) ∧ (((1000 : Nat) - x' < (1000 : Nat) - x1) ∧ (((true = true) ∧ (True ∧ (True ∧ (True ∧ (True ∧ (((↑x' : Int) = IntKind.i64.wrap ((↑x1 : Int) + (1 : Int))) ∧ True)))))) ∧ ((L = L) ∧ ((True ∧ True) ∧ ((x.snd = x.snd) ∧ ((List.take ((IntKind.i64.wrap (n.tmod (19 : Int) + (19 : Int))).tmod (19 : Int)).toNat (topI x.snd) = List.take ((IntKind.i64.wrap (n.tmod (19 : Int) + (19 : Int))).tmod (19 : Int)).toNat (topI x.snd)) ∧ ((List.take (Int.toNat (100 : Int)) (topI x.snd) = List.take (Int.toNat (100 : Int)) (topI x.snd)) ∧ ((keysS x.snd = keysS x.snd) ∧ True))))))))))) | false => False) | false => False) | false => False) | false => False) | false => (∃ x' : Nat, ((x'.le (List.take (Int.toNat (100 : Int)) (topI x.snd)).length) ∧ (((1000 : Nat) - x' < (1000 : Nat) - x1) ∧ (((true = true) ∧ (True ∧ (True ∧ (True ∧ (True ∧ (((↑x' : Int) = IntKind.i64.wrap ((↑x1 : Int) + (1 : Int))) ∧ True)))))) ∧ ((L = L) ∧ ((True ∧ True) ∧ ((x.snd = x.snd) ∧ ((List.take ((IntKind.i64.wrap (n.tmod (19 : Int) + (19 : Int))).tmod (19 : Int)).toNat (topI x.snd) = List.take ((IntKind.i64.wrap (n.tmod (19 : Int) + (19 : Int))).tmod (19 : Int)).toNat (topI x.snd)) ∧ ((List.take (Int.toNat (100 : Int)) (topI x.snd) = List.take (Int.toNat (100 : Int)) (topI x.snd)) ∧ ((keysS x.snd = keysS x.snd) ∧ True))))))))))) | false => False) | false => False) | false => False) | false => False)) | false => False) | false => False) | false => False) | false => False) | false => (∃ x' : Nat, ((x'.le (List.take (Int.toNat (100 : Int)) (topI x.snd)).length) ∧ (((1000 : Nat) - x' < (1000 : Nat) - x1) ∧ (((true = true) ∧ (True ∧ (True ∧ (True ∧ (True ∧ (((↑x' : Int) = IntKind.i64.wrap ((↑x1 : Int) + (1 : Int))) ∧ True)))))) ∧ ((L = L) ∧ ((True ∧ True) ∧ ((x.snd = x.snd) ∧ ((List.take ((IntKind.i64.wrap (n.tmod (19 : Int) + (19 : Int))).tmod (19 : Int)).toNat (topI x.snd) = List.take ((IntKind.i64.wrap (n.tmod (19 : Int) + (19 : Int))).tmod (19 : Int)).toNat (topI x.snd)) ∧ ((List.take (Int.toNat (100 : Int)) (topI x.snd) = List.take (Int.toNat (100 : Int)) (topI x.snd)) ∧ ((keysS x.snd = keysS x.snd) ∧ True)))))))))))) | false => (((true = true) ∧ True) ∧ ((L = L) ∧ True)))))))) | false => False) | false => False) | false => False)) | false => (match (decide (keysOk x.snd = true ∧ keysNd x.snd)) with | true => (match (decide (keysOk x.snd = true ∧ keysNd x.snd)) with | true => (match (decide (keysOk x.snd = true)) with | true => (match ((↑(List.take (Int.toNat (100 : Int)) (topI x.snd)).length : Int) != (↑(keysS x.snd).length : Int)) with | true => (((true = false) ∧ True) ∧ ((L = L) ∧ True)) | false => (match ((↑(List.take ((IntKind.i64.wrap (n.tmod (19 : Int) + (19 : Int))).tmod (19 : Int)).toNat (topI x.snd)).length : Int) != if (↑(keysS x.snd).length : Int) < (IntKind.i64.wrap (n.tmod (19 : Int) + (19 : Int))).tmod (19 : Int) then (↑(keysS x.snd).length : Int) else (IntKind.i64.wrap (n.tmod (19 : Int) + (19 : Int))).tmod (19 : Int)) with | true => (((true = false) ∧ True) ∧ ((L = L) ∧ True)) | false => ((∃ x1 : Nat, ((x1.le (List.take (Int.toNat (100 : Int)) (topI x.snd)).length) ∧ (((true = true) ∧ (True ∧ (True ∧ (True ∧ (True ∧ (((↑x1 : Int) = (0 : Int)) ∧ True)))))) ∧ ((L = L) ∧ ((True ∧ True) ∧ ((x.snd = x.snd) ∧ ((List.take ((IntKind.i64.wrap (n.tmod (19 : Int) + (19 : Int))).tmod (19 : Int)).toNat (topI x.snd) = List.take ((IntKind.i64.wrap (n.tmod (19 : Int) + (19 : Int))).tmod (19 : Int)).toNat (topI x.snd)) ∧ ((List.take (Int.toNat (100 : Int)) (topI x.snd) = List.take (Int.toNat (100 : Int)) (topI x.snd)) ∧ ((keysS x.snd = keysS x.snd) ∧ True))))))))) ∧ (∀ x1 : Nat, ((x1.le (List.take (Int.toNat (100 : Int)) (topI x.snd)).length) → (match (decide ((↑x1 : Int) < (↑(List.take (Int.toNat (100 : Int)) (topI x.snd)).length : Int))) with | true => (match (decide ((↑x1 : Int) < (↑(List.take ((IntKind.i64.wrap (n.tmod (19 : Int) + (19 : Int))).tmod (19 : Int)).toNat (topI x.snd)).length : Int))) with | true => (match (inb (↑x1 : Int) (List.take ((IntKind.i64.wrap (n.tmod (19 : Int) + (19 : Int))).tmod (19 : Int)).toNat (topI x.snd)).length) with | true => (match (inb (↑x1 : Int) (List.take ((IntKind.i64.wrap (n.tmod (19 : Int) + (19 : Int))).tmod (19 : Int)).toNat (topI x.snd)).length) with | true => (match (inb (↑x1 : Int) (List.take (Int.toNat (100 : Int)) (topI x.snd)).length) with | true => (match (inb (↑x1 : Int) (List.take (Int.toNat (100 : Int)) (topI x.snd)).length) with | true => (match (at' (0 : Int) (List.take ((IntKind.i64.wrap (n.tmod (19 : Int) + (19 : Int))).tmod (19 : Int)).toNat (topI x.snd)) (↑x1 : Int) != at' (0 : Int) (List.take (Int.toNat (100 : Int)) (topI x.snd)) (↑x1 : Int)) with | true => (((true = false) ∧ True) ∧ ((L = L) ∧ True)) | false => (match (decide ((↑x1 : Int) > (0 : Int))) with | true => (match (inb (↑x1 : Int) (List.take (Int.toNat (100 : Int)) (topI x.snd)).length) with | true => (match (inb (↑x1 : Int) (List.take (Int.toNat (100 : Int)) (topI x.snd)).length) with | true => (match (inb (IntKind.i64.wrap ((↑x1 : Int) - (1 : Int))) (List.take (Int.toNat (100 : Int)) (topI x.snd)).length) with | true => (match (inb (IntKind.i64.wrap ((↑x1 : Int) - (1 : Int))) (List.take (Int.toNat (100 : Int)) (topI x.snd)).length) with | true => (match (decide (getM x.snd (at' (0 : Int) (List.take (Int.toNat (100 : Int)) (topI x.snd)) (↑x1 : Int)) > getM x.snd (at' (0 : Int) (List.take (Int.toNat (100 : Int)) (topI x.snd)) (IntKind.i64.wrap ((↑x1 : Int) - (1 : Int)))))) with | true => (((true = false) ∧ True) ∧ ((L = L) ∧ True)) | false => (match (inb (↑x1 : Int) (List.take (Int.toNat (100 : Int)) (topI x.snd)).length) with | true => (match (inb (↑x1 : Int) (List.take (Int.toNat (100 : Int)) (topI x.snd)).length) with | true => (match (inb (IntKind.i64.wrap ((↑x1 : Int) - (1 : Int))) (List.take (Int.toNat (100 : Int)) (topI x.snd)).length) with | true => (match (inb (IntKind.i64.wrap ((↑x1 : Int) - (1 : Int))) (List.take (Int.toNat (100 : Int)) (topI x.snd)).length) with | true => (match (getM x.snd (at' (0 : Int) (List.take (Int.toNat (100 : Int)) (topI x.snd)) (↑x1 : Int)) == getM x.snd (at' (0 : Int) (List.take (Int.toNat (100 : Int)) (topI x.snd)) (IntKind.i64.wrap ((↑x1 : Int) - (1 : Int))))) with | true => (match (inb (↑x1 : Int) (List.take (Int.toNat (100 : Int)) (topI x.snd)).length) with | true => (match (inb (↑x1 : Int) (List.take (Int.toNat (100 : Int)) (topI x.snd)).length) with | true => (match (inb (IntKind.i64.wrap ((↑x1 : Int) - (1 : Int))) (List.take (Int.toNat (100 : Int)) (topI x.snd)).length) with | true => (match (inb (IntKind.i64.wrap ((↑x1 : Int) - (1 : Int))) (List.take (Int.toNat (100 : Int)) (topI x.snd)).length) with | true => (match (decide (at' (0 : Int) (List.take (Int.toNat (100 : Int)) (topI x.snd)) (↑x1 : Int) ≤ at' (0 : Int) (List.take (Int.toNat (100 : Int)) (topI x.snd)) (IntKind.i64.wrap ((↑x1 : Int) - (1 : Int))))) with | true => (((true = false) ∧ True) ∧ ((L = L) ∧ True)) | false => (∃ x' : Nat, ((x'.le (List.take (Int.toNat (100 : Int)) (topI x.snd)).length) ∧ (((1000 : Nat) - x' < (1000 : Nat) - x1) ∧ (((true = true) ∧ (True ∧ (True ∧ (True ∧ (True ∧ (((↑x' : Int) = IntKind.i64.wrap ((↑x1 : Int) + (1 : Int))) ∧ True)))))) ∧ ((L = L) ∧ ((True ∧ True) ∧ ((x.snd = x.snd) ∧ ((List.take ((IntKind.i64.wrap (n.tmod (19 : Int) + (19 : Int))).tmod (19 : Int)).toNat (topI x.snd) = List.take ((IntKind.i64.wrap (n.tmod (19 : Int) + (19 : Int))).tmod (19 : Int)).toNat (topI x.snd)) ∧ ((List.take (Int.toNat (100 : Int)) (topI x.snd) = List.take (Int.toNat (100 : Int)) (topI x.snd)) ∧ ((keysS x.snd = keysS x.snd) ∧ True))))))))))) | false => False) | false => False) | false => False) | false => False) | false => (∃ x' : Nat, ((x'.le (List.take (Int.toNat (100 : Int)) (topI x.snd)).length) ∧ (((1000 : Nat) - x' < (1000 : Nat) - x1) ∧ (((true = true) ∧ (True ∧ (True ∧ (True ∧ (True ∧ (((↑x' : Int) = IntKind.i64.wrap ((↑x1 : Int) + (1 : Int))) ∧ True)))))) ∧ ((L = L) ∧ ((True ∧ True) ∧ ((x.snd = x.snd) ∧ ((List.take ((IntKind.i64.wrap (n.tmod (19 : Int) + (19 : Int))).tmod (19 : Int)).toNat (topI x.snd) = List.take ((IntKind.i64.wrap (n.tmod (19 : Int) + (19 : Int))).tmod (19 : Int)).toNat (topI x.snd)) ∧ ((List.take (Int.toNat (100 : Int)) (topI x.snd) = List.take (Int.toNat (100 : Int)) (topI x.snd)) ∧ ((keysS x.snd = keysS x.snd) ∧ True))))))))))) | false => False) | false => False) | false => False) | false => False)) | false => False) | false => False) | false => False) | false => False) | false => (∃ x' : Nat, ((x'.le (List.take (Int.toNat (100 : Int)) (topI x.snd)).length) ∧ (((1000 : Nat) - x' < (1000 : Nat) - x1) ∧ (((true = true) ∧ (True ∧ (True ∧ (True ∧ (True ∧ (((↑x' : Int) = IntKind.i64.wrap ((↑x1 : Int) + (1 : Int))) ∧ True)))))) ∧ ((L = L) ∧ ((True ∧ True) ∧ ((x.snd = x.snd) ∧ ((List.take ((IntKind.i64.wrap (n.tmod (19 : Int) + (19 : Int))).tmod (19 : Int)).toNat (topI x.snd) = List.take ((IntKind.i64.wrap (n.tmod (19 : Int) + (19 : Int))).tmod (19 : Int)).toNat (topI x.snd)) ∧ ((List.take (Int.toNat (100 : Int)) (topI x.snd) = List.take (Int.toNat (100 : Int)) (topI x.snd)) ∧ ((keysS x.snd = keysS x.snd) ∧ True)))))))))))) | false => False) | false => False) | false => False) | false => False) | false => (match (decide ((↑x1 : Int) > (0 : Int))) with | true => (match (inb (↑x1 : Int) (List.take (Int.toNat (100 : Int)) (topI x.snd)).length) with | true => (match (inb (↑x1 : Int) (List.take (Int.toNat (100 : Int)) (topI x.snd)).length) with | true => (match (inb (IntKind.i64.wrap ((↑x1 : Int) - (1 : Int))) (List.take (Int.toNat (100 : Int)) (topI x.snd)).length) with | true => (match (inb (IntKind.i64.wrap ((↑x1 : Int) - (1 : Int))) (List.take (Int.toNat (100 : Int)) (topI x.snd)).length) with | true => (match (decide (getM x.snd (at' (0 : Int) (List.take (Int.toNat (100 : Int)) (topI x.snd)) (↑x1 : Int)) > getM x.snd (at' (0 : Int) (List.take (Int.toNat (100 : Int)) (topI x.snd)) (IntKind.i64.wrap ((↑x1 : Int) - (1 : Int)))))) with | true => (((true = false) ∧ True) ∧ ((L = L) ∧ True)) | false => (match (inb (↑x1 : Int) (List.take (Int.toNat (100 : Int)) (topI x.snd)).length) with | true => (match (inb (↑x1 : Int) (List.take (Int.toNat (100 : Int)) (topI x.snd)).length) with | true => (match (inb (IntKind.i64.wrap ((↑x1 : Int) - (1 : Int))) (List.take (Int.toNat (100 : Int)) (topI x.snd)).length) with | true => (match (inb (IntKind.i64.wrap ((↑x1 : Int) - (1 : Int))) (List.take (Int.toNat (100 : Int)) (topI x.snd)).length) with | true => (match (getM x.snd (at' (0 : Int) (List.take (Int.toNat (100 : Int)) (topI x.snd)) (↑x1 : Int)) == getM x.snd (at' (0 : Int) (List.take (Int.toNat (100 : Int)) (topI x.snd)) (IntKind.i64.wrap ((↑x1 : Int) - (1 : Int))))) with | true => (match (inb (↑x1 : Int) (List.take (Int.toNat (100 : Int)) (topI x.snd)).length) with | true => (match (inb (↑x1 : Int) (List.take (Int.toNat (100 : Int)) (topI x.snd)).length) with | true => (match (inb (IntKind.i64.wrap ((↑x1 : Int) - (1 : Int))) (List.take (Int.toNat (100 : Int)) (topI x.snd)).length) with | true => (match (inb (IntKind.i64.wrap ((↑x1 : Int) - (1 : Int))) (List.take (Int.toNat (100 : Int)) (topI x.snd)).length) with | true => (match (decide (at' (0 : Int) (List.take (Int.toNat (100 : Int)) (topI x.snd)) (↑x1 : Int) ≤ at' (0 : Int) (List.take (Int.toNat (100 : Int)) (topI x.snd)) (IntKind.i64.wrap ((↑x1 : Int) - (1 : Int))))) with | true => (((true = false) ∧ True) ∧ ((L = L) ∧ True)) | false => (∃ x' : Nat, ((x'.le (List.take (Int.toNat (100 : Int)) (topI x.snd)).length) ∧ (((1000 : Nat) - x' < (1000 : Nat) - x1) ∧ (((true = true) ∧ (True ∧ (True ∧ (True ∧ (True ∧ (((↑x' : Int) = IntKind.i64.wrap ((↑x1 : Int) + (1 : Int))) ∧ True)))))) ∧ ((L = L) ∧ ((True ∧ True) ∧ ((x.snd = x.snd) ∧ ((List.take ((IntKind.i64.wrap (n.tmod (19 : Int) + (19 : Int))).tmod (19 : Int)).toNat (topI x.snd) = List.take ((IntKind.i64.wrap (n.tmod (19 : Int) + (19 : Int))).tmod (19 : Int)).toNat (topI x.snd)) ∧ ((List.take (Int.toNat (100 : Int)) (topI x.snd) = List.take (Int.toNat (100 : Int)) (topI x.snd)) ∧ ((keysS x.snd = keysS x.snd) ∧ True))))))))))) | false => False) | false => False) | false => False) | false => False) | false => (∃ x' : Nat, ((x'.le (List.take (Int.toNat (100 : Int)) (topI x.snd)).length) ∧ (((1000 : Nat) - x' < (1000 : Nat) - x1) ∧ (((true = true) ∧ (True ∧ (True ∧ (True ∧ (True ∧ (((↑x' : Int) = IntKind.i64.wrap ((↑x1 : Int) + (1 : Int))) ∧ True)))))) ∧ ((L = L) ∧ ((True ∧ True) ∧ ((x.snd = x.snd) ∧ ((List.take ((IntKind.i64.wrap (n.tmod (19 : Int) + (19 : Int))).tmod (19 : Int)).toNat (topI x.snd) = List.take ((IntKind.i64.wrap (n.tmod (19 : Int) + (19 : Int))).tmod (19 : Int)).toNat (topI x.snd)) ∧ ((List.take (Int.toNat (100 : Int)) (topI x.snd) = List.take (Int.toNat (100 : Int)) (topI x.snd)) ∧ ((keysS x.snd = keysS x.snd) ∧ True))))))))))) | false => False) | false => False) | false => False) | false => False)) | false => False) | false => False) | false => False) | false => False) | false => (∃ x' : Nat, ((x'.le (List.take (Int.toNat (100 : Int)) (topI x.snd)).length) ∧ (((1000 : Nat) - x' < (1000 : Nat) - x1) ∧ (((true = true) ∧ (True ∧ (True ∧ (True ∧ (True ∧ (((↑x' : Int) = IntKind.i64.wrap ((↑x1 : Int) + (1 : Int))) ∧ True)))))) ∧ ((L = L) ∧ ((True ∧ True) ∧ ((x.snd = x.snd) ∧ ((List.take ((IntKind.i64.wrap (n.tmod (19 : Int) + (19 : Int))).tmod (19 : Int)).toNat (topI x.snd) = List.take ((IntKind.i64.wrap (n.tmod (19 : Int) + (19 : Int))).tmod (19 : Int)).toNat (topI x.snd)) ∧ ((List.take (Int.toNat (100 : Int)) (topI x.snd) = List.take (Int.toNat (100 : Int)) (topI x.snd)) ∧ ((keysS x.snd = keysS x.snd) ∧ True)))))))))))) | false => (((true = true) ∧ True) ∧ ((L = L) ∧ True)))))))) | false => False) | false => False) | false => False)))))
theorem statsTopVc (L : List Int) (n : Int) : fnX X21 (annOf [(6, { σ := Nat × CM, st := fun S x => atP ((S.keep [0, 1, 5, 6]).int 7 x.1) 6 [0] (.map 0 x.2), inv := fun _ x => x.1 ≤ 40 ∧ COk 0 15 x.2, m := fun x => 40 - x.1 }), (16, { σ := Nat, st := fun S x => (S.keep [5, 6, 9, 10, 11]).int 12 x, inv := fun S x => x ≤ (S.gv 10 0).length, m := fun x => 1000 - x })] []) Try.f4 [.own 0, .raw (.int .i64 n)] [.ro 0 L] (ends [.ro 0 L] ⟨some (.raw (.bool true)), []⟩) = statsTopText L n := by kernel_rfl
set_option maxHeartbeats 1000000 in
theorem statsTopHolds (L : List Int) (n : Int) : statsTopText L n := by
  unfold statsTopText
  refine ⟨⟨(0, noCount), ⟨Nat.zero_le _, COk.nil _ _⟩, by repeat' first | trivial | rfl | apply And.intro⟩, ?_⟩
  rintro ⟨i, M⟩ ⟨h1, h2⟩
  dsimp only at h1 h2 ⊢
  by_cases c : i < L.length
  · rw [dec_lt c]
    by_cases c4 : i < 40
    · have hwx : ((i + 1 : Nat) : Int) = IntKind.i64.wrap ((i : Int) + 1) := by rw [wrap_id (by omega) (by omega)]; omega
      have hb : 0 ≤ bits BinOp.and IntKind.i64 (at' (0 : Int) L (i : Int)) 15 ∧ bits BinOp.and IntKind.i64 (at' (0 : Int) L (i : Int)) 15 ≤ 15 := by
        have := mask_nat 4 (by omega) (at' (0 : Int) L (i : Int))
        rw [show ((2 ^ 4 - 1 : Nat) : Int) = 15 from rfl, show ((2 ^ 4 : Nat) : Int) = 16 from rfl] at this
        rw [this]
        omega
      rw [show decide ((i : Int) < 40) = true from decide_eq_true (by omega), inb_nat c]
      refine ⟨(i + 1, addM M (bits BinOp.and IntKind.i64 (at' (0 : Int) L (i : Int)) 15) (IntKind.i64.wrap (1 + bits BinOp.and IntKind.i64 (Int.fdiv (at' (0 : Int) L (i : Int)) (2 ^ min (Int.toNat 4) IntKind.i64.bits)) 7))), ⟨by dsimp only; omega, h2.add hb _⟩, by dsimp only; omega, ?_⟩
      repeat' first | exact hwx | trivial | rfl | apply And.intro
    · rw [show decide ((i : Int) < 40) = false from decide_eq_false (by omega)]
      have hnd : keysNd M := h2.nd
      have hc := h2.mono (lo' := -9223372036854775808) (hi' := 9223372036854775807) (by omega) (by omega)
      have h16 := h2.len16
      have hT := topI_length M
      have hK := keysS_length M
      have hko : keysOk M = true := hc.keysOk (by omega)
      have e100 : List.take (Int.toNat 100) (topI M) = topI M := List.take_of_length_le (by rw [hT]; show M.length ≤ 100; omega)
      obtain ⟨k, hk, hk2⟩ : ∃ k : Nat, (IntKind.i64.wrap (n.tmod 19 + 19)).tmod 19 = (k : Int) ∧ k ≤ 18 := by
        have a1 := Int.tmod_lt_of_pos n (show (0 : Int) < 19 by omega)
        have a2 := Int.tmod_lt_of_pos (-n) (show (0 : Int) < 19 by omega)
        rw [Int.neg_tmod] at a2
        rw [wrap_id (by omega) (by omega), Int.tmod_eq_emod_of_nonneg (by omega)]
        exact ⟨((n.tmod 19 + 19) % 19).toNat, by omega, by omega⟩
      have ek : (((topI M).take k).length : Int) = if (M.length : Int) < (k : Int) then (M.length : Int) else (k : Int) := by
        rw [List.length_take, hT]
        split <;> omega
      rw [decide_eq_true (⟨hko, hnd⟩ : keysOk M = true ∧ keysNd M), decide_eq_true hko, e100, hk, Int.toNat_natCast, hT, hK, show ((M.length : Int) != (M.length : Int)) = false by simp, ← ek, show ((((topI M).take k).length : Int) != (((topI M).take k).length : Int)) = false by simp, ← hT]
      refine ⟨⟨0, Nat.zero_le _, by repeat' first | trivial | rfl | apply And.intro⟩, ?_⟩
      intro x hx
      by_cases hx1 : x < (topI M).length
      · have hwx : ((x + 1 : Nat) : Int) = IntKind.i64.wrap ((x : Int) + 1) := by rw [wrap_id (by omega) (by omega)]; omega
        rw [dec_lt hx1, inb_nat hx1, at_nat hx1]
        by_cases hx2 : x < ((topI M).take k).length
        · rw [dec_lt hx2, inb_nat hx2, at_nat hx2, List.getElem_take, show ((topI M)[x] != (topI M)[x]) = false by simp]
          by_cases x0 : 0 < x
          · have ex : IntKind.i64.wrap ((x : Int) - 1) = ((x - 1 : Nat) : Int) := by rw [wrap_id (by omega) (by omega)]; omega
            have hl := topLt hnd x0 hx1
            rw [show decide ((x : Int) > 0) = true from decide_eq_true (by omega), ex, inb_nat (show x - 1 < (topI M).length by omega), at_nat (show x - 1 < (topI M).length by omega), decide_eq_false (show ¬ getM M (topI M)[x] > getM M (topI M)[x - 1] by omega)]
            by_cases he : getM M (topI M)[x] = getM M (topI M)[x - 1]
            · rw [show (getM M (topI M)[x] == getM M (topI M)[x - 1]) = true from beq_iff_eq.2 he, decide_eq_false (show ¬ (topI M)[x] ≤ (topI M)[x - 1] by omega)]
              refine ⟨x + 1, hx1, by omega, ?_⟩
              repeat' first | exact hwx | trivial | rfl | apply And.intro
            · rw [show (getM M (topI M)[x] == getM M (topI M)[x - 1]) = false from beq_eq_false_iff_ne.2 he]
              refine ⟨x + 1, hx1, by omega, ?_⟩
              repeat' first | exact hwx | trivial | rfl | apply And.intro
          · rw [show decide ((x : Int) > 0) = false from decide_eq_false (by omega)]
            refine ⟨x + 1, hx1, by omega, ?_⟩
            repeat' first | exact hwx | trivial | rfl | apply And.intro
        · rw [dec_ge (by omega : ((topI M).take k).length ≤ x)]
          by_cases x0 : 0 < x
          · have ex : IntKind.i64.wrap ((x : Int) - 1) = ((x - 1 : Nat) : Int) := by rw [wrap_id (by omega) (by omega)]; omega
            have hl := topLt hnd x0 hx1
            rw [show decide ((x : Int) > 0) = true from decide_eq_true (by omega), ex, inb_nat (show x - 1 < (topI M).length by omega), at_nat (show x - 1 < (topI M).length by omega), decide_eq_false (show ¬ getM M (topI M)[x] > getM M (topI M)[x - 1] by omega)]
            by_cases he : getM M (topI M)[x] = getM M (topI M)[x - 1]
            · rw [show (getM M (topI M)[x] == getM M (topI M)[x - 1]) = true from beq_iff_eq.2 he, decide_eq_false (show ¬ (topI M)[x] ≤ (topI M)[x - 1] by omega)]
              refine ⟨x + 1, hx1, by omega, ?_⟩
              repeat' first | exact hwx | trivial | rfl | apply And.intro
            · rw [show (getM M (topI M)[x] == getM M (topI M)[x - 1]) = false from beq_eq_false_iff_ne.2 he]
              refine ⟨x + 1, hx1, by omega, ?_⟩
              repeat' first | exact hwx | trivial | rfl | apply And.intro
          · rw [show decide ((x : Int) > 0) = false from decide_eq_false (by omega)]
            refine ⟨x + 1, hx1, by omega, ?_⟩
            repeat' first | exact hwx | trivial | rfl | apply And.intro
      · rw [dec_ge (by omega)]
        repeat' first | trivial | rfl | apply And.intro
  · rw [dec_ge (by omega)]
    have hnd : keysNd M := h2.nd
    have hc := h2.mono (lo' := -9223372036854775808) (hi' := 9223372036854775807) (by omega) (by omega)
    have h16 := h2.len16
    have hT := topI_length M
    have hK := keysS_length M
    have hko : keysOk M = true := hc.keysOk (by omega)
    have e100 : List.take (Int.toNat 100) (topI M) = topI M := List.take_of_length_le (by rw [hT]; show M.length ≤ 100; omega)
    obtain ⟨k, hk, hk2⟩ : ∃ k : Nat, (IntKind.i64.wrap (n.tmod 19 + 19)).tmod 19 = (k : Int) ∧ k ≤ 18 := by
      have a1 := Int.tmod_lt_of_pos n (show (0 : Int) < 19 by omega)
      have a2 := Int.tmod_lt_of_pos (-n) (show (0 : Int) < 19 by omega)
      rw [Int.neg_tmod] at a2
      rw [wrap_id (by omega) (by omega), Int.tmod_eq_emod_of_nonneg (by omega)]
      exact ⟨((n.tmod 19 + 19) % 19).toNat, by omega, by omega⟩
    have ek : (((topI M).take k).length : Int) = if (M.length : Int) < (k : Int) then (M.length : Int) else (k : Int) := by
      rw [List.length_take, hT]
      split <;> omega
    rw [decide_eq_true (⟨hko, hnd⟩ : keysOk M = true ∧ keysNd M), decide_eq_true hko, e100, hk, Int.toNat_natCast, hT, hK, show ((M.length : Int) != (M.length : Int)) = false by simp, ← ek, show ((((topI M).take k).length : Int) != (((topI M).take k).length : Int)) = false by simp, ← hT]
    refine ⟨⟨0, Nat.zero_le _, by repeat' first | trivial | rfl | apply And.intro⟩, ?_⟩
    intro x hx
    by_cases hx1 : x < (topI M).length
    · have hwx : ((x + 1 : Nat) : Int) = IntKind.i64.wrap ((x : Int) + 1) := by rw [wrap_id (by omega) (by omega)]; omega
      rw [dec_lt hx1, inb_nat hx1, at_nat hx1]
      by_cases hx2 : x < ((topI M).take k).length
      · rw [dec_lt hx2, inb_nat hx2, at_nat hx2, List.getElem_take, show ((topI M)[x] != (topI M)[x]) = false by simp]
        by_cases x0 : 0 < x
        · have ex : IntKind.i64.wrap ((x : Int) - 1) = ((x - 1 : Nat) : Int) := by rw [wrap_id (by omega) (by omega)]; omega
          have hl := topLt hnd x0 hx1
          rw [show decide ((x : Int) > 0) = true from decide_eq_true (by omega), ex, inb_nat (show x - 1 < (topI M).length by omega), at_nat (show x - 1 < (topI M).length by omega), decide_eq_false (show ¬ getM M (topI M)[x] > getM M (topI M)[x - 1] by omega)]
          by_cases he : getM M (topI M)[x] = getM M (topI M)[x - 1]
          · rw [show (getM M (topI M)[x] == getM M (topI M)[x - 1]) = true from beq_iff_eq.2 he, decide_eq_false (show ¬ (topI M)[x] ≤ (topI M)[x - 1] by omega)]
            refine ⟨x + 1, hx1, by omega, ?_⟩
            repeat' first | exact hwx | trivial | rfl | apply And.intro
          · rw [show (getM M (topI M)[x] == getM M (topI M)[x - 1]) = false from beq_eq_false_iff_ne.2 he]
            refine ⟨x + 1, hx1, by omega, ?_⟩
            repeat' first | exact hwx | trivial | rfl | apply And.intro
        · rw [show decide ((x : Int) > 0) = false from decide_eq_false (by omega)]
          refine ⟨x + 1, hx1, by omega, ?_⟩
          repeat' first | exact hwx | trivial | rfl | apply And.intro
      · rw [dec_ge (by omega : ((topI M).take k).length ≤ x)]
        by_cases x0 : 0 < x
        · have ex : IntKind.i64.wrap ((x : Int) - 1) = ((x - 1 : Nat) : Int) := by rw [wrap_id (by omega) (by omega)]; omega
          have hl := topLt hnd x0 hx1
          rw [show decide ((x : Int) > 0) = true from decide_eq_true (by omega), ex, inb_nat (show x - 1 < (topI M).length by omega), at_nat (show x - 1 < (topI M).length by omega), decide_eq_false (show ¬ getM M (topI M)[x] > getM M (topI M)[x - 1] by omega)]
          by_cases he : getM M (topI M)[x] = getM M (topI M)[x - 1]
          · rw [show (getM M (topI M)[x] == getM M (topI M)[x - 1]) = true from beq_iff_eq.2 he, decide_eq_false (show ¬ (topI M)[x] ≤ (topI M)[x - 1] by omega)]
            refine ⟨x + 1, hx1, by omega, ?_⟩
            repeat' first | exact hwx | trivial | rfl | apply And.intro
          · rw [show (getM M (topI M)[x] == getM M (topI M)[x - 1]) = false from beq_eq_false_iff_ne.2 he]
            refine ⟨x + 1, hx1, by omega, ?_⟩
            repeat' first | exact hwx | trivial | rfl | apply And.intro
        · rw [show decide ((x : Int) > 0) = false from decide_eq_false (by omega)]
          refine ⟨x + 1, hx1, by omega, ?_⟩
          repeat' first | exact hwx | trivial | rfl | apply And.intro
    · rw [dec_ge (by omega)]
      repeat' first | trivial | rfl | apply And.intro
noncomputable def statsTopCon : Con T O := fun args cs => match args, cs with
  | [.own 0, .raw (.int .i64 _)], [.ro 0 _] => .ret ⟨some (.raw (.bool true)), []⟩
  | _, _ => .fail
theorem statsTopOk : ConOk R Try.prog 4 statsTopCon := con_of_fn R (X21) (TabOk.con R X21Ok) mixed Try.call4 Try.func4 statsTopCon (by
  intro args cs K h
  unfold statsTopCon at h
  split at h
  · rename_i n L
    refine ⟨annOf [(6, { σ := Nat × CM, st := fun S x => atP ((S.keep [0, 1, 5, 6]).int 7 x.1) 6 [0] (.map 0 x.2), inv := fun _ x => x.1 ≤ 40 ∧ COk 0 15 x.2, m := fun x => 40 - x.1 }), (16, { σ := Nat, st := fun S x => (S.keep [5, 6, 9, 10, 11]).int 12 x, inv := fun S x => x ≤ (S.gv 10 0).length, m := fun x => 1000 - x })] [], _, fun v S hv => ⟨_, h, hv⟩, ?_⟩
    rw [statsTopVc L n]
    exact statsTopHolds L n
  · exact h.elim)
/-! ### regatta/regattalaw21.StatsNotes -/
def statsNotesText (L : List Note) : Prop := (match (decide ((↑L.length : Int) > (30 : Int))) with | true => (match (slOk none (some (30 : Int)) none (↑L.length : Int)) with | true => (match (decide ((cutL none (some (30 : Int)) L).length ≤ (1000 : Nat))) with | true => (match (decide ((cutL none (some (30 : Int)) L).length ≤ (800 : Nat))) with | true => (match (decide (keysOk (runsM (cutL none (some (30 : Int)) L)) = true ∧ (runsR (cutL none (some (30 : Int)) L)).length ≤ (900 : Nat))) with | true => (match (sameC (runsM (cutL none (some (30 : Int)) L)) (runsR (cutL none (some (30 : Int)) L))) with | true => (match (decide ((cutL none (some (30 : Int)) L).length ≤ (1000 : Nat))) with | true => (match (decide ((cutL none (some (30 : Int)) L).length ≤ (800 : Nat))) with | true => (match (decide (keysOk (coresM (cutL none (some (30 : Int)) L)) = true ∧ (coresR (cutL none (some (30 : Int)) L)).length ≤ (900 : Nat))) with | true => (match (sameC (coresM (cutL none (some (30 : Int)) L)) (coresR (cutL none (some (30 : Int)) L))) with | true => (match (decide ((cutL none (some (30 : Int)) L).length ≤ (1000 : Nat))) with | true => (match (decide ((cutL none (some (30 : Int)) L).length ≤ (800 : Nat))) with | true => (match (decide (keysOk (movesQ (cutL none (some (30 : Int)) L)).fst = true ∧ (movesR (cutL none (some (30 : Int)) L)).length ≤ (900 : Nat))) with | true => (((true = sameC (movesQ (cutL none (some (30 : Int)) L)).fst (movesR (cutL none (some (30 : Int)) L))) ∧ True) ∧ ((L = L) ∧ True)) | false => False) | false => False) | false => False) | false => (((true = false) ∧ True) ∧ ((L = L) ∧ True))) | false => False) | false => False) | false => False) | false => (((true = false) ∧ True) ∧ ((L = L) ∧ True))) | false => False) | false => False) | false => False) | false => False) | false => (match (decide (L.length ≤ (1000 : Nat))) with | true => (match (decide (L.length ≤ (800 : Nat))) with | true => (match (decide (keysOk (runsM L) = true ∧ (runsR L).length ≤ (900 : Nat))) with | true => (match (sameC (runsM L) (runsR L)) with | true => (match (decide (L.length ≤ (1000 : Nat))) with | true => (match (decide (L.length ≤ (800 : Nat))) with | true => (match (decide (keysOk (coresM L) = true ∧ (coresR L).length ≤ (900 : Nat))) with | true => (match (sameC (coresM L) (coresR L)) with | true => (match (decide (L.length ≤ (1000 : Nat))) with | true => (match (decide (L.length ≤ (800 : Nat))) with | true => (match (decide (keysOk (movesQ L).fst = true ∧ (movesR L).length ≤ (900 : Nat))) with | true => (((true = sameC (movesQ L).fst (movesR L)) ∧ True) ∧ ((L = L) ∧ True)) | false => False) | false => False) | false => False) | false => (((true = false) ∧ True) ∧ ((L = L) ∧ True))) | false => False) | false => False) | false => False) | false => (((true = false) ∧ True) ∧ ((L = L) ∧ True))) | false => False) | false => False) | false => False))
theorem statsNotesVc (L : List Note) : fnX X21 (noAnn) Try.f7 [.own 0] [.ro 4 L] (ends [.ro 4 L] ⟨some (.raw (.bool true)), []⟩) = statsNotesText L := by kernel_rfl
set_option maxHeartbeats 1000000 in
theorem statsNotesHolds (L : List Note) (hp : IDOk L ∧ CoreOk L) : statsNotesText L := by
  unfold statsNotesText
  obtain ⟨hI, hC⟩ := hp
  by_cases c : L.length > 30
  · rw [decide_eq_true (show (L.length : Int) > 30 by omega), show slOk none (some (30 : Int)) none (L.length : Int) = true from slOk_cut (k := 30) (by omega), show cutL none (some (30 : Int)) L = L.take 30 from rfl]
    replace hI := hI.take 30
    replace hC := hC.take 30
    have hl : (L.take 30).length = 30 := by rw [List.length_take]; omega
    have q1 : decide ((L.take 30).length ≤ 1000) = true := decide_eq_true (by omega)
    have q2 : decide ((L.take 30).length ≤ 800) = true := decide_eq_true (by omega)
    have r1 := runs_ref (L.take 30) hI
    have r2 := cores_ref (L.take 30) hC
    have r3 := moves_ref hI
    have o1 := runs_ok (L.take 30) hI (by omega)
    have o2 := cores_ok (L.take 30) hC (by omega)
    obtain ⟨o3, _, o4⟩ := moves_ok (L.take 30) hI (by omega)
    have l1 := o1.len
    have l2 := o2.len
    rw [q1, q2, decide_eq_true (⟨o1.ok.keysOk (by omega), by rw [r1.len]; omega⟩ : keysOk (runsM (L.take 30)) = true ∧ (runsR (L.take 30)).length ≤ 900), decide_eq_true (⟨o2.ok.keysOk (by omega), by rw [r2.len]; omega⟩ : keysOk (coresM (L.take 30)) = true ∧ (coresR (L.take 30)).length ≤ 900), decide_eq_true (⟨o3.keysOk (by omega), by rw [r3.len]; omega⟩ : keysOk (movesQ (L.take 30)).1 = true ∧ (movesR (L.take 30)).length ≤ 900), r1.same, r2.same, r3.same]
    exact ⟨⟨rfl, trivial⟩, rfl, trivial⟩
  · rw [decide_eq_false (show ¬ (L.length : Int) > 30 by omega)]
    have q1 : decide ((L).length ≤ 1000) = true := decide_eq_true (by omega)
    have q2 : decide ((L).length ≤ 800) = true := decide_eq_true (by omega)
    have r1 := runs_ref (L) hI
    have r2 := cores_ref (L) hC
    have r3 := moves_ref hI
    have o1 := runs_ok (L) hI (by omega)
    have o2 := cores_ok (L) hC (by omega)
    obtain ⟨o3, _, o4⟩ := moves_ok (L) hI (by omega)
    have l1 := o1.len
    have l2 := o2.len
    rw [q1, q2, decide_eq_true (⟨o1.ok.keysOk (by omega), by rw [r1.len]; omega⟩ : keysOk (runsM (L)) = true ∧ (runsR (L)).length ≤ 900), decide_eq_true (⟨o2.ok.keysOk (by omega), by rw [r2.len]; omega⟩ : keysOk (coresM (L)) = true ∧ (coresR (L)).length ≤ 900), decide_eq_true (⟨o3.keysOk (by omega), by rw [r3.len]; omega⟩ : keysOk (movesQ (L)).1 = true ∧ (movesR (L)).length ≤ 900), r1.same, r2.same, r3.same]
    exact ⟨⟨rfl, trivial⟩, rfl, trivial⟩
noncomputable def statsNotesCon : Con T O := fun args cs => match args, cs with
  | [.own 0], [.ro 4 L] => chk (decide (IDOk L ∧ CoreOk L)) (.ret ⟨some (.raw (.bool true)), []⟩)
  | _, _ => .fail
theorem statsNotesOk : ConOk R Try.prog 7 statsNotesCon := con_of_fn R (X21) (TabOk.con R X21Ok) mixed Try.call7 Try.func7 statsNotesCon (by
  intro args cs K h
  unfold statsNotesCon at h
  split at h
  · rename_i L
    rw [Tree.holds_chk] at h
    obtain ⟨hp, h⟩ := h
    refine ⟨noAnn, _, fun v S hv => ⟨_, h, hv⟩, ?_⟩
    rw [statsNotesVc L]
    exact statsNotesHolds L (of_decide_eq_true hp)
  · exact h.elim)
/-! ### regatta/regattalaw21.StatsRuns -/
def statsRunsText (L : List Note) : Prop := (match (decide ((↑L.length : Int) > (30 : Int))) with | true => (match (slOk none (some (30 : Int)) none (↑L.length : Int)) with | true => (match (decide ((cutL none (some (30 : Int)) L).length ≤ (1000 : Nat))) with | true => (match (decide ((cutL none (some (30 : Int)) L).length ≤ (1000 : Nat))) with | true => (match (decide ((cutL none (some (30 : Int)) L).length ≤ (1000 : Nat))) with | true => (match (decide (keysOk (runsM (cutL none (some (30 : Int)) L)) = true)) with | true => ((∃ x : Nat, ((x.le (keysS (runsM (cutL none (some (30 : Int)) L))).length) ∧ ((True ∧ ((true = true) ∧ (True ∧ (True ∧ (True ∧ (True ∧ (((↑x : Int) = (0 : Int)) ∧ True))))))) ∧ ((L = L) ∧ ((cutL none (some (30 : Int)) L = cutL none (some (30 : Int)) L) ∧ ((True ∧ True) ∧ ((runsM (cutL none (some (30 : Int)) L) = runsM (cutL none (some (30 : Int)) L)) ∧ ((True ∧ True) ∧ ((coresM (cutL none (some (30 : Int)) L) = coresM (cutL none (some (30 : Int)) L)) ∧ ((True ∧ True) ∧ (((movesQ (cutL none (some (30 : Int)) L)).fst = (movesQ (cutL none (some (30 : Int)) L)).fst) ∧ ((keysS (runsM (cutL none (some (30 : Int)) L)) = keysS (runsM (cutL none (some (30 : Int)) L))) ∧ True)))))))))))) ∧ (∀ x : Nat, ((x.le (keysS (runsM (cutL none (some (30 : Int)) L))).length) → (match (decide ((↑x : Int) < (↑(keysS (runsM (cutL none (some (30 : Int)) L))).length : Int))) with | true => (match (inb (↑x : Int) (keysS (runsM (cutL none (some (30 : Int)) L))).length) with | true => (match (inb (↑x : Int) (keysS (runsM (cutL none (some (30 : Int)) L))).length) with | true => (match (decide (getM (runsM (cutL none (some (30 : Int)) L)) (at' (0 : Int) (keysS (runsM (cutL none (some (30 : Int)) L))) (↑x : Int)) < (1 : Int))) with | true => (((true = false) ∧ True) ∧ ((L = L) ∧ True)) | false => (match (inb (↑x : Int) (keysS (runsM (cutL none (some (30 : Int)) L))).length) with | true => (match (inb (↑x : Int) (keysS (runsM (cutL none (some (30 : Int)) L))).length) with | true => (match (decide (getM (movesQ (cutL none (some (30 : Int)) L)).fst (at' (0 : Int) (keysS (runsM (cutL none (some (30 : Int)) L))) (↑x : Int)) < (0 : Int))) with | true => (((true = false) ∧ True) ∧ ((L = L) ∧ True)) | false => (match (inb (↑x : Int) (keysS (runsM (cutL none (some (30 : Int)) L))).length) with | true => (match (inb (↑x : Int) (keysS (runsM (cutL none (some (30 : Int)) L))).length) with | true => (match (inb (↑x : Int) (keysS (runsM (cutL none (some (30 : Int)) L))).length) with | true => (match (inb (↑x : Int) (keysS (runsM (cutL none (some (30 : Int)) L))).length) with | true => (match (decide (getM (movesQ (cutL none (some (30 : Int)) L)).fst (at' (0 : Int) (keysS (runsM (cutL none (some (30 : Int)) L))) (↑x : Int)) ≥ getM (runsM (cutL none (some (30 : Int)) L)) (at' (0 : Int) (keysS (runsM (cutL none (some (30 : Int)) L))) (↑x : Int)))) with | true => (((true = false) ∧ True) ∧ ((L = L) ∧ True)) | false => (∃ x' : Nat, ((x'.le (keysS (runsM (cutL none (some (30 : Int)) L))).length) ∧ (((1000 : Nat) - x' < (1000 : Nat) - x) ∧ ((True ∧ ((true = true) ∧ (True ∧ (True ∧ (True ∧ (True ∧ (((↑x' : Int) = IntKind.i64.wrap ((↑x : Int) + (1 : Int))) ∧ True))))))) ∧ ((L = L) ∧ ((cutL none (some (30 : Int)) L = cutL none (some (30 : Int)) L) ∧ ((True ∧ True) ∧ ((runsM (cutL none (some (30 : Int)) L) = runsM (cutL none (some (30 : Int)) L)) ∧ ((True ∧ True) ∧ ((coresM (cutL none (some (30 : Int)) L) = coresM (cutL none (some (30 : Int)) L)) ∧ ((True ∧ True) ∧ (((movesQ (cutL none (some (30 : Int)) L)).fst = (movesQ (cutL none (some (30 : Int)) L)).fst) ∧ ((keysS (runsM (cutL none (some (30 : Int)) L)) = keysS (runsM (cutL none (some (30 : Int)) L))) ∧ True)))))))))))))) | false => False) | false => False) | false => False) | false => False)) | false => False) | false => False)) | false => False) | false => False) | false => (match (decide (keysOk (runsM (cutL none (some (30 : Int)) L)) = true)) with | true => (match (sumL same (runsM (cutL none (some (30 : Int)) L)) (keysS (runsM (cutL none (some (30 : Int)) L))) == (↑(cutL none (some (30 : Int)) L).length : Int)) with | true => (match (decide (keysOk (coresM (cutL none (some (30 : Int)) L)) = true)) with | true => (match (sumL same (coresM (cutL none (some (30 : Int)) L)) (keysS (coresM (cutL none (some (30 : Int)) L))) == (↑(cutL none (some (30 : Int)) L).length : Int)) with | true => (match (decide (keysOk (movesQ (cutL none (some (30 : Int)) L)).fst = true)) with | true => (((true = decide ((↑(keysS (movesQ (cutL none (some (30 : Int)) L)).fst).length : Int) ≤ (↑(keysS (runsM (cutL none (some (30 : Int)) L))).length : Int))) ∧ True) ∧ ((L = L) ∧ True)) | false => False) | false => (((true = false) ∧ True) ∧ ((L = L) ∧ True))) | false => False) | false => (((true = false) ∧ True) ∧ ((L = L) ∧ True))) | false => False))))) | false => False) | false => False) | false => False) | false => False) | false => False) | false => (match (decide (L.length ≤ (1000 : Nat))) with | true => (match (decide (L.length ≤ (1000 : Nat))) with | true => (match (decide (L.length ≤ (1000 : Nat))) with | true => (match (decide (keysOk (runsM L) = true)) with | true => ((∃ x : Nat, ((x.le (keysS (runsM L)).length) ∧ ((True ∧ ((true = true) ∧ (True ∧ (True ∧ (True ∧ (True ∧ (((↑x : Int) = (0 : Int)) ∧ True))))))) ∧ ((L = L) ∧ ((True ∧ True) ∧ ((runsM L = runsM L) ∧ ((True ∧ True) ∧ ((coresM L = coresM L) ∧ ((True ∧ True) ∧ (((movesQ L).fst = (movesQ L).fst) ∧ ((keysS (runsM L) = keysS (runsM L)) ∧ True))))))))))) ∧ (∀ x : Nat, ((x.le (keysS (runsM L)).length) → (match (decide ((↑x : Int) < (↑(keysS (runsM L)).length : Int))) with | true => (match (inb (↑x : Int) (keysS (runsM L)).length) with | true => (match (inb (↑x : Int) (keysS (runsM L)).length) with | true => (match (decide (getM (runsM L) (at' (0 : Int) (keysS (runsM L)) (↑x : Int)) < (1 : Int))) with | true => (((true = false) ∧ True) ∧ ((L = L) ∧ True)) | false => (match (inb (↑x : Int) (keysS (runsM L)).length) with | true => (match (inb (↑x : Int) (keysS (runsM L)).length) with | true => (match (decide (getM (movesQ L).fst (at' (0 : Int) (keysS (runsM L)) (↑x : Int)) < (0 : Int))) with | true => (((true = false) ∧ True) ∧ ((L = L) ∧ True)) | false => (match (inb (↑x : Int) (keysS (runsM L)).length) with | true => (match (inb (↑x : Int) (keysS (runsM L)).length) with | true => (match (inb (↑x : Int) (keysS (runsM L)).length) with | true => (match (inb (↑x : Int) (keysS (runsM L)).length) with | true => (match (decide (getM (movesQ L).fst (at' (0 : Int) (keysS (runsM L)) (↑x : Int)) ≥ getM (runsM L) (at' (0 : Int) (keysS (runsM L)) (↑x : Int)))) with | true => (((true = false) ∧ True) ∧ ((L = L) ∧ True)) | false => (∃ x' : Nat, ((x'.le (keysS (runsM L)).length) ∧ (((1000 : Nat) - x' < (1000 : Nat) - x) ∧ ((True ∧ ((true = true) ∧ (True ∧ (True ∧ (True ∧ (True ∧ (((↑x' : Int) = IntKind.i64.wrap ((↑x : Int) + (1 : Int))) ∧ True))))))) ∧ ((L = L) ∧ ((True ∧ True) ∧ ((runsM L = runsM L) ∧ ((True ∧ True) ∧ ((coresM L = coresM L) ∧ ((True ∧ True) ∧ (((movesQ L).fst = (movesQ L).fst) ∧ ((keysS (runsM L) = keysS (runsM L)) ∧ True))))))))))))) | false => False) | false => False) | false => False) | false => False)) | false => False) | false => False)) | false => False) | false => False) | false => (match (decide (keysOk (runsM L) = true)) with | true => (match (sumL same (runsM L) (keysS (runsM L)) == (↑L.length : Int)) with | true => (match (decide (keysOk (coresM L) = true)) with | true => (match (sumL same (coresM L) (keysS (coresM L)) == (↑L.length : Int)) with | true => (match (decide (keysOk (movesQ L).fst = true)) with | true => (((true = decide ((↑(keysS (movesQ L).fst).length : Int) ≤ (↑(keysS (runsM L)).length : Int))) ∧ True) ∧ ((L = L) ∧ True)) | false => False) | false => (((true = false) ∧ True) ∧ ((L = L) ∧ True))) | false => False) | false => (((true = false) ∧ True) ∧ ((L = L) ∧ True))) | false => False))))) | false => False) | false => False) | false => False) | false => False))
theorem statsRunsVc (L : List Note) : fnX X21 (oneLoop 9 { σ := Nat, st := fun S x => (S.keep [0, 3, 4, 5, 6, 7]).int 8 x, inv := fun S x => x ≤ (S.gv 7 0).length, m := fun x => 1000 - x }) Try.f8 [.own 0] [.ro 4 L] (ends [.ro 4 L] ⟨some (.raw (.bool true)), []⟩) = statsRunsText L := by kernel_rfl
set_option maxHeartbeats 1000000 in
theorem statsRunsHolds (L : List Note) (hp : IDOk L ∧ CoreOk L) : statsRunsText L := by
  unfold statsRunsText
  obtain ⟨hI, hC⟩ := hp
  by_cases c : L.length > 30
  · rw [decide_eq_true (show (L.length : Int) > 30 by omega), show slOk none (some (30 : Int)) none (L.length : Int) = true from slOk_cut (k := 30) (by omega), show cutL none (some (30 : Int)) L = L.take 30 from rfl]
    replace hI := hI.take 30
    replace hC := hC.take 30
    have hl : (L.take 30).length = 30 := by rw [List.length_take]; omega
    have q1 : decide ((L.take 30).length ≤ 1000) = true := decide_eq_true (by omega)
    have o1 := runs_ok (L.take 30) hI (by omega)
    have o2 := cores_ok (L.take 30) hC (by omega)
    obtain ⟨o3, o5, o4⟩ := moves_ok (L.take 30) hI (by omega)
    have l1 := o1.len
    have l2 := o2.len
    have ml := moves_len hI (by omega)
    have s1 : (sumL same (runsM (L.take 30)) (keysS (runsM (L.take 30))) == ((L.take 30).length : Int)) = true := by rw [o1.ok.sum (by omega), o1.tot]; exact beq_self_eq_true _
    have s2 : (sumL same (coresM (L.take 30)) (keysS (coresM (L.take 30))) == ((L.take 30).length : Int)) = true := by rw [o2.ok.sum (by omega), o2.tot]; exact beq_self_eq_true _
    rw [q1, decide_eq_true (o1.ok.keysOk (by omega)), decide_eq_true (o2.ok.keysOk (by omega)), decide_eq_true (o3.keysOk (by omega)), s1, s2]
    have kl := keysS_length (runsM (L.take 30))
    refine ⟨⟨0, Nat.zero_le _, by repeat' first | trivial | rfl | apply And.intro⟩, ?_⟩
    intro x hx
    by_cases h : x < (keysS (runsM (L.take 30))).length
    · have hwx : ((x + 1 : Nat) : Int) = IntKind.i64.wrap ((x : Int) + 1) := by rw [wrap_id (by omega) (by omega)]; omega
      have hk : (keysS (runsM (L.take 30)))[x] ∈ keysS (runsM (L.take 30)) := List.getElem_mem h
      rw [keysS_mem, o1.ok.key] at hk
      have h0 := (o3.get (keysS (runsM (L.take 30)))[x]).1
      have h5 := o5 (keysS (runsM (L.take 30)))[x]
      have hlt : getM (movesQ (L.take 30)).1 (keysS (runsM (L.take 30)))[x] < getM (runsM (L.take 30)) (keysS (runsM (L.take 30)))[x] := movesLt hI (by omega) hk
      rw [dec_lt h, inb_nat h, at_nat h, decide_eq_false (show ¬ getM (runsM (L.take 30)) (keysS (runsM (L.take 30)))[x] < 1 by omega), decide_eq_false (show ¬ getM (movesQ (L.take 30)).1 (keysS (runsM (L.take 30)))[x] < 0 by omega), decide_eq_false (show ¬ getM (movesQ (L.take 30)).1 (keysS (runsM (L.take 30)))[x] ≥ getM (runsM (L.take 30)) (keysS (runsM (L.take 30)))[x] by omega)]
      refine ⟨x + 1, h, by omega, ?_⟩
      repeat' first | exact hwx | trivial | rfl | apply And.intro
    · rw [dec_ge (by omega)]
      have e : true = decide (((keysS (movesQ (L.take 30)).1).length : Int) ≤ ((keysS (runsM (L.take 30))).length : Int)) := (decide_eq_true (by omega)).symm
      repeat' first | exact e | trivial | rfl | apply And.intro
  · rw [decide_eq_false (show ¬ (L.length : Int) > 30 by omega)]
    have q1 : decide ((L).length ≤ 1000) = true := decide_eq_true (by omega)
    have o1 := runs_ok (L) hI (by omega)
    have o2 := cores_ok (L) hC (by omega)
    obtain ⟨o3, o5, o4⟩ := moves_ok (L) hI (by omega)
    have l1 := o1.len
    have l2 := o2.len
    have ml := moves_len hI (by omega)
    have s1 : (sumL same (runsM (L)) (keysS (runsM (L))) == ((L).length : Int)) = true := by rw [o1.ok.sum (by omega), o1.tot]; exact beq_self_eq_true _
    have s2 : (sumL same (coresM (L)) (keysS (coresM (L))) == ((L).length : Int)) = true := by rw [o2.ok.sum (by omega), o2.tot]; exact beq_self_eq_true _
    rw [q1, decide_eq_true (o1.ok.keysOk (by omega)), decide_eq_true (o2.ok.keysOk (by omega)), decide_eq_true (o3.keysOk (by omega)), s1, s2]
    have kl := keysS_length (runsM (L))
    refine ⟨⟨0, Nat.zero_le _, by repeat' first | trivial | rfl | apply And.intro⟩, ?_⟩
    intro x hx
    by_cases h : x < (keysS (runsM (L))).length
    · have hwx : ((x + 1 : Nat) : Int) = IntKind.i64.wrap ((x : Int) + 1) := by rw [wrap_id (by omega) (by omega)]; omega
      have hk : (keysS (runsM (L)))[x] ∈ keysS (runsM (L)) := List.getElem_mem h
      rw [keysS_mem, o1.ok.key] at hk
      have h0 := (o3.get (keysS (runsM (L)))[x]).1
      have h5 := o5 (keysS (runsM (L)))[x]
      have hlt : getM (movesQ (L)).1 (keysS (runsM (L)))[x] < getM (runsM (L)) (keysS (runsM (L)))[x] := movesLt hI (by omega) hk
      rw [dec_lt h, inb_nat h, at_nat h, decide_eq_false (show ¬ getM (runsM (L)) (keysS (runsM (L)))[x] < 1 by omega), decide_eq_false (show ¬ getM (movesQ (L)).1 (keysS (runsM (L)))[x] < 0 by omega), decide_eq_false (show ¬ getM (movesQ (L)).1 (keysS (runsM (L)))[x] ≥ getM (runsM (L)) (keysS (runsM (L)))[x] by omega)]
      refine ⟨x + 1, h, by omega, ?_⟩
      repeat' first | exact hwx | trivial | rfl | apply And.intro
    · rw [dec_ge (by omega)]
      have e : true = decide (((keysS (movesQ (L)).1).length : Int) ≤ ((keysS (runsM (L))).length : Int)) := (decide_eq_true (by omega)).symm
      repeat' first | exact e | trivial | rfl | apply And.intro
noncomputable def statsRunsCon : Con T O := fun args cs => match args, cs with
  | [.own 0], [.ro 4 L] => chk (decide (IDOk L ∧ CoreOk L)) (.ret ⟨some (.raw (.bool true)), []⟩)
  | _, _ => .fail
theorem statsRunsOk : ConOk R Try.prog 8 statsRunsCon := con_of_fn R (X21) (TabOk.con R X21Ok) mixed Try.call8 Try.func8 statsRunsCon (by
  intro args cs K h
  unfold statsRunsCon at h
  split at h
  · rename_i L
    rw [Tree.holds_chk] at h
    obtain ⟨hp, h⟩ := h
    refine ⟨oneLoop 9 { σ := Nat, st := fun S x => (S.keep [0, 3, 4, 5, 6, 7]).int 8 x, inv := fun S x => x ≤ (S.gv 7 0).length, m := fun x => 1000 - x }, _, fun v S hv => ⟨_, h, hv⟩, ?_⟩
    rw [statsRunsVc L]
    exact statsRunsHolds L (of_decide_eq_true hp)
  · exact h.elim)
/-! ### regatta/regattalaw21.StatsPlay -/
def statsPlayText (L : List Op) (n : Int) : Prop := ((∃ x : Nat × CM × List Cnt, (((x.fst ≤ (60 : Nat)) ∧ ((List.length x.snd.fst ≤ x.fst) ∧ (RefOk x.snd.fst x.snd.snd))) ∧ ((True ∧ ((n = n) ∧ ((true = true) ∧ (True ∧ (True ∧ (((↑x.fst : Int) = (0 : Int)) ∧ True)))))) ∧ ((L = L) ∧ ((True ∧ True) ∧ ((x.snd.fst = noCount) ∧ ((True ∧ True) ∧ ((x.snd.snd = []) ∧ True)))))))) ∧ (∀ x : Nat × CM × List Cnt, (((x.fst ≤ (60 : Nat)) ∧ ((List.length x.snd.fst ≤ x.fst) ∧ (RefOk x.snd.fst x.snd.snd))) → (match (decide ((↑x.fst : Int) < (↑L.length : Int))) with | true => (match (decide ((↑x.fst : Int) < (60 : Int))) with | true => (match (inb (↑x.fst : Int) L.length) with | true => (match (inb (↑x.fst : Int) L.length) with | true => ((match ((at' opE.zero L (↑x.fst : Int)).Raw) with | true => (∃ x1 : Int × Int, (((((-9223372036854775808 : Int) ≤ x1.fst) ∧ (x1.fst ≤ (9223372036854775807 : Int))) ∧ (((-9223372036854775808 : Int) ≤ x1.snd) ∧ (x1.snd ≤ (9223372036854775807 : Int)))) ∧ ((True ∧ ((n = n) ∧ ((true = true) ∧ (True ∧ (True ∧ (((↑x.fst : Int) = (↑x.fst : Int)) ∧ (True ∧ ((x1.fst = (at' opE.zero L (↑x.fst : Int)).K) ∧ ((x1.snd = (at' opE.zero L (↑x.fst : Int)).N) ∧ (((↑x.fst : Int) = (↑x.fst : Int)) ∧ (True ∧ (((↑L.length : Int) = (↑L.length : Int)) ∧ ((decide ((↑x.fst : Int) < (↑L.length : Int)) = decide ((↑x.fst : Int) < (↑L.length : Int))) ∧ ((true = true) ∧ (((↑x.fst : Int) = (↑x.fst : Int)) ∧ ((decide ((↑x.fst : Int) < (60 : Int)) = decide ((↑x.fst : Int) < (60 : Int))) ∧ ((true = true) ∧ (True ∧ (((↑x.fst : Int) = (↑x.fst : Int)) ∧ (((↑x.fst : Int) = (↑x.fst : Int)) ∧ ((((at' opE.zero L (↑x.fst : Int)).K = (at' opE.zero L (↑x.fst : Int)).K) ∧ (((at' opE.zero L (↑x.fst : Int)).N = (at' opE.zero L (↑x.fst : Int)).N) ∧ (((at' opE.zero L (↑x.fst : Int)).Raw = (at' opE.zero L (↑x.fst : Int)).Raw) ∧ True))) ∧ (True ∧ (((at' opE.zero L (↑x.fst : Int)).K = (at' opE.zero L (↑x.fst : Int)).K) ∧ ((bits BinOp.and IntKind.i64 (at' opE.zero L (↑x.fst : Int)).K (15 : Int) = bits BinOp.and IntKind.i64 (at' opE.zero L (↑x.fst : Int)).K (15 : Int)) ∧ (True ∧ (((at' opE.zero L (↑x.fst : Int)).N = (at' opE.zero L (↑x.fst : Int)).N) ∧ (((at' opE.zero L (↑x.fst : Int)).N.tmod (10 : Int) = (at' opE.zero L (↑x.fst : Int)).N.tmod (10 : Int)) ∧ True))))))))))))))))))))))))))) ∧ ((L = L) ∧ ((True ∧ True) ∧ ((x.snd.fst = x.snd.fst) ∧ ((True ∧ True) ∧ ((x.snd.snd = x.snd.snd) ∧ ((((at' opE.zero L (↑x.fst : Int)).K = (at' opE.zero L (↑x.fst : Int)).K) ∧ (((at' opE.zero L (↑x.fst : Int)).N = (at' opE.zero L (↑x.fst : Int)).N) ∧ (((at' opE.zero L (↑x.fst : Int)).Raw = (at' opE.zero L (↑x.fst : Int)).Raw) ∧ True))) ∧ True))))))))) | false => (∃ x1 : Int × Int, (((((-9223372036854775808 : Int) ≤ x1.fst) ∧ (x1.fst ≤ (9223372036854775807 : Int))) ∧ (((-9223372036854775808 : Int) ≤ x1.snd) ∧ (x1.snd ≤ (9223372036854775807 : Int)))) ∧ ((True ∧ ((n = n) ∧ ((true = true) ∧ (True ∧ (True ∧ (((↑x.fst : Int) = (↑x.fst : Int)) ∧ (True ∧ ((x1.fst = bits BinOp.and IntKind.i64 (at' opE.zero L (↑x.fst : Int)).K (15 : Int)) ∧ ((x1.snd = (at' opE.zero L (↑x.fst : Int)).N.tmod (10 : Int)) ∧ (((↑x.fst : Int) = (↑x.fst : Int)) ∧ (True ∧ (((↑L.length : Int) = (↑L.length : Int)) ∧ ((decide ((↑x.fst : Int) < (↑L.length : Int)) = decide ((↑x.fst : Int) < (↑L.length : Int))) ∧ ((true = true) ∧ (((↑x.fst : Int) = (↑x.fst : Int)) ∧ ((decide ((↑x.fst : Int) < (60 : Int)) = decide ((↑x.fst : Int) < (60 : Int))) ∧ ((true = true) ∧ (True ∧ (((↑x.fst : Int) = (↑x.fst : Int)) ∧ (((↑x.fst : Int) = (↑x.fst : Int)) ∧ ((((at' opE.zero L (↑x.fst : Int)).K = (at' opE.zero L (↑x.fst : Int)).K) ∧ (((at' opE.zero L (↑x.fst : Int)).N = (at' opE.zero L (↑x.fst : Int)).N) ∧ (((at' opE.zero L (↑x.fst : Int)).Raw = (at' opE.zero L (↑x.fst : Int)).Raw) ∧ True))) ∧ (True ∧ (((at' opE.zero L (↑x.fst : Int)).K = (at' opE.zero L (↑x.fst : Int)).K) ∧ ((bits BinOp.and IntKind.i64 (at' opE.zero L (↑x.fst : Int)).K (15 : Int) = bits BinOp.and IntKind.i64 (at' opE.zero L (↑x.fst : Int)).K (15 : Int)) ∧ (True ∧ (((at' opE.zero L (↑x.fst : Int)).N = (at' opE.zero L (↑x.fst : Int)).N) ∧ (((at' opE.zero L (↑x.fst : Int)).N.tmod (10 : Int) = (at' opE.zero L (↑x.fst : Int)).N.tmod (10 : Int)) ∧ True))))))))))))))))))))))))))) ∧ ((L = L) ∧ ((True ∧ True) ∧ ((x.snd.fst = x.snd.fst) ∧ ((True ∧ True) ∧ ((x.snd.snd = x.snd.snd) ∧ ((((at' opE.zero L (↑x.fst : Int)).K = (at' opE.zero L (↑x.fst : Int)).K) ∧ (((at' opE.zero L (↑x.fst : Int)).N = (at' opE.zero L (↑x.fst : Int)).N) ∧ (((at' opE.zero L (↑x.fst : Int)).Raw = (at' opE.zero L (↑x.fst : Int)).Raw) ∧ True))) ∧ True)))))))))) ∧ (∀ x1 : Int × Int, (((((-9223372036854775808 : Int) ≤ x1.fst) ∧ (x1.fst ≤ (9223372036854775807 : Int))) ∧ (((-9223372036854775808 : Int) ≤ x1.snd) ∧ (x1.snd ≤ (9223372036854775807 : Int)))) → (match (decide (x.snd.snd.length ≤ (900 : Nat))) with | true => (match (addN (getM x.snd.fst x1.fst) x1.snd != refN (getR x1.fst x.snd.snd) x1.snd) with | true => (((true = false) ∧ True) ∧ ((L = L) ∧ True)) | false => (match (decide ((addC x.snd.snd x1.fst x1.snd).length ≤ (1000 : Nat))) with | true => (match (getM (addM x.snd.fst x1.fst x1.snd) x1.fst != getR x1.fst (addC x.snd.snd x1.fst x1.snd)) with | true => (((true = false) ∧ True) ∧ ((L = L) ∧ True)) | false => (match (decide (keysOk (addM x.snd.fst x1.fst x1.snd) = true)) with | true => (match (decide ((addC x.snd.snd x1.fst x1.snd).length ≤ (1000 : Nat))) with | true => (match (sumL same (addM x.snd.fst x1.fst x1.snd) (keysS (addM x.snd.fst x1.fst x1.snd)) != sumR (addC x.snd.snd x1.fst x1.snd)) with | true => (((true = false) ∧ True) ∧ ((L = L) ∧ True)) | false => (match (decide (keysOk (addM x.snd.fst x1.fst x1.snd) = true)) with | true => (match (decide ((addC x.snd.snd x1.fst x1.snd).length ≤ (1000 : Nat))) with | true => (match (decide ((keysS (addM x.snd.fst x1.fst x1.snd)).length ≤ (1000 : Nat))) with | true => (match (decide (keysOk (addM x.snd.fst x1.fst x1.snd) = true ∧ keysNd (addM x.snd.fst x1.fst x1.snd))) with | true => (match (decide ((addC x.snd.snd x1.fst x1.snd).length ≤ (900 : Nat))) with | true => (match (decide ((List.take n.toNat (topI (addM x.snd.fst x1.fst x1.snd))).length ≤ (1000 : Nat))) with | true => (match (decide (keysOk (addM x.snd.fst x1.fst x1.snd) = true ∧ keysNd (addM x.snd.fst x1.fst x1.snd))) with | true => (match (decide ((addC x.snd.snd x1.fst x1.snd).length ≤ (900 : Nat))) with | true => (match (decide ((List.take (Int.toNat (3 : Int)) (topI (addM x.snd.fst x1.fst x1.snd))).length ≤ (1000 : Nat))) with | true => (match (!sameZ (keysS (addM x.snd.fst x1.fst x1.snd)) (ksR (addC x.snd.snd x1.fst x1.snd))) with | true => (((true = false) ∧ True) ∧ ((L = L) ∧ True)) | false => (match (!sameZ (List.take n.toNat (topI (addM x.snd.fst x1.fst x1.snd))) (selT n.toNat (addC x.snd.snd x1.fst x1.snd))) with | true => (((true = false) ∧ True) ∧ ((L = L) ∧ True)) | false => (match (!sameZ (List.take (Int.toNat (3 : Int)) (topI (addM x.snd.fst x1.fst x1.snd))) (selT (Int.toNat (3 : Int)) (addC x.snd.snd x1.fst x1.snd))) with | true => (((true = false) ∧ True) ∧ ((L = L) ∧ True)) | false => (∃ x' : Nat × CM × List Cnt, (((x'.fst ≤ (60 : Nat)) ∧ ((List.length x'.snd.fst ≤ x'.fst) ∧ (RefOk x'.snd.fst x'.snd.snd))) ∧ (((60 : Nat) - x'.fst < (60 : Nat) - x.fst) ∧ ((True ∧ ((n = n) ∧ ((true = true) ∧ (True ∧ (True ∧ (((↑x'.fst : Int) = IntKind.i64.wrap ((↑x.fst : Int) + (1 : Int))) ∧ True)))))) ∧ ((L = L) ∧ ((True ∧ True) ∧ ((x'.snd.fst = addM x.snd.fst x1.fst x1.snd) ∧ ((True ∧ True) ∧ ((x'.snd.snd = addC x.snd.snd x1.fst x1.snd) ∧ True)))))))))))) | false => False) | false => False) | false => False) | false => False) | false => False) | false => False) | false => False) | false => False) | false => False)) | false => False) | false => False)) | false => False)) | false => False)))) | false => False) | false => False) | false => (((true = true) ∧ True) ∧ ((L = L) ∧ True))) | false => (((true = true) ∧ True) ∧ ((L = L) ∧ True))))))
theorem statsPlayVc (L : List Op) (n : Int) : fnX X21 ({ (annOf (T := T) (O := O) [(7, { σ := Nat × CM × List Cnt, st := fun S x => atRef (atP ((S.keep [0, 1, 5, 6, 7]).int 8 x.1) 6 [0] (.map 0 x.2.1)) 7 x.2.2, inv := fun _ x => x.1 ≤ 60 ∧ x.2.1.length ≤ x.1 ∧ RefOk x.2.1 x.2.2, m := fun x => 60 - x.1 })] [] : Ann T O) with
  join := fun i => match decide (i = 15) with
    | true => some { σ := Int × Int, st := fun S x => (S.int 10 x.1).int 11 x.2, inv := fun _ x => (-9223372036854775808 ≤ x.1 ∧ x.1 ≤ 9223372036854775807) ∧ (-9223372036854775808 ≤ x.2 ∧ x.2 ≤ 9223372036854775807) }
    | false => none }) Try.f3 [.own 0, .raw (.int .i64 n)] [.ro 6 L] (ends [.ro 6 L] ⟨some (.raw (.bool true)), []⟩) = statsPlayText L n := by kernel_rfl
set_option maxHeartbeats 1000000 in
theorem statsPlayHolds (L : List Op) (n : Int) (hp : OpsOk L) : statsPlayText L n := by
  unfold statsPlayText
  refine ⟨⟨(0, noCount, []), ⟨Nat.zero_le _, Nat.zero_le _, RefOk.nil⟩, by repeat' first | trivial | rfl | apply And.intro⟩, ?_⟩
  rintro ⟨i, M, R⟩ ⟨h1, h2, h3⟩
  dsimp only at h1 h2 h3 ⊢
  by_cases c : i < L.length
  · rw [dec_lt c]
    by_cases c6 : i < 60
    · have hwx : ((i + 1 : Nat) : Int) = IntKind.i64.wrap ((i : Int) + 1) := by rw [wrap_id (by omega) (by omega)]; omega
      rw [show decide ((i : Int) < 60) = true from decide_eq_true (by omega), inb_nat c]
      have ho := hp _ (List.getElem_mem c)
      have hat : at' opE.zero L (i : Int) = L[i] := at_nat c
      refine ⟨?_, ?_⟩
      · rw [hat]
        cases L[i].Raw
        · have hb : 0 ≤ bits BinOp.and IntKind.i64 L[i].K 15 ∧ bits BinOp.and IntKind.i64 L[i].K 15 ≤ 15 := by
            have := mask_nat 4 (by omega) L[i].K
            rw [show ((2 ^ 4 - 1 : Nat) : Int) = 15 from rfl, show ((2 ^ 4 : Nat) : Int) = 16 from rfl] at this
            rw [this]
            omega
          have a1 := Int.tmod_lt_of_pos L[i].N (show (0 : Int) < 10 by omega)
          have a2 := Int.tmod_lt_of_pos (-L[i].N) (show (0 : Int) < 10 by omega)
          rw [Int.neg_tmod] at a2
          refine ⟨(bits BinOp.and IntKind.i64 L[i].K 15, L[i].N.tmod 10), ⟨⟨by dsimp only; omega, by dsimp only; omega⟩, by dsimp only; omega, by dsimp only; omega⟩, ?_⟩
          repeat' first | trivial | rfl | apply And.intro
        · refine ⟨(L[i].K, L[i].N), ho, ?_⟩
          repeat' first | trivial | rfl | apply And.intro
      · rintro ⟨k, m⟩ ⟨hk, hm⟩
        dsimp only at hk hm ⊢
        obtain ⟨hr, er⟩ := h3.add hk hm
        have hl := addM_length M k m
        have hl2 := hr.len
        have hko : keysOk (addM M k m) = true := hr.ok.keysOk (by omega)
        have hT := topI_length (addM M k m)
        rw [decide_eq_true (show R.length ≤ 900 by rw [h3.len]; omega), er, show (addN (getM M k) m != addN (getM M k) m) = false by simp, decide_eq_true (show (addC R k m).length ≤ 1000 by omega), hr.get, show (getM (addM M k m) k != getM (addM M k m) k) = false by simp, decide_eq_true hko, hr.sum (by omega), show (sumL same (addM M k m) (keysS (addM M k m)) != sumL same (addM M k m) (keysS (addM M k m))) = false by simp, decide_eq_true (show (keysS (addM M k m)).length ≤ 1000 by rw [keysS_length]; omega), decide_eq_true (⟨hko, hr.ok.nd⟩ : keysOk (addM M k m) = true ∧ keysNd (addM M k m)), decide_eq_true (show (addC R k m).length ≤ 900 by omega), decide_eq_true (show (List.take n.toNat (topI (addM M k m))).length ≤ 1000 by rw [List.length_take]; omega), decide_eq_true (show (List.take (Int.toNat 3) (topI (addM M k m))).length ≤ 1000 by rw [List.length_take]; omega), hr.top, hr.top, show ksR (addC R k m) = keysS (addM M k m) from hr.keys.symm, sameZ_refl, sameZ_refl, sameZ_refl]
        refine ⟨(i + 1, addM M k m, addC R k m), ⟨by dsimp only; omega, by dsimp only; omega, hr⟩, by dsimp only; omega, ?_⟩
        repeat' first | exact hwx | trivial | rfl | apply And.intro
    · rw [show decide ((i : Int) < 60) = false from decide_eq_false (by omega)]
      repeat' first | trivial | rfl | apply And.intro
  · rw [dec_ge (by omega)]
    repeat' first | trivial | rfl | apply And.intro
noncomputable def statsPlayCon : Con T O := fun args cs => match args, cs with
  | [.own 0, .raw (.int .i64 _)], [.ro 6 L] => chk (decide (OpsOk L)) (.ret ⟨some (.raw (.bool true)), []⟩)
  | _, _ => .fail
theorem statsPlayOk : ConOk R Try.prog 3 statsPlayCon := con_of_fn R (X21) (TabOk.con R X21Ok) mixed Try.call3 Try.func3 statsPlayCon (by
  intro args cs K h
  unfold statsPlayCon at h
  split at h
  · rename_i n L
    rw [Tree.holds_chk] at h
    obtain ⟨hp, h⟩ := h
    refine ⟨{ (annOf (T := T) (O := O) [(7, { σ := Nat × CM × List Cnt, st := fun S x => atRef (atP ((S.keep [0, 1, 5, 6, 7]).int 8 x.1) 6 [0] (.map 0 x.2.1)) 7 x.2.2, inv := fun _ x => x.1 ≤ 60 ∧ x.2.1.length ≤ x.1 ∧ RefOk x.2.1 x.2.2, m := fun x => 60 - x.1 })] [] : Ann T O) with
  join := fun i => match decide (i = 15) with
    | true => some { σ := Int × Int, st := fun S x => (S.int 10 x.1).int 11 x.2, inv := fun _ x => (-9223372036854775808 ≤ x.1 ∧ x.1 ≤ 9223372036854775807) ∧ (-9223372036854775808 ≤ x.2 ∧ x.2 ≤ 9223372036854775807) }
    | false => none }, _, fun v S hv => ⟨_, h, hv⟩, ?_⟩
    rw [statsPlayVc L n]
    exact statsPlayHolds L n (of_decide_eq_true hp)
  · exact h.elim)
noncomputable def tab22 : Tab T O := (4, statsTopCon) :: (7, statsNotesCon) :: (8, statsRunsCon) :: (3, statsPlayCon) :: tab21
theorem tabOk22 : TabOk R Try.prog tab22 := TabOk.cons R statsTopOk <| TabOk.cons R statsNotesOk <| TabOk.cons R statsRunsOk <| TabOk.cons R statsPlayOk <| tabOk21
noncomputable def X22 : Ctx T O := { X0 with con := conOf tab22 }
theorem X22Ok : TabOk R X22.P tab22 := tabOk22
end Go.Proofs.Ythfggjfpokknlaa
