/-
  Part of a proof over the seat Ytmnnjclnldaejaa: printed by a small program or typed by hand.
-/
import Derived.Test.YtmnnjclnldaejaaJSurS33
import Derived.KernelRfl
namespace Go.Proofs.Ytmnnjclnldaejaa
open Go.Sx Go.Proofs Classical
/-! ### regatta/regattalaw14.SuperOrder -/
def superOrderText (A : List Pair) (G : List Int) : Prop := (match (decide ((madeL A).length ≤ (100000 : Nat))) with | true => (match (newOk (madeL A) (0 : Int)) with | true => ((∃ x : (List Own × Int × Int) × Int × List Int × Nat, ((orderI (madeL A) x.fst.fst x.fst.snd.fst x.fst.snd.snd x.snd.fst x.snd.snd.fst x.snd.snd.snd) ∧ ((True ∧ ((true = true) ∧ (True ∧ (True ∧ ((x.snd.fst = (0 : Int)) ∧ (True ∧ (((↑x.snd.snd.snd : Int) = (0 : Int)) ∧ True))))))) ∧ ((A = A) ∧ ((G = G) ∧ ((madeL A = madeL A) ∧ ((True ∧ ((x.snd.fst = (0 : Int)) ∧ ((x.fst.snd.fst = (0 : Int)) ∧ ((x.fst.snd.snd = (0 : Int)) ∧ True)))) ∧ ((x.snd.snd.fst = [(0 : Int), (0 : Int), (0 : Int), (0 : Int), (0 : Int), (0 : Int), (0 : Int), (0 : Int)]) ∧ ((x.fst.fst = startL (0 : Int) (madeL A) (madeL A).length) ∧ True))))))))) ∧ (∀ x : (List Own × Int × Int) × Int × List Int × Nat, ((orderI (madeL A) x.fst.fst x.fst.snd.fst x.fst.snd.snd x.snd.fst x.snd.snd.fst x.snd.snd.snd) → (match (decide ((↑x.snd.snd.snd : Int) < (↑G.length : Int))) with | true => (match (decide ((↑x.snd.snd.snd : Int) < (60 : Int))) with | true => (match (inb (↑x.snd.snd.snd : Int) G.length) with | true => (match (inb (↑x.snd.snd.snd : Int) G.length) with | true => (match (decide (∃ b, RowOk b x.fst.fst)) with | true => (match (slotOk x.snd.fst (IntKind.i64.wrap (x.snd.fst + bits BinOp.and IntKind.i64 (at' (0 : Int) G (↑x.snd.snd.snd : Int)) (7 : Int)))) with | true => (match (decide ((∃ b, RowOk b x.fst.fst) ∧ (0 : Int) ≤ x.fst.snd.fst ∧ x.fst.snd.fst ≤ (1099511627776 : Int) ∧ (0 : Int) ≤ x.fst.snd.snd ∧ x.fst.snd.snd ≤ (1099511627776 : Int))) with | true => (match (grantIs x.fst.fst x.snd.fst (IntKind.i64.wrap (x.snd.fst + bits BinOp.and IntKind.i64 (at' (0 : Int) G (↑x.snd.snd.snd : Int)) (7 : Int))) != decide ((↑(jobsL (IntKind.i64.wrap (x.snd.fst + bits BinOp.and IntKind.i64 (at' (0 : Int) G (↑x.snd.snd.snd : Int)) (7 : Int))) x.fst.fst).length : Int) > (0 : Int))) with | true => (((true = false) ∧ True) ∧ ((A = A) ∧ ((G = G) ∧ True))) | false => (match (!grantIs x.fst.fst x.snd.fst (IntKind.i64.wrap (x.snd.fst + bits BinOp.and IntKind.i64 (at' (0 : Int) G (↑x.snd.snd.snd : Int)) (7 : Int)))) with | true => (∃ x' : (List Own × Int × Int) × Int × List Int × Nat, ((orderI (madeL A) x'.fst.fst x'.fst.snd.fst x'.fst.snd.snd x'.snd.fst x'.snd.snd.fst x'.snd.snd.snd) ∧ (((60 : Nat) - x'.snd.snd.snd < (60 : Nat) - x.snd.snd.snd) ∧ ((True ∧ ((true = true) ∧ (True ∧ (True ∧ ((x'.snd.fst = IntKind.i64.wrap (x.snd.fst + bits BinOp.and IntKind.i64 (at' (0 : Int) G (↑x.snd.snd.snd : Int)) (7 : Int))) ∧ (True ∧ (((↑x'.snd.snd.snd : Int) = IntKind.i64.wrap ((↑x.snd.snd.snd : Int) + (1 : Int))) ∧ True))))))) ∧ ((A = A) ∧ ((G = G) ∧ ((madeL A = madeL A) ∧ ((True ∧ ((x'.snd.fst = grantLast x.snd.fst (IntKind.i64.wrap (x.snd.fst + bits BinOp.and IntKind.i64 (at' (0 : Int) G (↑x.snd.snd.snd : Int)) (7 : Int)))) ∧ ((x'.fst.snd.fst = grantServed x.fst.fst x.snd.fst x.fst.snd.fst (IntKind.i64.wrap (x.snd.fst + bits BinOp.and IntKind.i64 (at' (0 : Int) G (↑x.snd.snd.snd : Int)) (7 : Int)))) ∧ ((x'.fst.snd.snd = grantIdle x.fst.fst x.snd.fst x.fst.snd.snd (IntKind.i64.wrap (x.snd.fst + bits BinOp.and IntKind.i64 (at' (0 : Int) G (↑x.snd.snd.snd : Int)) (7 : Int)))) ∧ True)))) ∧ ((x'.snd.snd.fst = x.snd.snd.fst) ∧ ((x'.fst.fst = grantM x.fst.fst x.snd.fst (IntKind.i64.wrap (x.snd.fst + bits BinOp.and IntKind.i64 (at' (0 : Int) G (↑x.snd.snd.snd : Int)) (7 : Int)))) ∧ True)))))))))) | false => (match (inb (0 : Int) (jobsL (IntKind.i64.wrap (x.snd.fst + bits BinOp.and IntKind.i64 (at' (0 : Int) G (↑x.snd.snd.snd : Int)) (7 : Int))) x.fst.fst).length) with | true => (match (inb (0 : Int) (jobsL (IntKind.i64.wrap (x.snd.fst + bits BinOp.and IntKind.i64 (at' (0 : Int) G (↑x.snd.snd.snd : Int)) (7 : Int))) x.fst.fst).length) with | true => (match ((grantJ x.fst.fst x.snd.fst (IntKind.i64.wrap (x.snd.fst + bits BinOp.and IntKind.i64 (at' (0 : Int) G (↑x.snd.snd.snd : Int)) (7 : Int)))).Part != (at' jobE.zero (jobsL (IntKind.i64.wrap (x.snd.fst + bits BinOp.and IntKind.i64 (at' (0 : Int) G (↑x.snd.snd.snd : Int)) (7 : Int))) x.fst.fst) (0 : Int)).Part) with | true => (((true = false) ∧ True) ∧ ((A = A) ∧ ((G = G) ∧ True))) | false => (match ((grantJ x.fst.fst x.snd.fst (IntKind.i64.wrap (x.snd.fst + bits BinOp.and IntKind.i64 (at' (0 : Int) G (↑x.snd.snd.snd : Int)) (7 : Int)))).Index != (at' jobE.zero (jobsL (IntKind.i64.wrap (x.snd.fst + bits BinOp.and IntKind.i64 (at' (0 : Int) G (↑x.snd.snd.snd : Int)) (7 : Int))) x.fst.fst) (0 : Int)).Index) with | true => (((true = false) ∧ True) ∧ ((A = A) ∧ ((G = G) ∧ True))) | false => (match ((grantJ x.fst.fst x.snd.fst (IntKind.i64.wrap (x.snd.fst + bits BinOp.and IntKind.i64 (at' (0 : Int) G (↑x.snd.snd.snd : Int)) (7 : Int)))).Deadline != (at' jobE.zero (jobsL (IntKind.i64.wrap (x.snd.fst + bits BinOp.and IntKind.i64 (at' (0 : Int) G (↑x.snd.snd.snd : Int)) (7 : Int))) x.fst.fst) (0 : Int)).Deadline) with | true => (((true = false) ∧ True) ∧ ((A = A) ∧ ((G = G) ∧ True))) | false => (match ((grantJ x.fst.fst x.snd.fst (IntKind.i64.wrap (x.snd.fst + bits BinOp.and IntKind.i64 (at' (0 : Int) G (↑x.snd.snd.snd : Int)) (7 : Int)))).Left != IntKind.i64.wrap ((at' jobE.zero (jobsL (IntKind.i64.wrap (x.snd.fst + bits BinOp.and IntKind.i64 (at' (0 : Int) G (↑x.snd.snd.snd : Int)) (7 : Int))) x.fst.fst) (0 : Int)).Left - (1 : Int))) with | true => (((true = false) ∧ True) ∧ ((A = A) ∧ ((G = G) ∧ True))) | false => (match (decide ((grantJ x.fst.fst x.snd.fst (IntKind.i64.wrap (x.snd.fst + bits BinOp.and IntKind.i64 (at' (0 : Int) G (↑x.snd.snd.snd : Int)) (7 : Int)))).Release > IntKind.i64.wrap (x.snd.fst + bits BinOp.and IntKind.i64 (at' (0 : Int) G (↑x.snd.snd.snd : Int)) (7 : Int)))) with | true => (((true = false) ∧ True) ∧ ((A = A) ∧ ((G = G) ∧ True))) | false => (match (decide ((grantJ x.fst.fst x.snd.fst (IntKind.i64.wrap (x.snd.fst + bits BinOp.and IntKind.i64 (at' (0 : Int) G (↑x.snd.snd.snd : Int)) (7 : Int)))).Part < (0 : Int))) with | true => (((true = false) ∧ True) ∧ ((A = A) ∧ ((G = G) ∧ True))) | false => (match (decide ((grantJ x.fst.fst x.snd.fst (IntKind.i64.wrap (x.snd.fst + bits BinOp.and IntKind.i64 (at' (0 : Int) G (↑x.snd.snd.snd : Int)) (7 : Int)))).Part ≥ (↑(madeL A).length : Int))) with | true => (((true = false) ∧ True) ∧ ((A = A) ∧ ((G = G) ∧ True))) | false => (match (x.snd.snd.fst.length == (8 : Nat)) with | true => (match (inb (grantJ x.fst.fst x.snd.fst (IntKind.i64.wrap (x.snd.fst + bits BinOp.and IntKind.i64 (at' (0 : Int) G (↑x.snd.snd.snd : Int)) (7 : Int)))).Part (8 : Nat)) with | true => (match (inb (grantJ x.fst.fst x.snd.fst (IntKind.i64.wrap (x.snd.fst + bits BinOp.and IntKind.i64 (at' (0 : Int) G (↑x.snd.snd.snd : Int)) (7 : Int)))).Part x.snd.snd.fst.length) with | true => (match ((grantJ x.fst.fst x.snd.fst (IntKind.i64.wrap (x.snd.fst + bits BinOp.and IntKind.i64 (at' (0 : Int) G (↑x.snd.snd.snd : Int)) (7 : Int)))).Index != at' (0 : Int) x.snd.snd.fst (grantJ x.fst.fst x.snd.fst (IntKind.i64.wrap (x.snd.fst + bits BinOp.and IntKind.i64 (at' (0 : Int) G (↑x.snd.snd.snd : Int)) (7 : Int)))).Part) with | true => (((true = false) ∧ True) ∧ ((A = A) ∧ ((G = G) ∧ True))) | false => (match ((grantJ x.fst.fst x.snd.fst (IntKind.i64.wrap (x.snd.fst + bits BinOp.and IntKind.i64 (at' (0 : Int) G (↑x.snd.snd.snd : Int)) (7 : Int)))).Left == (0 : Int)) with | true => (match (x.snd.snd.fst.length == (8 : Nat)) with | true => (match (inb (grantJ x.fst.fst x.snd.fst (IntKind.i64.wrap (x.snd.fst + bits BinOp.and IntKind.i64 (at' (0 : Int) G (↑x.snd.snd.snd : Int)) (7 : Int)))).Part (8 : Nat)) with | true => (match (inb (grantJ x.fst.fst x.snd.fst (IntKind.i64.wrap (x.snd.fst + bits BinOp.and IntKind.i64 (at' (0 : Int) G (↑x.snd.snd.snd : Int)) (7 : Int)))).Part x.snd.snd.fst.length) with | true => (match (x.snd.snd.fst.length == (8 : Nat)) with | true => (match (inb (grantJ x.fst.fst x.snd.fst (IntKind.i64.wrap (x.snd.fst + bits BinOp.and IntKind.i64 (at' (0 : Int) G (↑x.snd.snd.snd : Int)) (7 : Int)))).Part (8 : Nat)) with | true => (match (inb (grantJ x.fst.fst x.snd.fst (IntKind.i64.wrap (x.snd.fst + bits BinOp.and IntKind.i64 (at' (0 : Int) G (↑x.snd.snd.snd : Int)) (7 : Int)))).Part x.snd.snd.fst.length) with | true => (∃ x' : (List Own × Int × Int) × Int × List Int × Nat, ((orderI (madeL A) x'.fst.fst x'.fst.snd.fst x'.fst.snd.snd x'.snd.fst x'.snd.snd.fst x'.snd.snd.snd) ∧ (((60 : Nat) - x'.snd.snd.snd < (60 : Nat) - x.snd.snd.snd) ∧ ((True ∧ ((true = true) ∧ (True ∧ (True ∧ ((x'.snd.fst = IntKind.i64.wrap (x.snd.fst + bits BinOp.and IntKind.i64 (at' (0 : Int) G (↑x.snd.snd.snd : Int)) (7 : Int))) ∧ (True ∧ (((↑x'.snd.snd.snd : Int) = IntKind.i64.wrap ((↑x.snd.snd.snd : Int) + (1 : Int))) ∧ True))))))) ∧ ((A = A) ∧ ((G = G) ∧ ((madeL A = madeL A) ∧ ((True ∧ ((x'.snd.fst = grantLast x.snd.fst (IntKind.i64.wrap (x.snd.fst + bits BinOp.and IntKind.i64 (at' (0 : Int) G (↑x.snd.snd.snd : Int)) (7 : Int)))) ∧ ((x'.fst.snd.fst = grantServed x.fst.fst x.snd.fst x.fst.snd.fst (IntKind.i64.wrap (x.snd.fst + bits BinOp.and IntKind.i64 (at' (0 : Int) G (↑x.snd.snd.snd : Int)) (7 : Int)))) ∧ ((x'.fst.snd.snd = grantIdle x.fst.fst x.snd.fst x.fst.snd.snd (IntKind.i64.wrap (x.snd.fst + bits BinOp.and IntKind.i64 (at' (0 : Int) G (↑x.snd.snd.snd : Int)) (7 : Int)))) ∧ True)))) ∧ ((x'.snd.snd.fst = x.snd.snd.fst.set (grantJ x.fst.fst x.snd.fst (IntKind.i64.wrap (x.snd.fst + bits BinOp.and IntKind.i64 (at' (0 : Int) G (↑x.snd.snd.snd : Int)) (7 : Int)))).Part.toNat (IntKind.i64.wrap (at' (0 : Int) x.snd.snd.fst (grantJ x.fst.fst x.snd.fst (IntKind.i64.wrap (x.snd.fst + bits BinOp.and IntKind.i64 (at' (0 : Int) G (↑x.snd.snd.snd : Int)) (7 : Int)))).Part + (1 : Int)))) ∧ ((x'.fst.fst = grantM x.fst.fst x.snd.fst (IntKind.i64.wrap (x.snd.fst + bits BinOp.and IntKind.i64 (at' (0 : Int) G (↑x.snd.snd.snd : Int)) (7 : Int)))) ∧ True)))))))))) | false => False) | false => False) | false => False) | false => False) | false => False) | false => False) | false => (∃ x' : (List Own × Int × Int) × Int × List Int × Nat, ((orderI (madeL A) x'.fst.fst x'.fst.snd.fst x'.fst.snd.snd x'.snd.fst x'.snd.snd.fst x'.snd.snd.snd) ∧ (((60 : Nat) - x'.snd.snd.snd < (60 : Nat) - x.snd.snd.snd) ∧ ((True ∧ ((true = true) ∧ (True ∧ (True ∧ ((x'.snd.fst = IntKind.i64.wrap (x.snd.fst + bits BinOp.and IntKind.i64 (at' (0 : Int) G (↑x.snd.snd.snd : Int)) (7 : Int))) ∧ (True ∧ (((↑x'.snd.snd.snd : Int) = IntKind.i64.wrap ((↑x.snd.snd.snd : Int) + (1 : Int))) ∧ True))))))) ∧ ((A = A) ∧ ((G = G) ∧ ((madeL A = madeL A) ∧ ((True ∧ ((x'.snd.fst = grantLast x.snd.fst (IntKind.i64.wrap (x.snd.fst + bits BinOp.and IntKind.i64 (at' (0 : Int) G (↑x.snd.snd.snd : Int)) (7 : Int)))) ∧ ((x'.fst.snd.fst = grantServed x.fst.fst x.snd.fst x.fst.snd.fst (IntKind.i64.wrap (x.snd.fst + bits BinOp.and IntKind.i64 (at' (0 : Int) G (↑x.snd.snd.snd : Int)) (7 : Int)))) ∧ ((x'.fst.snd.snd = grantIdle x.fst.fst x.snd.fst x.fst.snd.snd (IntKind.i64.wrap (x.snd.fst + bits BinOp.and IntKind.i64 (at' (0 : Int) G (↑x.snd.snd.snd : Int)) (7 : Int)))) ∧ True)))) ∧ ((x'.snd.snd.fst = x.snd.snd.fst) ∧ ((x'.fst.fst = grantM x.fst.fst x.snd.fst (IntKind.i64.wrap (x.snd.fst + bits BinOp.and IntKind.i64 (at' (0 : Int) G (↑x.snd.snd.snd : Int)) (7 : Int)))) ∧ True)))))))))))) | false => False) | false => False) | false => False)))))))) | false => False) | false => False))) | false => False) | false => (match (decide ((∃ b, RowOk b x.fst.fst) ∧ (0 : Int) ≤ x.fst.snd.fst ∧ x.fst.snd.fst ≤ (1099511627776 : Int) ∧ (0 : Int) ≤ x.fst.snd.snd ∧ x.fst.snd.snd ≤ (1099511627776 : Int))) with | true => (match (grantIs x.fst.fst x.snd.fst (IntKind.i64.wrap (x.snd.fst + bits BinOp.and IntKind.i64 (at' (0 : Int) G (↑x.snd.snd.snd : Int)) (7 : Int))) != decide ((↑(0 : Nat) : Int) > (0 : Int))) with | true => (((true = false) ∧ True) ∧ ((A = A) ∧ ((G = G) ∧ True))) | false => (match (!grantIs x.fst.fst x.snd.fst (IntKind.i64.wrap (x.snd.fst + bits BinOp.and IntKind.i64 (at' (0 : Int) G (↑x.snd.snd.snd : Int)) (7 : Int)))) with | true => (∃ x' : (List Own × Int × Int) × Int × List Int × Nat, ((orderI (madeL A) x'.fst.fst x'.fst.snd.fst x'.fst.snd.snd x'.snd.fst x'.snd.snd.fst x'.snd.snd.snd) ∧ (((60 : Nat) - x'.snd.snd.snd < (60 : Nat) - x.snd.snd.snd) ∧ ((True ∧ ((true = true) ∧ (True ∧ (True ∧ ((x'.snd.fst = IntKind.i64.wrap (x.snd.fst + bits BinOp.and IntKind.i64 (at' (0 : Int) G (↑x.snd.snd.snd : Int)) (7 : Int))) ∧ (True ∧ (((↑x'.snd.snd.snd : Int) = IntKind.i64.wrap ((↑x.snd.snd.snd : Int) + (1 : Int))) ∧ True))))))) ∧ ((A = A) ∧ ((G = G) ∧ ((madeL A = madeL A) ∧ ((True ∧ ((x'.snd.fst = grantLast x.snd.fst (IntKind.i64.wrap (x.snd.fst + bits BinOp.and IntKind.i64 (at' (0 : Int) G (↑x.snd.snd.snd : Int)) (7 : Int)))) ∧ ((x'.fst.snd.fst = grantServed x.fst.fst x.snd.fst x.fst.snd.fst (IntKind.i64.wrap (x.snd.fst + bits BinOp.and IntKind.i64 (at' (0 : Int) G (↑x.snd.snd.snd : Int)) (7 : Int)))) ∧ ((x'.fst.snd.snd = grantIdle x.fst.fst x.snd.fst x.fst.snd.snd (IntKind.i64.wrap (x.snd.fst + bits BinOp.and IntKind.i64 (at' (0 : Int) G (↑x.snd.snd.snd : Int)) (7 : Int)))) ∧ True)))) ∧ ((x'.snd.snd.fst = x.snd.snd.fst) ∧ ((x'.fst.fst = grantM x.fst.fst x.snd.fst (IntKind.i64.wrap (x.snd.fst + bits BinOp.and IntKind.i64 (at' (0 : Int) G (↑x.snd.snd.snd : Int)) (7 : Int)))) ∧ True)))))))))) | false => False)) | false => False)) | false => False) | false => False) | false => False) | false => (((true = true) ∧ True) ∧ ((A = A) ∧ ((G = G) ∧ True)))) | false => (((true = true) ∧ True) ∧ ((A = A) ∧ ((G = G) ∧ True))))))) | false => (((true = true) ∧ True) ∧ ((A = A) ∧ ((G = G) ∧ True)))) | false => False)
theorem superOrderVc (A : List Pair) (G : List Int) : fnX X33 (oneLoop 9 { σ := (List Own × Int × Int) × (Int × List Int × Nat), st := fun S x => (supSt (((((S.keep [1, 4, 5, 6, 7, 9]).int 8 x.2.1).int 10 x.2.2.2).at' 9 (.arr 0 x.2.2.1 60))) 2 7 x.1.1 x.2.1 x.1.2.1 x.1.2.2), inv := fun _ x => orderI (madeL A) x.1.1 x.1.2.1 x.1.2.2 x.2.1 x.2.2.1 x.2.2.2, m := fun x => 60 - x.2.2.2 }) Try.f8 [.own 0, .own 1] [.ro 6 A, .ro 0 G] (ends [.ro 6 A, .ro 0 G] ⟨some (.raw (.bool true)), []⟩) = superOrderText A G := by kernel_rfl
set_option maxHeartbeats 1000000 in
set_option maxRecDepth 20000 in
theorem superOrderHolds (A : List Pair) (G : List Int) : superOrderText A G := by
  unfold superOrderText
  have hl8 := madeL_length A
  rw [decide_eq_true (show (madeL A).length ≤ 100000 by omega)]
  cases hn : newOk (madeL A) 0
  · repeat' first | apply And.intro | exact True.intro | with_reducible rfl | exact rfl
  · obtain ⟨hP, _, _⟩ := newOk_parts hn
    generalize madeL A = L at hP hl8 hn ⊢
    refine ⟨⟨((startL 0 L L.length, 0, 0), (0, [0, 0, 0, 0, 0, 0, 0, 0], 0)), orderI.init hP, by repeat' first | apply And.intro | exact True.intro | with_reducible rfl | exact rfl⟩, ?_⟩
    intro x hi
    obtain ⟨⟨M, served, idle⟩, now, N, x⟩ := x
    dsimp only at hi ⊢
    have hR := hi.row
    have n0 := hi.now0
    have n1 := hi.now1
    have s0 := hi.s0
    have s1 := hi.s1
    have d0 := hi.d0
    have d1 := hi.d1
    have hML := hi.len
    have hN8 := hi.nlen
    by_cases h1 : x < G.length
    · rw [dec_lt h1]
      by_cases h2 : x < 60
      · have hwx : IntKind.i64.wrap ((x : Int) + 1) = ((x + 1 : Nat) : Int) := by rw [wrap_id (by omega) (by omega)]; omega
        rw [show decide ((x : Int) < 60) = true from decide_eq_true (by omega), inb_nat h1, at_nat h1, mask7, wrap_id (n := now + G[x] % 8) (by omega) (by omega), hwx]
        obtain ⟨t, ht⟩ : ∃ t, t = now + G[x] % 8 := ⟨_, rfl⟩
        rw [← ht]
        have t0 : now ≤ t := by omega
        have t1 : t ≤ now + 7 := by omega
        have t2 : t ≤ 1099511627776 := by omega
        have hs : slotOk now t = true := slotOk_iff.2 ⟨t0, t2⟩
        rw [decide_eq_true (⟨0, hR⟩ : ∃ b, RowOk b M), hs, decide_eq_true (⟨⟨0, hR⟩, s0, by omega, d0, by omega⟩ : (∃ b, RowOk b M) ∧ 0 ≤ served ∧ served ≤ 1099511627776 ∧ 0 ≤ idle ∧ idle ≤ 1099511627776), grantLast_on hs]
        by_cases hb : 0 ≤ bestM M t
        · obtain ⟨k, hk, ho⟩ := best_some hR hb
          obtain ⟨g1, g2, g3, g4, g5⟩ := grantM_some hs hk ho.lt
          obtain ⟨l, hj⟩ := jobs_best hR t2 ho
          have hkN : k < N.length := by have := ho.lt; omega
          have hst := hi.some h2 t0 t1 t2 ho hkN
          have hnx := hi.next k ho.lt
          rw [List.getElem?_eq_getElem hkN] at hnx
          have hnx := Option.some.inj hnx
          have hq := hR.all k ho.lt
          have hpk := hq.part
          have q1 := hq.l1
          have q2 := hq.le
          have q3 := hq.ep
          have q4 := hq.p
          have q5 := hq.idx
          have q6 := hq.idx_le (by decide)
          have q7 := ho.rel
          have hkl := ho.lt
          rw [g1, g2, g3, g4, g5, hj]
          rw [show (true != decide (((ownJ M[k] :: l).length : Int) > 0)) = false by rw [decide_eq_true (by rw [List.length_cons]; omega)]; rfl, show inb 0 (ownJ M[k] :: l).length = true from inb_nat (a := 0) (by rw [List.length_cons]; omega)]
          rw [show at' jobE.zero (ownJ M[k] :: l) 0 = ownJ M[k] from rfl]
          rw [show ((ownJ (decO M[k])).Part != (ownJ M[k]).Part) = false from bne_self_eq_false (M[k].JobPart)]
          rw [show ((ownJ (decO M[k])).Index != (ownJ M[k]).Index) = false from bne_self_eq_false (M[k].JobIndex)]
          rw [show ((ownJ (decO M[k])).Deadline != (ownJ M[k]).Deadline) = false from bne_self_eq_false (M[k].JobDeadline)]
          rw [show IntKind.i64.wrap ((ownJ M[k]).Left - 1) = (ownJ (decO M[k])).Left from wrap_id (show -9223372036854775808 ≤ M[k].JobLeft - 1 by omega) (show M[k].JobLeft - 1 ≤ 9223372036854775807 by omega)]
          rw [show ((ownJ (decO M[k])).Left != (ownJ (decO M[k])).Left) = false from bne_self_eq_false _]
          rw [show (ownJ (decO M[k])).Part = (k : Int) from hpk, show (ownJ (decO M[k])).Release = M[k].JobRelease from rfl, show (ownJ (decO M[k])).Index = M[k].JobIndex from rfl, show (ownJ (decO M[k])).Left = M[k].JobLeft - 1 from rfl]
          rw [decide_eq_false (show ¬ M[k].JobRelease > t by omega), decide_eq_false (show ¬ (k : Int) < 0 by omega), decide_eq_false (show ¬ (k : Int) ≥ (L.length : Int) by omega), hN8, show inb (k : Int) 8 = true from inb_nat (by omega), at_nat hkN, hnx, show (M[k].JobIndex != M[k].JobIndex) = false from bne_self_eq_false _]
          rw [hnx] at hst
          rw [wrap_id (n := M[k].JobIndex + 1) (by omega) (by omega), Int.toNat_natCast]
          cases hz : M[k].JobLeft - 1 == 0
          · rw [hz, cond_false] at hst
            refine ⟨((M.set k (afterO M[k]), served + 1, idle), (t, N, x + 1)), hst, by dsimp only; omega, ?_⟩
            repeat' first | apply And.intro | exact True.intro | with_reducible rfl | exact rfl
          · rw [hz, cond_true] at hst
            refine ⟨((M.set k (afterO M[k]), served + 1, idle), (t, N.set k (M[k].JobIndex + 1), x + 1)), hst, by dsimp only; omega, ?_⟩
            repeat' first | apply And.intro | exact True.intro | with_reducible rfl | exact rfl
        · obtain ⟨g1, g2, g3, g4, g5⟩ := grantM_none (M := M) hs hb
          have hj := jobs_none (best_none hR hb)
          have hst := hi.none h2 t0 t1
          rw [g1, g3, g4, g5, hj]
          rw [show (false != decide ((([] : List Job).length : Int) > 0)) = false from rfl, show (!false) = true from rfl]
          refine ⟨((M, served, idle + 1), (t, N, x + 1)), hst, by dsimp only; omega, ?_⟩
          repeat' first | apply And.intro | exact True.intro | with_reducible rfl | exact rfl
      · obtain rfl : x = 60 := by have := hi.le; omega
        rw [show decide (((60 : Nat) : Int) < 60) = false from rfl]
        repeat' first | apply And.intro | exact True.intro | with_reducible rfl | exact rfl
    · rw [dec_ge (by omega)]
      repeat' first | apply And.intro | exact True.intro | with_reducible rfl | exact rfl
noncomputable def superOrderCon : Con T O := fun args cs => match args, cs with
  | [.own 0, .own 1], [.ro 6 _, .ro 0 _] => .ret ⟨some (.raw (.bool true)), []⟩
  | _, _ => .fail
theorem superOrderOk : ConOk R Try.prog 8 superOrderCon := con_of_fn R (X33) (TabOk.con R X33Ok) mixed Try.call8 Try.func8 superOrderCon (by
  intro args cs K h
  unfold superOrderCon at h
  split at h
  · rename_i A G
    refine ⟨oneLoop 9 { σ := (List Own × Int × Int) × (Int × List Int × Nat), st := fun S x => (supSt (((((S.keep [1, 4, 5, 6, 7, 9]).int 8 x.2.1).int 10 x.2.2.2).at' 9 (.arr 0 x.2.2.1 60))) 2 7 x.1.1 x.2.1 x.1.2.1 x.1.2.2), inv := fun _ x => orderI (madeL A) x.1.1 x.1.2.1 x.1.2.2 x.2.1 x.2.2.1 x.2.2.2, m := fun x => 60 - x.2.2.2 }, _, fun v S hv => ⟨_, h, hv⟩, ?_⟩
    rw [superOrderVc A G]
    exact superOrderHolds A G
  · exact h.elim)
noncomputable def tab34 : Tab T O := (8, superOrderCon) :: tab33
theorem tabOk34 : TabOk R Try.prog tab34 := TabOk.cons R superOrderOk <| tabOk33
noncomputable def X34 : Ctx T O := { X0 with con := conOf tab34 }
theorem X34Ok : TabOk R X34.P tab34 := tabOk34
end Go.Proofs.Ytmnnjclnldaejaa
