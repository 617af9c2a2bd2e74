/-
  Part of a proof over the seat Ytmnnjclnldaejaa: printed by a small program or typed by hand.
-/
import Derived.Test.YtmnnjclnldaejaaSupS11
import Derived.KernelRfl
namespace Go.Proofs.Ytmnnjclnldaejaa
open Go.Sx Go.Proofs Classical
/-! ### regatta/regattaref02.add -/
def decAddText (A B : List Int) : Prop := ((∃ x : Nat, ((x.le (max A.length B.length + (1 : Nat))) ∧ ((True ∧ (True ∧ (True ∧ (((↑((nvB (10 : Nat) (List.take x A) + nvB (10 : Nat) (List.take x B)) / (10 : Nat) ^ x) : Int) = (0 : Int)) ∧ (((↑x : Int) = (0 : Int)) ∧ True))))) ∧ ((A = A) ∧ ((B = B) ∧ ((digN (10 : Nat) x (nvB (10 : Nat) A + nvB (10 : Nat) B) = []) ∧ True)))))) ∧ (∀ x : Nat, ((x.le (max A.length B.length + (1 : Nat))) → (match (decide ((↑x : Int) < (↑A.length : Int))) with | true => (match (decide ((↑x : Int) < (↑A.length : Int))) with | true => (match (inb (↑x : Int) A.length) with | true => (match (inb (↑x : Int) A.length) with | true => (match (decide ((↑x : Int) < (↑B.length : Int))) with | true => (match (inb (↑x : Int) B.length) with | true => (match (inb (↑x : Int) B.length) with | true => (match (roomy ((digN (10 : Nat) x (nvB (10 : Nat) A + nvB (10 : Nat) B)).length + (1 : Nat)) (nat_lit 8)) with | true => (∃ x' : Nat, ((x'.le (max A.length B.length + (1 : Nat))) ∧ ((max A.length B.length + (1 : Nat) - x' < max A.length B.length + (1 : Nat) - x) ∧ ((True ∧ (True ∧ (True ∧ (((↑((nvB (10 : Nat) (List.take x' A) + nvB (10 : Nat) (List.take x' B)) / (10 : Nat) ^ x') : Int) = IntKind.i64.wrap ((IntKind.i64.wrap (IntKind.i64.wrap ((↑((nvB (10 : Nat) (List.take x A) + nvB (10 : Nat) (List.take x B)) / (10 : Nat) ^ x) : Int) + at' (0 : Int) A (↑x : Int)) + at' (0 : Int) B (↑x : Int))).tdiv (10 : Int))) ∧ (((↑x' : Int) = IntKind.i64.wrap ((↑x : Int) + (1 : Int))) ∧ True))))) ∧ ((A = A) ∧ ((B = B) ∧ ((digN (10 : Nat) x' (nvB (10 : Nat) A + nvB (10 : Nat) B) = digN (10 : Nat) x (nvB (10 : Nat) A + nvB (10 : Nat) B) ++ [(IntKind.i64.wrap (IntKind.i64.wrap ((↑((nvB (10 : Nat) (List.take x A) + nvB (10 : Nat) (List.take x B)) / (10 : Nat) ^ x) : Int) + at' (0 : Int) A (↑x : Int)) + at' (0 : Int) B (↑x : Int))).tmod (10 : Int)]) ∧ True))))))) | false => False) | false => False) | false => False) | false => (match (roomy ((digN (10 : Nat) x (nvB (10 : Nat) A + nvB (10 : Nat) B)).length + (1 : Nat)) (nat_lit 8)) with | true => (∃ x' : Nat, ((x'.le (max A.length B.length + (1 : Nat))) ∧ ((max A.length B.length + (1 : Nat) - x' < max A.length B.length + (1 : Nat) - x) ∧ ((True ∧ (True ∧ (True ∧ (((↑((nvB (10 : Nat) (List.take x' A) + nvB (10 : Nat) (List.take x' B)) / (10 : Nat) ^ x') : Int) = IntKind.i64.wrap ((IntKind.i64.wrap ((↑((nvB (10 : Nat) (List.take x A) + nvB (10 : Nat) (List.take x B)) / (10 : Nat) ^ x) : Int) + at' (0 : Int) A (↑x : Int))).tdiv (10 : Int))) ∧ (((↑x' : Int) = IntKind.i64.wrap ((↑x : Int) + (1 : Int))) ∧ True))))) ∧ ((A = A) ∧ ((B = B) ∧ ((digN (10 : Nat) x' (nvB (10 : Nat) A + nvB (10 : Nat) B) = digN (10 : Nat) x (nvB (10 : Nat) A + nvB (10 : Nat) B) ++ [(IntKind.i64.wrap ((↑((nvB (10 : Nat) (List.take x A) + nvB (10 : Nat) (List.take x B)) / (10 : Nat) ^ x) : Int) + at' (0 : Int) A (↑x : Int))).tmod (10 : Int)]) ∧ True))))))) | false => False)) | false => False) | false => False) | false => (match (decide ((↑x : Int) < (↑B.length : Int))) with | true => (match (inb (↑x : Int) B.length) with | true => (match (inb (↑x : Int) B.length) with | true => (match (roomy ((digN (10 : Nat) x (nvB (10 : Nat) A + nvB (10 : Nat) B)).length + (1 : Nat)) (nat_lit 8)) with | true => (∃ x' : Nat, ((x'.le (max A.length B.length + (1 : Nat))) ∧ ((max A.length B.length + (1 : Nat) - x' < max A.length B.length + (1 : Nat) - x) ∧ ((True ∧ (True ∧ (True ∧ (((↑((nvB (10 : Nat) (List.take x' A) + nvB (10 : Nat) (List.take x' B)) / (10 : Nat) ^ x') : Int) = IntKind.i64.wrap ((IntKind.i64.wrap ((↑((nvB (10 : Nat) (List.take x A) + nvB (10 : Nat) (List.take x B)) / (10 : Nat) ^ x) : Int) + at' (0 : Int) B (↑x : Int))).tdiv (10 : Int))) ∧ (((↑x' : Int) = IntKind.i64.wrap ((↑x : Int) + (1 : Int))) ∧ True))))) ∧ ((A = A) ∧ ((B = B) ∧ ((digN (10 : Nat) x' (nvB (10 : Nat) A + nvB (10 : Nat) B) = digN (10 : Nat) x (nvB (10 : Nat) A + nvB (10 : Nat) B) ++ [(IntKind.i64.wrap ((↑((nvB (10 : Nat) (List.take x A) + nvB (10 : Nat) (List.take x B)) / (10 : Nat) ^ x) : Int) + at' (0 : Int) B (↑x : Int))).tmod (10 : Int)]) ∧ True))))))) | false => False) | false => False) | false => False) | false => (match (roomy ((digN (10 : Nat) x (nvB (10 : Nat) A + nvB (10 : Nat) B)).length + (1 : Nat)) (nat_lit 8)) with | true => (∃ x' : Nat, ((x'.le (max A.length B.length + (1 : Nat))) ∧ ((max A.length B.length + (1 : Nat) - x' < max A.length B.length + (1 : Nat) - x) ∧ ((True ∧ (True ∧ (True ∧ (((↑((nvB (10 : Nat) (List.take x' A) + nvB (10 : Nat) (List.take x' B)) / (10 : Nat) ^ x') : Int) = IntKind.i64.wrap ((↑((nvB (10 : Nat) (List.take x A) + nvB (10 : Nat) (List.take x B)) / (10 : Nat) ^ x) : Int).tdiv (10 : Int))) ∧ (((↑x' : Int) = IntKind.i64.wrap ((↑x : Int) + (1 : Int))) ∧ True))))) ∧ ((A = A) ∧ ((B = B) ∧ ((digN (10 : Nat) x' (nvB (10 : Nat) A + nvB (10 : Nat) B) = digN (10 : Nat) x (nvB (10 : Nat) A + nvB (10 : Nat) B) ++ [(↑((nvB (10 : Nat) (List.take x A) + nvB (10 : Nat) (List.take x B)) / (10 : Nat) ^ x) : Int).tmod (10 : Int)]) ∧ True))))))) | false => False))) | false => (match (decide ((↑x : Int) < (↑B.length : Int))) with | true => (match (decide ((↑x : Int) < (↑A.length : Int))) with | true => (match (inb (↑x : Int) A.length) with | true => (match (inb (↑x : Int) A.length) with | true => (match (decide ((↑x : Int) < (↑B.length : Int))) with | true => (match (inb (↑x : Int) B.length) with | true => (match (inb (↑x : Int) B.length) with | true => (match (roomy ((digN (10 : Nat) x (nvB (10 : Nat) A + nvB (10 : Nat) B)).length + (1 : Nat)) (nat_lit 8)) with | true => (∃ x' : Nat, ((x'.le (max A.length B.length + (1 : Nat))) ∧ ((max A.length B.length + (1 : Nat) - x' < max A.length B.length + (1 : Nat) - x) ∧ ((True ∧ (True ∧ (True ∧ (((↑((nvB (10 : Nat) (List.take x' A) + nvB (10 : Nat) (List.take x' B)) / (10 : Nat) ^ x') : Int) = IntKind.i64.wrap ((IntKind.i64.wrap (IntKind.i64.wrap ((↑((nvB (10 : Nat) (List.take x A) + nvB (10 : Nat) (List.take x B)) / (10 : Nat) ^ x) : Int) + at' (0 : Int) A (↑x : Int)) + at' (0 : Int) B (↑x : Int))).tdiv (10 : Int))) ∧ (((↑x' : Int) = IntKind.i64.wrap ((↑x : Int) + (1 : Int))) ∧ True))))) ∧ ((A = A) ∧ ((B = B) ∧ ((digN (10 : Nat) x' (nvB (10 : Nat) A + nvB (10 : Nat) B) = digN (10 : Nat) x (nvB (10 : Nat) A + nvB (10 : Nat) B) ++ [(IntKind.i64.wrap (IntKind.i64.wrap ((↑((nvB (10 : Nat) (List.take x A) + nvB (10 : Nat) (List.take x B)) / (10 : Nat) ^ x) : Int) + at' (0 : Int) A (↑x : Int)) + at' (0 : Int) B (↑x : Int))).tmod (10 : Int)]) ∧ True))))))) | false => False) | false => False) | false => False) | false => (match (roomy ((digN (10 : Nat) x (nvB (10 : Nat) A + nvB (10 : Nat) B)).length + (1 : Nat)) (nat_lit 8)) with | true => (∃ x' : Nat, ((x'.le (max A.length B.length + (1 : Nat))) ∧ ((max A.length B.length + (1 : Nat) - x' < max A.length B.length + (1 : Nat) - x) ∧ ((True ∧ (True ∧ (True ∧ (((↑((nvB (10 : Nat) (List.take x' A) + nvB (10 : Nat) (List.take x' B)) / (10 : Nat) ^ x') : Int) = IntKind.i64.wrap ((IntKind.i64.wrap ((↑((nvB (10 : Nat) (List.take x A) + nvB (10 : Nat) (List.take x B)) / (10 : Nat) ^ x) : Int) + at' (0 : Int) A (↑x : Int))).tdiv (10 : Int))) ∧ (((↑x' : Int) = IntKind.i64.wrap ((↑x : Int) + (1 : Int))) ∧ True))))) ∧ ((A = A) ∧ ((B = B) ∧ ((digN (10 : Nat) x' (nvB (10 : Nat) A + nvB (10 : Nat) B) = digN (10 : Nat) x (nvB (10 : Nat) A + nvB (10 : Nat) B) ++ [(IntKind.i64.wrap ((↑((nvB (10 : Nat) (List.take x A) + nvB (10 : Nat) (List.take x B)) / (10 : Nat) ^ x) : Int) + at' (0 : Int) A (↑x : Int))).tmod (10 : Int)]) ∧ True))))))) | false => False)) | false => False) | false => False) | false => (match (decide ((↑x : Int) < (↑B.length : Int))) with | true => (match (inb (↑x : Int) B.length) with | true => (match (inb (↑x : Int) B.length) with | true => (match (roomy ((digN (10 : Nat) x (nvB (10 : Nat) A + nvB (10 : Nat) B)).length + (1 : Nat)) (nat_lit 8)) with | true => (∃ x' : Nat, ((x'.le (max A.length B.length + (1 : Nat))) ∧ ((max A.length B.length + (1 : Nat) - x' < max A.length B.length + (1 : Nat) - x) ∧ ((True ∧ (True ∧ (True ∧ (((↑((nvB (10 : Nat) (List.take x' A) + nvB (10 : Nat) (List.take x' B)) / (10 : Nat) ^ x') : Int) = IntKind.i64.wrap ((IntKind.i64.wrap ((↑((nvB (10 : Nat) (List.take x A) + nvB (10 : Nat) (List.take x B)) / (10 : Nat) ^ x) : Int) + at' (0 : Int) B (↑x : Int))).tdiv (10 : Int))) ∧ (((↑x' : Int) = IntKind.i64.wrap ((↑x : Int) + (1 : Int))) ∧ True))))) ∧ ((A = A) ∧ ((B = B) ∧ ((digN (10 : Nat) x' (nvB (10 : Nat) A + nvB (10 : Nat) B) = digN (10 : Nat) x (nvB (10 : Nat) A + nvB (10 : Nat) B) ++ [(IntKind.i64.wrap ((↑((nvB (10 : Nat) (List.take x A) + nvB (10 : Nat) (List.take x B)) / (10 : Nat) ^ x) : Int) + at' (0 : Int) B (↑x : Int))).tmod (10 : Int)]) ∧ True))))))) | false => False) | false => False) | false => False) | false => (match (roomy ((digN (10 : Nat) x (nvB (10 : Nat) A + nvB (10 : Nat) B)).length + (1 : Nat)) (nat_lit 8)) with | true => (∃ x' : Nat, ((x'.le (max A.length B.length + (1 : Nat))) ∧ ((max A.length B.length + (1 : Nat) - x' < max A.length B.length + (1 : Nat) - x) ∧ ((True ∧ (True ∧ (True ∧ (((↑((nvB (10 : Nat) (List.take x' A) + nvB (10 : Nat) (List.take x' B)) / (10 : Nat) ^ x') : Int) = IntKind.i64.wrap ((↑((nvB (10 : Nat) (List.take x A) + nvB (10 : Nat) (List.take x B)) / (10 : Nat) ^ x) : Int).tdiv (10 : Int))) ∧ (((↑x' : Int) = IntKind.i64.wrap ((↑x : Int) + (1 : Int))) ∧ True))))) ∧ ((A = A) ∧ ((B = B) ∧ ((digN (10 : Nat) x' (nvB (10 : Nat) A + nvB (10 : Nat) B) = digN (10 : Nat) x (nvB (10 : Nat) A + nvB (10 : Nat) B) ++ [(↑((nvB (10 : Nat) (List.take x A) + nvB (10 : Nat) (List.take x B)) / (10 : Nat) ^ x) : Int).tmod (10 : Int)]) ∧ True))))))) | false => False))) | false => (match (decide ((↑((nvB (10 : Nat) (List.take x A) + nvB (10 : Nat) (List.take x B)) / (10 : Nat) ^ x) : Int) > (0 : Int))) with | true => (match (decide ((↑x : Int) < (↑A.length : Int))) with | true => (match (inb (↑x : Int) A.length) with | true => (match (inb (↑x : Int) A.length) with | true => (match (decide ((↑x : Int) < (↑B.length : Int))) with | true => (match (inb (↑x : Int) B.length) with | true => (match (inb (↑x : Int) B.length) with | true => (match (roomy ((digN (10 : Nat) x (nvB (10 : Nat) A + nvB (10 : Nat) B)).length + (1 : Nat)) (nat_lit 8)) with | true => (∃ x' : Nat, ((x'.le (max A.length B.length + (1 : Nat))) ∧ ((max A.length B.length + (1 : Nat) - x' < max A.length B.length + (1 : Nat) - x) ∧ ((True ∧ (True ∧ (True ∧ (((↑((nvB (10 : Nat) (List.take x' A) + nvB (10 : Nat) (List.take x' B)) / (10 : Nat) ^ x') : Int) = IntKind.i64.wrap ((IntKind.i64.wrap (IntKind.i64.wrap ((↑((nvB (10 : Nat) (List.take x A) + nvB (10 : Nat) (List.take x B)) / (10 : Nat) ^ x) : Int) + at' (0 : Int) A (↑x : Int)) + at' (0 : Int) B (↑x : Int))).tdiv (10 : Int))) ∧ (((↑x' : Int) = IntKind.i64.wrap ((↑x : Int) + (1 : Int))) ∧ True))))) ∧ ((A = A) ∧ ((B = B) ∧ ((digN (10 : Nat) x' (nvB (10 : Nat) A + nvB (10 : Nat) B) = digN (10 : Nat) x (nvB (10 : Nat) A + nvB (10 : Nat) B) ++ [(IntKind.i64.wrap (IntKind.i64.wrap ((↑((nvB (10 : Nat) (List.take x A) + nvB (10 : Nat) (List.take x B)) / (10 : Nat) ^ x) : Int) + at' (0 : Int) A (↑x : Int)) + at' (0 : Int) B (↑x : Int))).tmod (10 : Int)]) ∧ True))))))) | false => False) | false => False) | false => False) | false => (match (roomy ((digN (10 : Nat) x (nvB (10 : Nat) A + nvB (10 : Nat) B)).length + (1 : Nat)) (nat_lit 8)) with | true => (∃ x' : Nat, ((x'.le (max A.length B.length + (1 : Nat))) ∧ ((max A.length B.length + (1 : Nat) - x' < max A.length B.length + (1 : Nat) - x) ∧ ((True ∧ (True ∧ (True ∧ (((↑((nvB (10 : Nat) (List.take x' A) + nvB (10 : Nat) (List.take x' B)) / (10 : Nat) ^ x') : Int) = IntKind.i64.wrap ((IntKind.i64.wrap ((↑((nvB (10 : Nat) (List.take x A) + nvB (10 : Nat) (List.take x B)) / (10 : Nat) ^ x) : Int) + at' (0 : Int) A (↑x : Int))).tdiv (10 : Int))) ∧ (((↑x' : Int) = IntKind.i64.wrap ((↑x : Int) + (1 : Int))) ∧ True))))) ∧ ((A = A) ∧ ((B = B) ∧ ((digN (10 : Nat) x' (nvB (10 : Nat) A + nvB (10 : Nat) B) = digN (10 : Nat) x (nvB (10 : Nat) A + nvB (10 : Nat) B) ++ [(IntKind.i64.wrap ((↑((nvB (10 : Nat) (List.take x A) + nvB (10 : Nat) (List.take x B)) / (10 : Nat) ^ x) : Int) + at' (0 : Int) A (↑x : Int))).tmod (10 : Int)]) ∧ True))))))) | false => False)) | false => False) | false => False) | false => (match (decide ((↑x : Int) < (↑B.length : Int))) with | true => (match (inb (↑x : Int) B.length) with | true => (match (inb (↑x : Int) B.length) with | true => (match (roomy ((digN (10 : Nat) x (nvB (10 : Nat) A + nvB (10 : Nat) B)).length + (1 : Nat)) (nat_lit 8)) with | true => (∃ x' : Nat, ((x'.le (max A.length B.length + (1 : Nat))) ∧ ((max A.length B.length + (1 : Nat) - x' < max A.length B.length + (1 : Nat) - x) ∧ ((True ∧ (True ∧ (True ∧ (((↑((nvB (10 : Nat) (List.take x' A) + nvB (10 : Nat) (List.take x' B)) / (10 : Nat) ^ x') : Int) = IntKind.i64.wrap ((IntKind.i64.wrap ((↑((nvB (10 : Nat) (List.take x A) + nvB (10 : Nat) (List.take x B)) / (10 : Nat) ^ x) : Int) + at' (0 : Int) B (↑x : Int))).tdiv (10 : Int))) ∧ (((↑x' : Int) = IntKind.i64.wrap ((↑x : Int) + (1 : Int))) ∧ True))))) ∧ ((A = A) ∧ ((B = B) ∧ ((digN (10 : Nat) x' (nvB (10 : Nat) A + nvB (10 : Nat) B) = digN (10 : Nat) x (nvB (10 : Nat) A + nvB (10 : Nat) B) ++ [(IntKind.i64.wrap ((↑((nvB (10 : Nat) (List.take x A) + nvB (10 : Nat) (List.take x B)) / (10 : Nat) ^ x) : Int) + at' (0 : Int) B (↑x : Int))).tmod (10 : Int)]) ∧ True))))))) | false => False) | false => False) | false => False) | false => (match (roomy ((digN (10 : Nat) x (nvB (10 : Nat) A + nvB (10 : Nat) B)).length + (1 : Nat)) (nat_lit 8)) with | true => (∃ x' : Nat, ((x'.le (max A.length B.length + (1 : Nat))) ∧ ((max A.length B.length + (1 : Nat) - x' < max A.length B.length + (1 : Nat) - x) ∧ ((True ∧ (True ∧ (True ∧ (((↑((nvB (10 : Nat) (List.take x' A) + nvB (10 : Nat) (List.take x' B)) / (10 : Nat) ^ x') : Int) = IntKind.i64.wrap ((↑((nvB (10 : Nat) (List.take x A) + nvB (10 : Nat) (List.take x B)) / (10 : Nat) ^ x) : Int).tdiv (10 : Int))) ∧ (((↑x' : Int) = IntKind.i64.wrap ((↑x : Int) + (1 : Int))) ∧ True))))) ∧ ((A = A) ∧ ((B = B) ∧ ((digN (10 : Nat) x' (nvB (10 : Nat) A + nvB (10 : Nat) B) = digN (10 : Nat) x (nvB (10 : Nat) A + nvB (10 : Nat) B) ++ [(↑((nvB (10 : Nat) (List.take x A) + nvB (10 : Nat) (List.take x B)) / (10 : Nat) ^ x) : Int).tmod (10 : Int)]) ∧ True))))))) | false => False))) | false => (match (decide ((digN (10 : Nat) x (nvB (10 : Nat) A + nvB (10 : Nat) B)).length ≤ (100000 : Nat))) with | true => ((True ∧ True) ∧ ((A = A) ∧ ((B = B) ∧ ((lim10 (nvB (10 : Nat) A + nvB (10 : Nat) B) = cutD (digN (10 : Nat) x (nvB (10 : Nat) A + nvB (10 : Nat) B))) ∧ True)))) | false => False)))))))
theorem decAddVc (A B : List Int) : fnX X11 (oneLoop 4 { σ := Nat, st := fun S x => (((S.keep [0, 1]).int 6 ((nvB 10 (A.take x) + nvB 10 (B.take x)) / 10 ^ x : Nat)).int 7 x).new 5 (.vec 0 (digN 10 x (nvB 10 A + nvB 10 B)) 3), inv := fun _ x => x ≤ max A.length B.length + 1, m := fun x => max A.length B.length + 1 - x }) Try.f77 [.own 0, .own 1] [.ro 0 A, .ro 0 B] (ends [.ro 0 A, .ro 0 B] ⟨some (.own 2), [(2, some (.ro 0 (lim10 (nvB 10 A + nvB 10 B))))]⟩) = decAddText A B := by kernel_rfl
theorem decAddHolds (A B : List Int) (hp : isD A ∧ isD B ∧ A.length ≤ 50000 ∧ B.length ≤ 50000) : decAddText A B := by
  unfold decAddText
  obtain ⟨ha, hb, la, lb⟩ := hp
  have hS : nvB 10 A + nvB 10 B < 10 ^ (max A.length B.length + 1) := by
    have h1 := Nat.lt_of_lt_of_le (isD_lt ha) (Nat.pow_le_pow_right (show 0 < 10 by decide) (Nat.le_max_left A.length B.length))
    have h2 := Nat.lt_of_lt_of_le (isD_lt hb) (Nat.pow_le_pow_right (show 0 < 10 by decide) (Nat.le_max_right A.length B.length))
    rw [Nat.pow_succ]
    omega
  have hN : max A.length B.length + 1 ≤ 50001 := by omega
  have hNA : A.length ≤ max A.length B.length := Nat.le_max_left ..
  have hNB : B.length ≤ max A.length B.length := Nat.le_max_right ..
  have hNx : max A.length B.length ≤ A.length ∨ max A.length B.length ≤ B.length := by omega
  have e0 : (((nvB 10 (A.take 0) + nvB 10 (B.take 0)) / 10 ^ 0 : Nat) : Int) = 0 := by simp [nvB]
  have e00 : digN 10 0 (nvB 10 A + nvB 10 B) = [] := rfl
  generalize max A.length B.length = N at hN hS hNA hNB hNx ⊢
  refine ⟨⟨0, Nat.zero_le _, by repeat' first | exact e0 | exact e00 | trivial | rfl | apply And.intro⟩, ?_⟩
  intro x hx
  have hx : x ≤ N + 1 := hx
  have hl : (digN 10 x (nvB 10 A + nvB 10 B)).length = x := digN_length ..
  have hroom : roomy ((digN 10 x (nvB 10 A + nvB 10 B)).length + 1) 8 = true := room8' _ (by omega)
  have hwx : x ≤ N → ((x + 1 : Nat) : Int) = IntKind.i64.wrap ((x : Int) + 1) := fun h => by rw [wrap_id (by omega) (by omega)]; omega
  obtain ⟨c1, c2⟩ := carry_step (k := x) ten_gt (nvB 10 (A.take x)) (gd A x) (nvB 10 (A.drop (x + 1))) (nvB 10 (B.take x)) (gd B x) (nvB 10 (B.drop (x + 1)))
  rw [← nvB_at, ← nvB_at] at c1
  rw [← nvB_take_succ, ← nvB_take_succ] at c2
  have g1 : gd A x < 10 := gd_ok (by decide) ha.ok x
  have g2 : gd B x < 10 := gd_ok (by decide) hb.ok x
  have g3 : (nvB 10 (A.take x) + nvB 10 (B.take x)) / 10 ^ x < 2 := by
    rw [Nat.div_lt_iff_lt_mul (Nat.pow_pos (by decide))]
    have h1 := nvB_take_lt ten_gt ha.ok x
    have h2 := nvB_take_lt ten_gt hb.ok x
    omega
  have g4 : N < x → (nvB 10 (A.take x) + nvB 10 (B.take x)) / 10 ^ x = 0 := fun h => by
    obtain rfl : x = N + 1 := by omega
    rw [List.take_of_length_le (by omega), List.take_of_length_le (by omega)]
    exact Nat.div_eq_of_lt hS
  have g5 : A.length ≤ x → B.length ≤ x → (nvB 10 (A.take x) + nvB 10 (B.take x)) / 10 ^ x = 0 → nvB 10 A + nvB 10 B < 10 ^ x := fun p q h => by
    rw [List.take_of_length_le p, List.take_of_length_le q] at h
    exact (Nat.div_eq_zero_iff_lt (Nat.pow_pos (by decide))).1 h
  generalize (nvB 10 (A.take x) + nvB 10 (B.take x)) / 10 ^ x = c at c1 c2 g3 g4 g5 ⊢
  have step : ∀ (E : Int), x ≤ N → E = ((gd A x + gd B x + c : Nat) : Int) → (((nvB 10 (A.take (x + 1)) + nvB 10 (B.take (x + 1))) / 10 ^ (x + 1) : Nat) : Int) = IntKind.i64.wrap (E.tdiv 10) ∧ digN 10 (x + 1) (nvB 10 A + nvB 10 B) = digN 10 x (nvB 10 A + nvB 10 B) ++ [E.tmod 10] := fun E hxN hE => by
    rw [hE, c2, digN_succ, c1]
    refine ⟨?_, rfl⟩
    rw [show ((gd A x + gd B x + c : Nat) : Int).tdiv 10 = (((gd A x + gd B x + c) / 10 : Nat) : Int) from rfl, wrap_id (by omega) (by omega)]
  have eA : x < A.length → at' 0 A (x : Int) = (gd A x : Int) := fun ka => by
    rw [gd_lt ka, at_nat ka]
    have := ha.ok _ (List.getElem_mem ka)
    omega
  have eB : x < B.length → at' 0 B (x : Int) = (gd B x : Int) := fun ka => by
    rw [gd_lt ka, at_nat ka]
    have := hb.ok _ (List.getElem_mem ka)
    omega
  have zA : A.length ≤ x → gd A x = 0 := gd_ge
  have zB : B.length ≤ x → gd B x = 0 := gd_ge
  by_cases ka : x < A.length <;> by_cases kb : x < B.length
  · obtain ⟨s1, s2⟩ := step (IntKind.i64.wrap (IntKind.i64.wrap ((c : Int) + (gd A x : Int)) + (gd B x : Int))) (by omega) (by rw [wrap_id (n := (c : Int) + (gd A x : Int)) (by omega) (by omega), wrap_id (by omega) (by omega)]; omega)
    have s3 := hwx (by omega)
    rw [dec_lt ka, dec_lt kb, inb_nat ka, inb_nat kb, hroom, eA ka, eB kb]
    refine ⟨x + 1, (show x + 1 ≤ N + 1 by omega), by omega, ?_⟩
    repeat' first | exact s1 | exact s2 | exact s3 | trivial | rfl | apply And.intro
  · obtain ⟨s1, s2⟩ := step (IntKind.i64.wrap ((c : Int) + (gd A x : Int))) (by omega) (by rw [zB (by omega), wrap_id (by omega) (by omega)]; omega)
    have s3 := hwx (by omega)
    rw [dec_lt ka, dec_ge (by omega : B.length ≤ x), inb_nat ka, hroom, eA ka]
    refine ⟨x + 1, (show x + 1 ≤ N + 1 by omega), by omega, ?_⟩
    repeat' first | exact s1 | exact s2 | exact s3 | trivial | rfl | apply And.intro
  · obtain ⟨s1, s2⟩ := step (IntKind.i64.wrap ((c : Int) + (gd B x : Int))) (by omega) (by rw [zA (by omega), wrap_id (by omega) (by omega)]; omega)
    have s3 := hwx (by omega)
    rw [dec_lt kb, dec_ge (by omega : A.length ≤ x), inb_nat kb, hroom, eB kb]
    refine ⟨x + 1, (show x + 1 ≤ N + 1 by omega), by omega, ?_⟩
    repeat' first | exact s1 | exact s2 | exact s3 | trivial | rfl | apply And.intro
  · rw [dec_ge (by omega : A.length ≤ x), dec_ge (by omega : B.length ≤ x)]
    by_cases kc : 0 < c
    · have hxN : x ≤ N := by
        rcases Nat.lt_or_ge N x with h | h
        · have := g4 h
          omega
        · exact h
      obtain ⟨s1, s2⟩ := step (c : Int) hxN (by rw [zA (by omega), zB (by omega)]; omega)
      have s3 := hwx hxN
      rw [show decide ((c : Int) > 0) = true from decide_eq_true (by omega), hroom]
      refine ⟨x + 1, (show x + 1 ≤ N + 1 by omega), by omega, ?_⟩
      repeat' first | exact s1 | exact s2 | exact s3 | trivial | rfl | apply And.intro
    · rw [show decide ((c : Int) > 0) = false from decide_eq_false (by omega), hl, decide_eq_true (show x ≤ 100000 by omega)]
      have e : lim10 (nvB 10 A + nvB 10 B) = cutD (digN 10 x (nvB 10 A + nvB 10 B)) := (cutD_digN ten_gt (g5 (by omega) (by omega) (by omega))).symm
      repeat' first | exact e | trivial | rfl | apply And.intro
noncomputable def decAddBCon : Con T O := fun args cs => match args, cs with
  | [.own 0, .own 1], [.ro 0 A, .ro 0 B] => chk (decide (isD A ∧ isD B ∧ A.length ≤ 50000 ∧ B.length ≤ 50000)) (.ret ⟨some (.own 2), [(2, some (.ro 0 (lim10 (nvB 10 A + nvB 10 B))))]⟩)
  | _, _ => .fail
theorem decAddBOk : ConOk R Try.prog 77 decAddBCon := con_of_fn R (X11) (TabOk.con R X11Ok) mixed Try.call77 Try.func77 decAddBCon (by
  intro args cs K h
  unfold decAddBCon at h
  split at h
  · rename_i A B
    rw [Tree.holds_chk] at h
    obtain ⟨hp, h⟩ := h
    refine ⟨oneLoop 4 { σ := Nat, st := fun S x => (((S.keep [0, 1]).int 6 ((nvB 10 (A.take x) + nvB 10 (B.take x)) / 10 ^ x : Nat)).int 7 x).new 5 (.vec 0 (digN 10 x (nvB 10 A + nvB 10 B)) 3), inv := fun _ x => x ≤ max A.length B.length + 1, m := fun x => max A.length B.length + 1 - x }, _, fun v S hv => ⟨_, h, hv⟩, ?_⟩
    rw [decAddVc A B]
    exact decAddHolds A B (of_decide_eq_true hp)
  · exact h.elim)
noncomputable def decAddCon : Con T O := relax 0 decAddBCon
theorem decAddOk : ConOk R Try.prog 77 decAddCon := relax_ok R 0 decAddBOk
/-! ### regatta/regattaref02.times -/
def decTimesText (A : List Int) (k : Int) : Prop := ((∃ x : Nat, ((x.le (A.length + (10 : Nat))) ∧ ((True ∧ ((k = k) ∧ (True ∧ (((↑(k.toNat * nvB (10 : Nat) (List.take x A) / (10 : Nat) ^ x) : Int) = (0 : Int)) ∧ (((↑x : Int) = (0 : Int)) ∧ True))))) ∧ ((A = A) ∧ ((digN (10 : Nat) x (k.toNat * nvB (10 : Nat) A) = []) ∧ True))))) ∧ (∀ x : Nat, ((x.le (A.length + (10 : Nat))) → (match (decide ((↑x : Int) < (↑A.length : Int))) with | true => (match (decide ((↑x : Int) < (↑A.length : Int))) with | true => (match (inb (↑x : Int) A.length) with | true => (match (inb (↑x : Int) A.length) with | true => (match (roomy ((digN (10 : Nat) x (k.toNat * nvB (10 : Nat) A)).length + (1 : Nat)) (nat_lit 8)) with | true => (∃ x' : Nat, ((x'.le (A.length + (10 : Nat))) ∧ ((A.length + (10 : Nat) - x' < A.length + (10 : Nat) - x) ∧ ((True ∧ ((k = k) ∧ (True ∧ (((↑(k.toNat * nvB (10 : Nat) (List.take x' A) / (10 : Nat) ^ x') : Int) = IntKind.i64.wrap ((IntKind.i64.wrap ((↑(k.toNat * nvB (10 : Nat) (List.take x A) / (10 : Nat) ^ x) : Int) + IntKind.i64.wrap (at' (0 : Int) A (↑x : Int) * k))).tdiv (10 : Int))) ∧ (((↑x' : Int) = IntKind.i64.wrap ((↑x : Int) + (1 : Int))) ∧ True))))) ∧ ((A = A) ∧ ((digN (10 : Nat) x' (k.toNat * nvB (10 : Nat) A) = digN (10 : Nat) x (k.toNat * nvB (10 : Nat) A) ++ [(IntKind.i64.wrap ((↑(k.toNat * nvB (10 : Nat) (List.take x A) / (10 : Nat) ^ x) : Int) + IntKind.i64.wrap (at' (0 : Int) A (↑x : Int) * k))).tmod (10 : Int)]) ∧ True)))))) | false => False) | false => False) | false => False) | false => (match (roomy ((digN (10 : Nat) x (k.toNat * nvB (10 : Nat) A)).length + (1 : Nat)) (nat_lit 8)) with | true => (∃ x' : Nat, ((x'.le (A.length + (10 : Nat))) ∧ ((A.length + (10 : Nat) - x' < A.length + (10 : Nat) - x) ∧ ((True ∧ ((k = k) ∧ (True ∧ (((↑(k.toNat * nvB (10 : Nat) (List.take x' A) / (10 : Nat) ^ x') : Int) = IntKind.i64.wrap ((↑(k.toNat * nvB (10 : Nat) (List.take x A) / (10 : Nat) ^ x) : Int).tdiv (10 : Int))) ∧ (((↑x' : Int) = IntKind.i64.wrap ((↑x : Int) + (1 : Int))) ∧ True))))) ∧ ((A = A) ∧ ((digN (10 : Nat) x' (k.toNat * nvB (10 : Nat) A) = digN (10 : Nat) x (k.toNat * nvB (10 : Nat) A) ++ [(↑(k.toNat * nvB (10 : Nat) (List.take x A) / (10 : Nat) ^ x) : Int).tmod (10 : Int)]) ∧ True)))))) | false => False)) | false => (match (decide ((↑(k.toNat * nvB (10 : Nat) (List.take x A) / (10 : Nat) ^ x) : Int) > (0 : Int))) with | true => (match (decide ((↑x : Int) < (↑A.length : Int))) with | true => (match (inb (↑x : Int) A.length) with | true => (match (inb (↑x : Int) A.length) with | true => (match (roomy ((digN (10 : Nat) x (k.toNat * nvB (10 : Nat) A)).length + (1 : Nat)) (nat_lit 8)) with | true => (∃ x' : Nat, ((x'.le (A.length + (10 : Nat))) ∧ ((A.length + (10 : Nat) - x' < A.length + (10 : Nat) - x) ∧ ((True ∧ ((k = k) ∧ (True ∧ (((↑(k.toNat * nvB (10 : Nat) (List.take x' A) / (10 : Nat) ^ x') : Int) = IntKind.i64.wrap ((IntKind.i64.wrap ((↑(k.toNat * nvB (10 : Nat) (List.take x A) / (10 : Nat) ^ x) : Int) + IntKind.i64.wrap (at' (0 : Int) A (↑x : Int) * k))).tdiv (10 : Int))) ∧ (((↑x' : Int) = IntKind.i64.wrap ((↑x : Int) + (1 : Int))) ∧ True))))) ∧ ((A = A) ∧ ((digN (10 : Nat) x' (k.toNat * nvB (10 : Nat) A) = digN (10 : Nat) x (k.toNat * nvB (10 : Nat) A) ++ [(IntKind.i64.wrap ((↑(k.toNat * nvB (10 : Nat) (List.take x A) / (10 : Nat) ^ x) : Int) + IntKind.i64.wrap (at' (0 : Int) A (↑x : Int) * k))).tmod (10 : Int)]) ∧ True)))))) | false => False) | false => False) | false => False) | false => (match (roomy ((digN (10 : Nat) x (k.toNat * nvB (10 : Nat) A)).length + (1 : Nat)) (nat_lit 8)) with | true => (∃ x' : Nat, ((x'.le (A.length + (10 : Nat))) ∧ ((A.length + (10 : Nat) - x' < A.length + (10 : Nat) - x) ∧ ((True ∧ ((k = k) ∧ (True ∧ (((↑(k.toNat * nvB (10 : Nat) (List.take x' A) / (10 : Nat) ^ x') : Int) = IntKind.i64.wrap ((↑(k.toNat * nvB (10 : Nat) (List.take x A) / (10 : Nat) ^ x) : Int).tdiv (10 : Int))) ∧ (((↑x' : Int) = IntKind.i64.wrap ((↑x : Int) + (1 : Int))) ∧ True))))) ∧ ((A = A) ∧ ((digN (10 : Nat) x' (k.toNat * nvB (10 : Nat) A) = digN (10 : Nat) x (k.toNat * nvB (10 : Nat) A) ++ [(↑(k.toNat * nvB (10 : Nat) (List.take x A) / (10 : Nat) ^ x) : Int).tmod (10 : Int)]) ∧ True)))))) | false => False)) | false => (match (decide ((digN (10 : Nat) x (k.toNat * nvB (10 : Nat) A)).length ≤ (100000 : Nat))) with | true => ((True ∧ True) ∧ ((A = A) ∧ ((lim10 (k.toNat * nvB (10 : Nat) A) = cutD (digN (10 : Nat) x (k.toNat * nvB (10 : Nat) A))) ∧ True))) | false => False))))))
theorem decTimesVc (A : List Int) (k : Int) : fnX X11 (oneLoop 4 { σ := Nat, st := fun S x => (((S.keep [0, 1]).int 6 (k.toNat * nvB 10 (A.take x) / 10 ^ x : Nat)).int 7 x).new 5 (.vec 0 (digN 10 x (k.toNat * nvB 10 A)) 3), inv := fun _ x => x ≤ A.length + 10, m := fun x => A.length + 10 - x }) Try.f95 [.own 0, .raw (.int .i64 k)] [.ro 0 A] (ends [.ro 0 A] ⟨some (.own 1), [(1, some (.ro 0 (lim10 (k.toNat * nvB 10 A))))]⟩) = decTimesText A k := by kernel_rfl
theorem decTimesHolds (A : List Int) (k : Int) (hp : isD A ∧ A.length ≤ 50000 ∧ 0 ≤ k ∧ k ≤ 4294967296) : decTimesText A k := by
  unfold decTimesText
  obtain ⟨ha, la, hk0, hk1⟩ := hp
  obtain ⟨K, rfl⟩ := Int.eq_ofNat_of_zero_le hk0
  rw [Int.toNat_natCast]
  have e0 : ((K * nvB 10 (A.take 0) / 10 ^ 0 : Nat) : Int) = 0 := by simp [nvB]
  have e00 : digN 10 0 (K * nvB 10 A) = [] := rfl
  refine ⟨⟨0, Nat.zero_le _, by repeat' first | exact e0 | exact e00 | trivial | rfl | apply And.intro⟩, ?_⟩
  intro x hx
  have hx : x ≤ A.length + 10 := hx
  have hl : (digN 10 x (K * nvB 10 A)).length = x := digN_length ..
  have hroom : roomy ((digN 10 x (K * nvB 10 A)).length + 1) 8 = true := room8' _ (by omega)
  have hwx : ((x + 1 : Nat) : Int) = IntKind.i64.wrap ((x : Int) + 1) := by rw [wrap_id (by omega) (by omega)]; omega
  obtain ⟨c1, c2⟩ := times_step ten_gt A K x
  have g1 : gd A x < 10 := gd_ok (by decide) ha.ok x
  have g3 : K * nvB 10 (A.take x) / 10 ^ x ≤ K := by
    refine Nat.div_le_of_le_mul ?_
    rw [Nat.mul_comm]
    exact Nat.mul_le_mul_right _ (Nat.le_of_lt (nvB_take_lt ten_gt ha.ok x))
  have g4 : x = A.length + 10 → K * nvB 10 (A.take x) / 10 ^ x = 0 := fun h => by
    rw [List.take_of_length_le (by omega), h]
    refine Nat.div_eq_of_lt ?_
    have h1 := isD_lt ha
    have h2 : K * nvB 10 A ≤ 4294967296 * nvB 10 A := Nat.mul_le_mul_right _ (by omega)
    rw [Nat.pow_add]
    have h3 : 10 ^ A.length * 4294967296 ≤ 10 ^ A.length * 10 ^ 10 := Nat.mul_le_mul_left _ (by decide)
    omega
  have g5 : A.length ≤ x → K * nvB 10 (A.take x) / 10 ^ x = 0 → K * nvB 10 A < 10 ^ x := fun p h => by
    rw [List.take_of_length_le p] at h
    exact (Nat.div_eq_zero_iff_lt (Nat.pow_pos (by decide))).1 h
  have g6 : K * gd A x ≤ 4294967296 * 9 := Nat.mul_le_mul (by omega) (by omega)
  have eA : x < A.length → IntKind.i64.wrap (at' 0 A (x : Int) * (K : Int)) = ((K * gd A x : Nat) : Int) := fun ka => by
    have e : at' 0 A (x : Int) = (gd A x : Int) := by
      rw [gd_lt ka, at_nat ka]
      have := ha.ok _ (List.getElem_mem ka)
      omega
    rw [e, ← Int.natCast_mul, Nat.mul_comm, wrap_id (by omega) (by omega)]
  have zA : A.length ≤ x → K * gd A x = 0 := fun h => by rw [gd_ge h, Nat.mul_zero]
  generalize K * gd A x = p at c1 c2 g6 eA zA
  generalize K * nvB 10 (A.take x) / 10 ^ x = c at c1 c2 g3 g4 g5 ⊢
  have step : ∀ (E : Int), E = ((p + c : Nat) : Int) → ((K * nvB 10 (A.take (x + 1)) / 10 ^ (x + 1) : Nat) : Int) = IntKind.i64.wrap (E.tdiv 10) ∧ digN 10 (x + 1) (K * nvB 10 A) = digN 10 x (K * nvB 10 A) ++ [E.tmod 10] := fun E hE => by
    rw [hE, c2, digN_succ, c1]
    refine ⟨?_, rfl⟩
    rw [show ((p + c : Nat) : Int).tdiv 10 = (((p + c) / 10 : Nat) : Int) from rfl, wrap_id (by omega) (by omega)]
  by_cases ka : x < A.length
  · obtain ⟨s1, s2⟩ := step (IntKind.i64.wrap ((c : Int) + (p : Int))) (by rw [wrap_id (by omega) (by omega)]; omega)
    rw [dec_lt ka, inb_nat ka, hroom, eA ka]
    refine ⟨x + 1, (show x + 1 ≤ A.length + 10 by omega), by omega, ?_⟩
    repeat' first | exact s1 | exact s2 | exact hwx | trivial | rfl | apply And.intro
  · rw [dec_ge (by omega : A.length ≤ x)]
    by_cases kc : 0 < c
    · have hxN : x < A.length + 10 := by
        rcases Nat.lt_or_ge x (A.length + 10) with h | h
        · exact h
        · have := g4 (by omega)
          omega
      obtain ⟨s1, s2⟩ := step (c : Int) (by rw [zA (by omega)]; omega)
      rw [show decide ((c : Int) > 0) = true from decide_eq_true (by omega), hroom]
      refine ⟨x + 1, (show x + 1 ≤ A.length + 10 by omega), by omega, ?_⟩
      repeat' first | exact s1 | exact s2 | exact hwx | trivial | rfl | apply And.intro
    · rw [show decide ((c : Int) > 0) = false from decide_eq_false (by omega), hl, decide_eq_true (show x ≤ 100000 by omega)]
      have e : lim10 (K * nvB 10 A) = cutD (digN 10 x (K * nvB 10 A)) := (cutD_digN ten_gt (g5 (by omega) (by omega))).symm
      repeat' first | exact e | trivial | rfl | apply And.intro
noncomputable def decTimesBCon : Con T O := fun args cs => match args, cs with
  | [.own 0, .raw (.int .i64 k)], [.ro 0 A] => chk (decide (isD A ∧ A.length ≤ 50000 ∧ 0 ≤ k ∧ k ≤ 4294967296)) (.ret ⟨some (.own 1), [(1, some (.ro 0 (lim10 (k.toNat * nvB 10 A))))]⟩)
  | _, _ => .fail
theorem decTimesBOk : ConOk R Try.prog 95 decTimesBCon := con_of_fn R (X11) (TabOk.con R X11Ok) mixed Try.call95 Try.func95 decTimesBCon (by
  intro args cs K h
  unfold decTimesBCon at h
  split at h
  · rename_i k A
    rw [Tree.holds_chk] at h
    obtain ⟨hp, h⟩ := h
    refine ⟨oneLoop 4 { σ := Nat, st := fun S x => (((S.keep [0, 1]).int 6 (k.toNat * nvB 10 (A.take x) / 10 ^ x : Nat)).int 7 x).new 5 (.vec 0 (digN 10 x (k.toNat * nvB 10 A)) 3), inv := fun _ x => x ≤ A.length + 10, m := fun x => A.length + 10 - x }, _, fun v S hv => ⟨_, h, hv⟩, ?_⟩
    rw [decTimesVc A k]
    exact decTimesHolds A k (of_decide_eq_true hp)
  · exact h.elim)
noncomputable def decTimesCon : Con T O := relax 0 decTimesBCon
theorem decTimesOk : ConOk R Try.prog 95 decTimesCon := relax_ok R 0 decTimesBOk
/-! ### regatta/regattaref02.div -/
def decDivText (A : List Int) (k : Int) : Prop := (match (decide ((0 : Int) ≤ (↑A.length : Int)) && decide ((↑A.length : Int) = (↑A.length : Int)) && roomy (↑A.length : Int).toNat (nat_lit 8)) with | true => ((∃ x : Nat, ((x.le A.length) ∧ ((True ∧ ((k = k) ∧ (True ∧ (((↑(nvB (10 : Nat) (List.drop x A) % k.toNat) : Int) = (0 : Int)) ∧ (((↑x : Int) - (1 : Int) = IntKind.i64.wrap ((↑A.length : Int) - (1 : Int))) ∧ True))))) ∧ ((A = A) ∧ ((List.replicate x (0 : Int) ++ digN (10 : Nat) (A.length - x) (nvB (10 : Nat) (List.drop x A) / k.toNat) = List.replicate (↑A.length : Int).toNat (0 : Int)) ∧ True))))) ∧ (∀ x : Nat, ((x.le A.length) → (match (decide ((↑x : Int) - (1 : Int) ≥ (0 : Int))) with | true => (match (inb ((↑x : Int) - (1 : Int)) A.length) with | true => (match (inb ((↑x : Int) - (1 : Int)) A.length) with | true => (match (k != (0 : Int)) with | true => (match (inb ((↑x : Int) - (1 : Int)) (List.replicate x (0 : Int) ++ digN (10 : Nat) (A.length - x) (nvB (10 : Nat) (List.drop x A) / k.toNat)).length) with | true => (match (inb ((↑x : Int) - (1 : Int)) (List.replicate x (0 : Int) ++ digN (10 : Nat) (A.length - x) (nvB (10 : Nat) (List.drop x A) / k.toNat)).length) with | true => (match (k != (0 : Int)) with | true => (∃ x' : Nat, ((x'.le A.length) ∧ ((x' < x) ∧ ((True ∧ ((k = k) ∧ (True ∧ (((↑(nvB (10 : Nat) (List.drop x' A) % k.toNat) : Int) = (IntKind.i64.wrap (IntKind.i64.wrap ((↑(nvB (10 : Nat) (List.drop x A) % k.toNat) : Int) * (10 : Int)) + at' (0 : Int) A ((↑x : Int) - (1 : Int)))).tmod k) ∧ (((↑x' : Int) - (1 : Int) = IntKind.i64.wrap ((↑x : Int) - (1 : Int) - (1 : Int))) ∧ True))))) ∧ ((A = A) ∧ ((List.replicate x' (0 : Int) ++ digN (10 : Nat) (A.length - x') (nvB (10 : Nat) (List.drop x' A) / k.toNat) = (List.replicate x (0 : Int) ++ digN (10 : Nat) (A.length - x) (nvB (10 : Nat) (List.drop x A) / k.toNat)).set ((↑x : Int) - (1 : Int)).toNat (IntKind.i64.wrap ((IntKind.i64.wrap (IntKind.i64.wrap ((↑(nvB (10 : Nat) (List.drop x A) % k.toNat) : Int) * (10 : Int)) + at' (0 : Int) A ((↑x : Int) - (1 : Int)))).tdiv k))) ∧ True)))))) | false => False) | false => False) | false => False) | false => False) | false => False) | false => False) | false => (match (decide ((List.replicate x (0 : Int) ++ digN (10 : Nat) (A.length - x) (nvB (10 : Nat) (List.drop x A) / k.toNat)).length ≤ (100000 : Nat))) with | true => (((True ∧ (((↑(nvB (10 : Nat) A % k.toNat) : Int) = (↑(nvB (10 : Nat) (List.drop x A) % k.toNat) : Int)) ∧ True)) ∧ True) ∧ ((A = A) ∧ ((lim10 (nvB (10 : Nat) A / k.toNat) = cutD (List.replicate x (0 : Int) ++ digN (10 : Nat) (A.length - x) (nvB (10 : Nat) (List.drop x A) / k.toNat))) ∧ True))) | false => False))))) | false => False)
theorem decDivVc (A : List Int) (k : Int) : fnX X11 (oneLoop 4 { σ := Nat, st := fun S x => (((S.keep [0, 1, 6]).int 8 ((x : Int) - 1)).int 7 (nvB 10 (A.drop x) % k.toNat : Nat)).at' 6 (.vec 0 (List.replicate x 0 ++ digN 10 (A.length - x) (nvB 10 (A.drop x) / k.toNat)) 3), inv := fun _ x => x ≤ A.length, m := fun x => x }) Try.f97 [.own 0, .raw (.int .i64 k)] [.ro 0 A] (ends [.ro 0 A] ⟨some (.tup [.own 1, .raw (.int .i64 (nvB 10 A % k.toNat : Nat))]), [(1, some (.ro 0 (lim10 (nvB 10 A / k.toNat))))]⟩) = decDivText A k := by kernel_rfl
theorem decDivHolds (A : List Int) (k : Int) (hp : isD A ∧ A.length ≤ 50000 ∧ 1 ≤ k ∧ k ≤ 4294967296) : decDivText A k := by
  unfold decDivText
  obtain ⟨ha, la, hk0, hk1⟩ := hp
  obtain ⟨K, rfl⟩ := Int.eq_ofNat_of_zero_le (show 0 ≤ k by omega)
  rw [Int.toNat_natCast, show (decide (0 ≤ (A.length : Int)) && decide ((A.length : Int) = (A.length : Int)) && roomy A.length 8) = true by simp [roomy]; omega, show ((K : Int)).toNat = K from Int.toNat_natCast K]
  have hK : 0 < K := by omega
  have e1 : ((nvB 10 (A.drop A.length) % K : Nat) : Int) = 0 := by rw [List.drop_of_length_le (Nat.le_refl _)]; simp [nvB]
  have e2 : ((A.length : Nat) : Int) - 1 = IntKind.i64.wrap ((A.length : Int) - 1) := by rw [wrap_id (by omega) (by omega)]
  have e3 : List.replicate A.length 0 ++ digN 10 (A.length - A.length) (nvB 10 (A.drop A.length) / K) = List.replicate A.length 0 := by rw [Nat.sub_self]; exact List.append_nil _
  refine ⟨⟨A.length, Nat.le_refl _, by repeat' first | exact e1 | exact e2 | exact e3 | trivial | rfl | apply And.intro⟩, ?_⟩
  intro x hx
  have hx : x ≤ A.length := hx
  have hl : (List.replicate x 0 ++ digN 10 (A.length - x) (nvB 10 (A.drop x) / K)).length = A.length := by rw [List.length_append, List.length_replicate, digN_length]; omega
  rw [hl]
  cases x with
  | zero =>
    rw [show decide (((0 : Nat) : Int) - 1 ≥ 0) = false from rfl, decide_eq_true (show A.length ≤ 100000 by omega)]
    have e : lim10 (nvB 10 A / K) = cutD (List.replicate 0 0 ++ digN 10 (A.length - 0) (nvB 10 (A.drop 0) / K)) := by
      show _ = cutD (digN 10 A.length (nvB 10 A / K))
      exact (cutD_digN ten_gt (Nat.lt_of_le_of_lt (Nat.div_le_self _ _) (isD_lt ha))).symm
    repeat' first | exact e | trivial | rfl | apply And.intro
  | succ i =>
    have hi : i < A.length := by omega
    have hd : at' 0 A (i : Int) = (gd A i : Int) := by
      rw [gd_lt hi, at_nat hi]
      have := ha.ok _ (List.getElem_mem hi)
      omega
    have g1 : gd A i < 10 := gd_ok (by decide) ha.ok i
    have hv := nvB_drop_at (β := 10) A i
    rw [show ((i + 1 : Nat) : Int) - 1 = (i : Int) by omega, show decide ((i : Int) ≥ 0) = true from decide_eq_true (by omega), inb_nat hi, hd, show ((K : Int) != 0) = true by rw [bne_iff_ne]; omega]
    generalize nvB 10 (A.drop (i + 1)) = v at hv ⊢
    generalize gd A i = d at g1 hv ⊢
    have hr := Nat.mod_lt v hK
    obtain ⟨h1, h2, h3⟩ := horner v d hK g1
    rw [show (v % K : Nat) * (10 : Int) = ((v % K * 10 : Nat) : Int) by omega, wrap_id (n := ((v % K * 10 : Nat) : Int)) (by omega) (by omega), show ((v % K * 10 : Nat) : Int) + (d : Int) = ((v % K * 10 + d : Nat) : Int) by omega, wrap_id (n := ((v % K * 10 + d : Nat) : Int)) (by omega) (by omega)]
    rw [show ((v % K * 10 + d : Nat) : Int).tmod (K : Int) = (((v % K * 10 + d) % K : Nat) : Int) from rfl, show ((v % K * 10 + d : Nat) : Int).tdiv (K : Int) = (((v % K * 10 + d) / K : Nat) : Int) from rfl]
    generalize (v % K * 10 + d) / K = t at h2 h3 ⊢
    rw [wrap_id (n := (t : Int)) (by omega) (by omega)]
    have s1 : ((nvB 10 (A.drop i) % K : Nat) : Int) = (((v % K * 10 + d) % K : Nat) : Int) := by rw [hv, h1]
    have s2 : ((i : Nat) : Int) - 1 = IntKind.i64.wrap ((i : Int) - 1) := by rw [wrap_id (by omega) (by omega)]
    have s3 : List.replicate i 0 ++ digN 10 (A.length - i) (nvB 10 (A.drop i) / K) = (List.replicate (i + 1) 0 ++ digN 10 (A.length - (i + 1)) (v / K)).set ((i : Int)).toNat (t : Int) := by
      rw [hv, h2, show A.length - i = A.length - (i + 1) + 1 by omega, digN_cons ten_gt h3, Int.toNat_natCast, List.replicate_succ', List.append_assoc, List.set_append_right _ _ (by rw [List.length_replicate]; omega), List.length_replicate, Nat.sub_self]
      rfl
    refine ⟨i, (show i ≤ A.length by omega), by omega, ?_⟩
    repeat' first | exact s1 | exact s2 | exact s3 | trivial | rfl | apply And.intro
noncomputable def decDivBCon : Con T O := fun args cs => match args, cs with
  | [.own 0, .raw (.int .i64 k)], [.ro 0 A] => chk (decide (isD A ∧ A.length ≤ 50000 ∧ 1 ≤ k ∧ k ≤ 4294967296)) (.ret ⟨some (.tup [.own 1, .raw (.int .i64 (nvB 10 A % k.toNat : Nat))]), [(1, some (.ro 0 (lim10 (nvB 10 A / k.toNat))))]⟩)
  | _, _ => .fail
theorem decDivBOk : ConOk R Try.prog 97 decDivBCon := con_of_fn R (X11) (TabOk.con R X11Ok) mixed Try.call97 Try.func97 decDivBCon (by
  intro args cs K h
  unfold decDivBCon at h
  split at h
  · rename_i k A
    rw [Tree.holds_chk] at h
    obtain ⟨hp, h⟩ := h
    refine ⟨oneLoop 4 { σ := Nat, st := fun S x => (((S.keep [0, 1, 6]).int 8 ((x : Int) - 1)).int 7 (nvB 10 (A.drop x) % k.toNat : Nat)).at' 6 (.vec 0 (List.replicate x 0 ++ digN 10 (A.length - x) (nvB 10 (A.drop x) / k.toNat)) 3), inv := fun _ x => x ≤ A.length, m := fun x => x }, _, fun v S hv => ⟨_, h, hv⟩, ?_⟩
    rw [decDivVc A k]
    exact decDivHolds A k (of_decide_eq_true hp)
  · exact h.elim)
noncomputable def decDivCon : Con T O := relax 0 decDivBCon
theorem decDivOk : ConOk R Try.prog 97 decDivCon := relax_ok R 0 decDivBOk
noncomputable def tab12 : Tab T O := (77, decAddCon) :: (95, decTimesCon) :: (97, decDivCon) :: tab11
theorem tabOk12 : TabOk R Try.prog tab12 := TabOk.cons R decAddOk <| TabOk.cons R decTimesOk <| TabOk.cons R decDivOk <| tabOk11
noncomputable def X12 : Ctx T O := { X0 with con := conOf tab12 }
theorem X12Ok : TabOk R X12.P tab12 := tabOk12
end Go.Proofs.Ytmnnjclnldaejaa
