/-
  Part of a proof over the seat Ytmnnjclnldaejaa: printed by a small program or typed by hand.
-/
import Derived.Test.YtmnnjclnldaejaaJSurS28
import Derived.KernelRfl
namespace Go.Proofs.Ytmnnjclnldaejaa
open Go.Sx Go.Proofs Classical
noncomputable def symJConN (nrec : Nat) : Con T O := fun args cs => match args, cs with
  | [.own 0, .raw (.int .i64 a), .raw (.int .i64 m), .raw (.int .i64 b), .fn 51 []], [.vec 4 L 52] => chk (decide ((0 ≤ a ∧ a < m ∧ m < b ∧ b ≤ L.length ∧ L.length ≤ 10000 ∧ AscT (ltJ) (seg a.toNat m.toNat L) ∧ AscT (ltJ) (seg m.toNat b.toNat L) ∧ Cross (ltJ) (ltJ) (seg a.toNat m.toNat L) (seg m.toNat b.toNat L)) ∧ (b.toNat - a.toNat) < nrec)) (.ret ⟨some (.tup []), [(0, some (.vec 4 (rangeS (ltJ) a.toNat b.toNat L) 52))]⟩)
  | _, _ => .fail
/-! ### slices.symMergeCmpFunc[regatta/api.Job] -/
def symJText (nrec : Nat) (L : List Job)  (a m b : Int) : Prop := (match (IntKind.i64.wrap (m - a) == (1 : Int)) with | true => ((∃ x : Nat × Nat, (((m.toNat ≤ x.fst) ∧ ((x.fst ≤ x.snd) ∧ ((x.snd ≤ b.toNat) ∧ ((x.fst = m.toNat ∨ ltJ (at' jobE.zero L (↑(x.fst - (1 : Nat)) : Int)) (at' jobE.zero L (↑a.toNat : Int)) = true) ∧ (x.snd = b.toNat ∨ ltJ (at' jobE.zero L (↑x.snd : Int)) (at' jobE.zero L (↑a.toNat : Int)) = false))))) ∧ ((True ∧ ((a = a) ∧ ((m = m) ∧ ((b = b) ∧ (True ∧ (((↑x.fst : Int) = m) ∧ (((↑x.snd : Int) = b) ∧ True))))))) ∧ ((L = L) ∧ True)))) ∧ (∀ x : Nat × Nat, (((m.toNat ≤ x.fst) ∧ ((x.fst ≤ x.snd) ∧ ((x.snd ≤ b.toNat) ∧ ((x.fst = m.toNat ∨ ltJ (at' jobE.zero L (↑(x.fst - (1 : Nat)) : Int)) (at' jobE.zero L (↑a.toNat : Int)) = true) ∧ (x.snd = b.toNat ∨ ltJ (at' jobE.zero L (↑x.snd : Int)) (at' jobE.zero L (↑a.toNat : Int)) = false))))) → (match (decide ((↑x.fst : Int) < (↑x.snd : Int))) with | true => (match (inb (IntKind.i64.wrap ((IntKind.u64.wrap (IntKind.i64.wrap ((↑x.fst : Int) + (↑x.snd : Int)))).fdiv ((2 : Int) ^ min (Int.toNat (1 : Int)) IntKind.u64.bits))) L.length) with | true => (match (inb (IntKind.i64.wrap ((IntKind.u64.wrap (IntKind.i64.wrap ((↑x.fst : Int) + (↑x.snd : Int)))).fdiv ((2 : Int) ^ min (Int.toNat (1 : Int)) IntKind.u64.bits))) L.length) with | true => (match (inb a L.length) with | true => (match (inb a L.length) with | true => (match (decide (cmpJ (at' jobE.zero L (IntKind.i64.wrap ((IntKind.u64.wrap (IntKind.i64.wrap ((↑x.fst : Int) + (↑x.snd : Int)))).fdiv ((2 : Int) ^ min (Int.toNat (1 : Int)) IntKind.u64.bits)))) (at' jobE.zero L a) < (0 : Int))) with | true => (∃ x' : Nat × Nat, (((m.toNat ≤ x'.fst) ∧ ((x'.fst ≤ x'.snd) ∧ ((x'.snd ≤ b.toNat) ∧ ((x'.fst = m.toNat ∨ ltJ (at' jobE.zero L (↑(x'.fst - (1 : Nat)) : Int)) (at' jobE.zero L (↑a.toNat : Int)) = true) ∧ (x'.snd = b.toNat ∨ ltJ (at' jobE.zero L (↑x'.snd : Int)) (at' jobE.zero L (↑a.toNat : Int)) = false))))) ∧ ((x'.snd - x'.fst < x.snd - x.fst) ∧ ((True ∧ ((a = a) ∧ ((m = m) ∧ ((b = b) ∧ (True ∧ (((↑x'.fst : Int) = IntKind.i64.wrap (IntKind.i64.wrap ((IntKind.u64.wrap (IntKind.i64.wrap ((↑x.fst : Int) + (↑x.snd : Int)))).fdiv ((2 : Int) ^ min (Int.toNat (1 : Int)) IntKind.u64.bits)) + (1 : Int))) ∧ (((↑x'.snd : Int) = (↑x.snd : Int)) ∧ True))))))) ∧ ((L = L) ∧ True))))) | false => (∃ x' : Nat × Nat, (((m.toNat ≤ x'.fst) ∧ ((x'.fst ≤ x'.snd) ∧ ((x'.snd ≤ b.toNat) ∧ ((x'.fst = m.toNat ∨ ltJ (at' jobE.zero L (↑(x'.fst - (1 : Nat)) : Int)) (at' jobE.zero L (↑a.toNat : Int)) = true) ∧ (x'.snd = b.toNat ∨ ltJ (at' jobE.zero L (↑x'.snd : Int)) (at' jobE.zero L (↑a.toNat : Int)) = false))))) ∧ ((x'.snd - x'.fst < x.snd - x.fst) ∧ ((True ∧ ((a = a) ∧ ((m = m) ∧ ((b = b) ∧ (True ∧ (((↑x'.fst : Int) = (↑x.fst : Int)) ∧ (((↑x'.snd : Int) = IntKind.i64.wrap ((IntKind.u64.wrap (IntKind.i64.wrap ((↑x.fst : Int) + (↑x.snd : Int)))).fdiv ((2 : Int) ^ min (Int.toNat (1 : Int)) IntKind.u64.bits))) ∧ True))))))) ∧ ((L = L) ∧ True)))))) | false => False) | false => False) | false => False) | false => False) | false => ((∃ x1 : Nat, (((a.toNat + x1 + (1 : Nat) ≤ (↑x.fst : Int).toNat) ∧ ((↑x.fst : Int).toNat ≤ b.toNat)) ∧ ((True ∧ ((a = a) ∧ (True ∧ (((↑x.fst : Int) = (↑x.fst : Int)) ∧ (((↑(a.toNat + x1) : Int) = a) ∧ True))))) ∧ ((bubU jobE.zero a.toNat x1 L = L) ∧ True)))) ∧ (∀ x1 : Nat, (((a.toNat + x1 + (1 : Nat) ≤ (↑x.fst : Int).toNat) ∧ ((↑x.fst : Int).toNat ≤ b.toNat)) → (match (decide ((↑(a.toNat + x1) : Int) < IntKind.i64.wrap ((↑x.fst : Int) - (1 : Int)))) with | true => (match (inb (IntKind.i64.wrap ((↑(a.toNat + x1) : Int) + (1 : Int))) (bubU jobE.zero a.toNat x1 L).length) with | true => (match (inb (IntKind.i64.wrap ((↑(a.toNat + x1) : Int) + (1 : Int))) (bubU jobE.zero a.toNat x1 L).length) with | true => (match (inb (↑(a.toNat + x1) : Int) (bubU jobE.zero a.toNat x1 L).length) with | true => (match (inb (↑(a.toNat + x1) : Int) (bubU jobE.zero a.toNat x1 L).length) with | true => (match (inb (↑(a.toNat + x1) : Int) (bubU jobE.zero a.toNat x1 L).length) with | true => (match (inb (↑(a.toNat + x1) : Int) (bubU jobE.zero a.toNat x1 L).length) with | true => (match (inb (IntKind.i64.wrap ((↑(a.toNat + x1) : Int) + (1 : Int))) ((bubU jobE.zero a.toNat x1 L).set (↑(a.toNat + x1) : Int).toNat (at' jobE.zero (bubU jobE.zero a.toNat x1 L) (IntKind.i64.wrap ((↑(a.toNat + x1) : Int) + (1 : Int))))).length) with | true => (match (inb (IntKind.i64.wrap ((↑(a.toNat + x1) : Int) + (1 : Int))) ((bubU jobE.zero a.toNat x1 L).set (↑(a.toNat + x1) : Int).toNat (at' jobE.zero (bubU jobE.zero a.toNat x1 L) (IntKind.i64.wrap ((↑(a.toNat + x1) : Int) + (1 : Int))))).length) with | true => (∃ x' : Nat, (((a.toNat + x' + (1 : Nat) ≤ (↑x.fst : Int).toNat) ∧ ((↑x.fst : Int).toNat ≤ b.toNat)) ∧ ((b.toNat - x' < b.toNat - x1) ∧ ((True ∧ ((a = a) ∧ (True ∧ (((↑x.fst : Int) = (↑x.fst : Int)) ∧ (((↑(a.toNat + x') : Int) = IntKind.i64.wrap ((↑(a.toNat + x1) : Int) + (1 : Int))) ∧ True))))) ∧ ((bubU jobE.zero a.toNat x' L = ((bubU jobE.zero a.toNat x1 L).set (↑(a.toNat + x1) : Int).toNat (at' jobE.zero (bubU jobE.zero a.toNat x1 L) (IntKind.i64.wrap ((↑(a.toNat + x1) : Int) + (1 : Int))))).set (IntKind.i64.wrap ((↑(a.toNat + x1) : Int) + (1 : Int))).toNat (at' jobE.zero (bubU jobE.zero a.toNat x1 L) (↑(a.toNat + x1) : Int))) ∧ True))))) | false => False) | false => False) | false => False) | false => False) | false => False) | false => False) | false => False) | false => False) | false => ((True ∧ True) ∧ ((rangeS ltJ a.toNat b.toNat L = bubU jobE.zero a.toNat x1 L) ∧ True)))))))))) | false => (match (IntKind.i64.wrap (b - m) == (1 : Int)) with | true => ((∃ x : Nat × Nat, (((a.toNat ≤ x.fst) ∧ ((x.fst ≤ x.snd) ∧ ((x.snd ≤ m.toNat) ∧ ((x.fst = a.toNat ∨ ltJ (at' jobE.zero L (↑m.toNat : Int)) (at' jobE.zero L (↑(x.fst - (1 : Nat)) : Int)) = false) ∧ (x.snd = m.toNat ∨ ltJ (at' jobE.zero L (↑m.toNat : Int)) (at' jobE.zero L (↑x.snd : Int)) = true))))) ∧ ((True ∧ ((a = a) ∧ ((m = m) ∧ ((b = b) ∧ (True ∧ (((↑x.fst : Int) = a) ∧ (((↑x.snd : Int) = m) ∧ True))))))) ∧ ((L = L) ∧ True)))) ∧ (∀ x : Nat × Nat, (((a.toNat ≤ x.fst) ∧ ((x.fst ≤ x.snd) ∧ ((x.snd ≤ m.toNat) ∧ ((x.fst = a.toNat ∨ ltJ (at' jobE.zero L (↑m.toNat : Int)) (at' jobE.zero L (↑(x.fst - (1 : Nat)) : Int)) = false) ∧ (x.snd = m.toNat ∨ ltJ (at' jobE.zero L (↑m.toNat : Int)) (at' jobE.zero L (↑x.snd : Int)) = true))))) → (match (decide ((↑x.fst : Int) < (↑x.snd : Int))) with | true => (match (inb m L.length) with | true => (match (inb m L.length) with | true => (match (inb (IntKind.i64.wrap ((IntKind.u64.wrap (IntKind.i64.wrap ((↑x.fst : Int) + (↑x.snd : Int)))).fdiv ((2 : Int) ^ min (Int.toNat (1 : Int)) IntKind.u64.bits))) L.length) with | true => (match (inb (IntKind.i64.wrap ((IntKind.u64.wrap (IntKind.i64.wrap ((↑x.fst : Int) + (↑x.snd : Int)))).fdiv ((2 : Int) ^ min (Int.toNat (1 : Int)) IntKind.u64.bits))) L.length) with | true => (match (!decide (cmpJ (at' jobE.zero L m) (at' jobE.zero L (IntKind.i64.wrap ((IntKind.u64.wrap (IntKind.i64.wrap ((↑x.fst : Int) + (↑x.snd : Int)))).fdiv ((2 : Int) ^ min (Int.toNat (1 : Int)) IntKind.u64.bits)))) < (0 : Int))) with | true => (∃ x' : Nat × Nat, (((a.toNat ≤ x'.fst) ∧ ((x'.fst ≤ x'.snd) ∧ ((x'.snd ≤ m.toNat) ∧ ((x'.fst = a.toNat ∨ ltJ (at' jobE.zero L (↑m.toNat : Int)) (at' jobE.zero L (↑(x'.fst - (1 : Nat)) : Int)) = false) ∧ (x'.snd = m.toNat ∨ ltJ (at' jobE.zero L (↑m.toNat : Int)) (at' jobE.zero L (↑x'.snd : Int)) = true))))) ∧ ((x'.snd - x'.fst < x.snd - x.fst) ∧ ((True ∧ ((a = a) ∧ ((m = m) ∧ ((b = b) ∧ (True ∧ (((↑x'.fst : Int) = IntKind.i64.wrap (IntKind.i64.wrap ((IntKind.u64.wrap (IntKind.i64.wrap ((↑x.fst : Int) + (↑x.snd : Int)))).fdiv ((2 : Int) ^ min (Int.toNat (1 : Int)) IntKind.u64.bits)) + (1 : Int))) ∧ (((↑x'.snd : Int) = (↑x.snd : Int)) ∧ True))))))) ∧ ((L = L) ∧ True))))) | false => (∃ x' : Nat × Nat, (((a.toNat ≤ x'.fst) ∧ ((x'.fst ≤ x'.snd) ∧ ((x'.snd ≤ m.toNat) ∧ ((x'.fst = a.toNat ∨ ltJ (at' jobE.zero L (↑m.toNat : Int)) (at' jobE.zero L (↑(x'.fst - (1 : Nat)) : Int)) = false) ∧ (x'.snd = m.toNat ∨ ltJ (at' jobE.zero L (↑m.toNat : Int)) (at' jobE.zero L (↑x'.snd : Int)) = true))))) ∧ ((x'.snd - x'.fst < x.snd - x.fst) ∧ ((True ∧ ((a = a) ∧ ((m = m) ∧ ((b = b) ∧ (True ∧ (((↑x'.fst : Int) = (↑x.fst : Int)) ∧ (((↑x'.snd : Int) = IntKind.i64.wrap ((IntKind.u64.wrap (IntKind.i64.wrap ((↑x.fst : Int) + (↑x.snd : Int)))).fdiv ((2 : Int) ^ min (Int.toNat (1 : Int)) IntKind.u64.bits))) ∧ True))))))) ∧ ((L = L) ∧ True)))))) | false => False) | false => False) | false => False) | false => False) | false => ((∃ x1 : Nat, (((x1 + (↑x.fst : Int).toNat ≤ m.toNat) ∧ (a.toNat ≤ (↑x.fst : Int).toNat)) ∧ ((True ∧ ((m = m) ∧ (True ∧ (((↑x.fst : Int) = (↑x.fst : Int)) ∧ (((↑(m.toNat - x1) : Int) = m) ∧ True))))) ∧ ((bubD jobE.zero m.toNat x1 L = L) ∧ True)))) ∧ (∀ x1 : Nat, (((x1 + (↑x.fst : Int).toNat ≤ m.toNat) ∧ (a.toNat ≤ (↑x.fst : Int).toNat)) → (match (decide ((↑(m.toNat - x1) : Int) > (↑x.fst : Int))) with | true => (match (inb (IntKind.i64.wrap ((↑(m.toNat - x1) : Int) - (1 : Int))) (bubD jobE.zero m.toNat x1 L).length) with | true => (match (inb (IntKind.i64.wrap ((↑(m.toNat - x1) : Int) - (1 : Int))) (bubD jobE.zero m.toNat x1 L).length) with | true => (match (inb (↑(m.toNat - x1) : Int) (bubD jobE.zero m.toNat x1 L).length) with | true => (match (inb (↑(m.toNat - x1) : Int) (bubD jobE.zero m.toNat x1 L).length) with | true => (match (inb (↑(m.toNat - x1) : Int) (bubD jobE.zero m.toNat x1 L).length) with | true => (match (inb (↑(m.toNat - x1) : Int) (bubD jobE.zero m.toNat x1 L).length) with | true => (match (inb (IntKind.i64.wrap ((↑(m.toNat - x1) : Int) - (1 : Int))) ((bubD jobE.zero m.toNat x1 L).set (↑(m.toNat - x1) : Int).toNat (at' jobE.zero (bubD jobE.zero m.toNat x1 L) (IntKind.i64.wrap ((↑(m.toNat - x1) : Int) - (1 : Int))))).length) with | true => (match (inb (IntKind.i64.wrap ((↑(m.toNat - x1) : Int) - (1 : Int))) ((bubD jobE.zero m.toNat x1 L).set (↑(m.toNat - x1) : Int).toNat (at' jobE.zero (bubD jobE.zero m.toNat x1 L) (IntKind.i64.wrap ((↑(m.toNat - x1) : Int) - (1 : Int))))).length) with | true => (∃ x' : Nat, (((x' + (↑x.fst : Int).toNat ≤ m.toNat) ∧ (a.toNat ≤ (↑x.fst : Int).toNat)) ∧ ((m.toNat - x' < m.toNat - x1) ∧ ((True ∧ ((m = m) ∧ (True ∧ (((↑x.fst : Int) = (↑x.fst : Int)) ∧ (((↑(m.toNat - x') : Int) = IntKind.i64.wrap ((↑(m.toNat - x1) : Int) - (1 : Int))) ∧ True))))) ∧ ((bubD jobE.zero m.toNat x' L = ((bubD jobE.zero m.toNat x1 L).set (↑(m.toNat - x1) : Int).toNat (at' jobE.zero (bubD jobE.zero m.toNat x1 L) (IntKind.i64.wrap ((↑(m.toNat - x1) : Int) - (1 : Int))))).set (IntKind.i64.wrap ((↑(m.toNat - x1) : Int) - (1 : Int))).toNat (at' jobE.zero (bubD jobE.zero m.toNat x1 L) (↑(m.toNat - x1) : Int))) ∧ True))))) | false => False) | false => False) | false => False) | false => False) | false => False) | false => False) | false => False) | false => False) | false => ((True ∧ True) ∧ ((rangeS ltJ a.toNat b.toNat L = bubD jobE.zero m.toNat x1 L) ∧ True)))))))))) | false => (match (decide (m > IntKind.i64.wrap ((IntKind.u64.wrap (IntKind.i64.wrap (a + b))).fdiv ((2 : Int) ^ min (Int.toNat (1 : Int)) IntKind.u64.bits)))) with | true => ((∃ x : Nat × Nat, ((((IntKind.i64.wrap (IntKind.i64.wrap (IntKind.i64.wrap ((IntKind.u64.wrap (IntKind.i64.wrap (a + b))).fdiv ((2 : Int) ^ min (Int.toNat (1 : Int)) IntKind.u64.bits)) + m) - b)).toNat ≤ x.fst) ∧ ((x.fst ≤ x.snd) ∧ ((x.snd ≤ (IntKind.i64.wrap ((IntKind.u64.wrap (IntKind.i64.wrap (a + b))).fdiv ((2 : Int) ^ min (Int.toNat (1 : Int)) IntKind.u64.bits))).toNat) ∧ ((x.fst = (IntKind.i64.wrap (IntKind.i64.wrap (IntKind.i64.wrap ((IntKind.u64.wrap (IntKind.i64.wrap (a + b))).fdiv ((2 : Int) ^ min (Int.toNat (1 : Int)) IntKind.u64.bits)) + m) - b)).toNat ∨ ltJ (at' jobE.zero L (↑((a.toNat + b.toNat) / (2 : Nat) + m.toNat - x.fst) : Int)) (at' jobE.zero L (↑(x.fst - (1 : Nat)) : Int)) = false) ∧ (x.snd = (IntKind.i64.wrap ((IntKind.u64.wrap (IntKind.i64.wrap (a + b))).fdiv ((2 : Int) ^ min (Int.toNat (1 : Int)) IntKind.u64.bits))).toNat ∨ ltJ (at' jobE.zero L (↑((a.toNat + b.toNat) / (2 : Nat) + m.toNat - (1 : Nat) - x.snd) : Int)) (at' jobE.zero L (↑x.snd : Int)) = true))))) ∧ ((True ∧ ((a = a) ∧ ((m = m) ∧ ((b = b) ∧ (True ∧ ((IntKind.i64.wrap ((IntKind.u64.wrap (IntKind.i64.wrap (a + b))).fdiv ((2 : Int) ^ min (Int.toNat (1 : Int)) IntKind.u64.bits)) = IntKind.i64.wrap ((IntKind.u64.wrap (IntKind.i64.wrap (a + b))).fdiv ((2 : Int) ^ min (Int.toNat (1 : Int)) IntKind.u64.bits))) ∧ ((IntKind.i64.wrap (IntKind.i64.wrap ((IntKind.u64.wrap (IntKind.i64.wrap (a + b))).fdiv ((2 : Int) ^ min (Int.toNat (1 : Int)) IntKind.u64.bits)) + m) = IntKind.i64.wrap (IntKind.i64.wrap ((IntKind.u64.wrap (IntKind.i64.wrap (a + b))).fdiv ((2 : Int) ^ min (Int.toNat (1 : Int)) IntKind.u64.bits)) + m)) ∧ (((↑x.fst : Int) = IntKind.i64.wrap (IntKind.i64.wrap (IntKind.i64.wrap ((IntKind.u64.wrap (IntKind.i64.wrap (a + b))).fdiv ((2 : Int) ^ min (Int.toNat (1 : Int)) IntKind.u64.bits)) + m) - b)) ∧ (((↑x.snd : Int) = IntKind.i64.wrap ((IntKind.u64.wrap (IntKind.i64.wrap (a + b))).fdiv ((2 : Int) ^ min (Int.toNat (1 : Int)) IntKind.u64.bits))) ∧ ((IntKind.i64.wrap (IntKind.i64.wrap (IntKind.i64.wrap ((IntKind.u64.wrap (IntKind.i64.wrap (a + b))).fdiv ((2 : Int) ^ min (Int.toNat (1 : Int)) IntKind.u64.bits)) + m) - (1 : Int)) = IntKind.i64.wrap (IntKind.i64.wrap (IntKind.i64.wrap ((IntKind.u64.wrap (IntKind.i64.wrap (a + b))).fdiv ((2 : Int) ^ min (Int.toNat (1 : Int)) IntKind.u64.bits)) + m) - (1 : Int))) ∧ True)))))))))) ∧ ((L = L) ∧ True)))) ∧ (∀ x : Nat × Nat, ((((IntKind.i64.wrap (IntKind.i64.wrap (IntKind.i64.wrap ((IntKind.u64.wrap (IntKind.i64.wrap (a + b))).fdiv ((2 : Int) ^ min (Int.toNat (1 : Int)) IntKind.u64.bits)) + m) - b)).toNat ≤ x.fst) ∧ ((x.fst ≤ x.snd) ∧ ((x.snd ≤ (IntKind.i64.wrap ((IntKind.u64.wrap (IntKind.i64.wrap (a + b))).fdiv ((2 : Int) ^ min (Int.toNat (1 : Int)) IntKind.u64.bits))).toNat) ∧ ((x.fst = (IntKind.i64.wrap (IntKind.i64.wrap (IntKind.i64.wrap ((IntKind.u64.wrap (IntKind.i64.wrap (a + b))).fdiv ((2 : Int) ^ min (Int.toNat (1 : Int)) IntKind.u64.bits)) + m) - b)).toNat ∨ ltJ (at' jobE.zero L (↑((a.toNat + b.toNat) / (2 : Nat) + m.toNat - x.fst) : Int)) (at' jobE.zero L (↑(x.fst - (1 : Nat)) : Int)) = false) ∧ (x.snd = (IntKind.i64.wrap ((IntKind.u64.wrap (IntKind.i64.wrap (a + b))).fdiv ((2 : Int) ^ min (Int.toNat (1 : Int)) IntKind.u64.bits))).toNat ∨ ltJ (at' jobE.zero L (↑((a.toNat + b.toNat) / (2 : Nat) + m.toNat - (1 : Nat) - x.snd) : Int)) (at' jobE.zero L (↑x.snd : Int)) = true))))) → (match (decide ((↑x.fst : Int) < (↑x.snd : Int))) with | true => (match (inb (IntKind.i64.wrap (IntKind.i64.wrap (IntKind.i64.wrap (IntKind.i64.wrap ((IntKind.u64.wrap (IntKind.i64.wrap (a + b))).fdiv ((2 : Int) ^ min (Int.toNat (1 : Int)) IntKind.u64.bits)) + m) - (1 : Int)) - IntKind.i64.wrap ((IntKind.u64.wrap (IntKind.i64.wrap ((↑x.fst : Int) + (↑x.snd : Int)))).fdiv ((2 : Int) ^ min (Int.toNat (1 : Int)) IntKind.u64.bits)))) L.length) with | true => (match (inb (IntKind.i64.wrap (IntKind.i64.wrap (IntKind.i64.wrap (IntKind.i64.wrap ((IntKind.u64.wrap (IntKind.i64.wrap (a + b))).fdiv ((2 : Int) ^ min (Int.toNat (1 : Int)) IntKind.u64.bits)) + m) - (1 : Int)) - IntKind.i64.wrap ((IntKind.u64.wrap (IntKind.i64.wrap ((↑x.fst : Int) + (↑x.snd : Int)))).fdiv ((2 : Int) ^ min (Int.toNat (1 : Int)) IntKind.u64.bits)))) L.length) with | true => (match (inb (IntKind.i64.wrap ((IntKind.u64.wrap (IntKind.i64.wrap ((↑x.fst : Int) + (↑x.snd : Int)))).fdiv ((2 : Int) ^ min (Int.toNat (1 : Int)) IntKind.u64.bits))) L.length) with | true => (match (inb (IntKind.i64.wrap ((IntKind.u64.wrap (IntKind.i64.wrap ((↑x.fst : Int) + (↑x.snd : Int)))).fdiv ((2 : Int) ^ min (Int.toNat (1 : Int)) IntKind.u64.bits))) L.length) with | true => (match (!decide (cmpJ (at' jobE.zero L (IntKind.i64.wrap (IntKind.i64.wrap (IntKind.i64.wrap (IntKind.i64.wrap ((IntKind.u64.wrap (IntKind.i64.wrap (a + b))).fdiv ((2 : Int) ^ min (Int.toNat (1 : Int)) IntKind.u64.bits)) + m) - (1 : Int)) - IntKind.i64.wrap ((IntKind.u64.wrap (IntKind.i64.wrap ((↑x.fst : Int) + (↑x.snd : Int)))).fdiv ((2 : Int) ^ min (Int.toNat (1 : Int)) IntKind.u64.bits))))) (at' jobE.zero L (IntKind.i64.wrap ((IntKind.u64.wrap (IntKind.i64.wrap ((↑x.fst : Int) + (↑x.snd : Int)))).fdiv ((2 : Int) ^ min (Int.toNat (1 : Int)) IntKind.u64.bits)))) < (0 : Int))) with | true => (∃ x' : Nat × Nat, ((((IntKind.i64.wrap (IntKind.i64.wrap (IntKind.i64.wrap ((IntKind.u64.wrap (IntKind.i64.wrap (a + b))).fdiv ((2 : Int) ^ min (Int.toNat (1 : Int)) IntKind.u64.bits)) + m) - b)).toNat ≤ x'.fst) ∧ ((x'.fst ≤ x'.snd) ∧ ((x'.snd ≤ (IntKind.i64.wrap ((IntKind.u64.wrap (IntKind.i64.wrap (a + b))).fdiv ((2 : Int) ^ min (Int.toNat (1 : Int)) IntKind.u64.bits))).toNat) ∧ ((x'.fst = (IntKind.i64.wrap (IntKind.i64.wrap (IntKind.i64.wrap ((IntKind.u64.wrap (IntKind.i64.wrap (a + b))).fdiv ((2 : Int) ^ min (Int.toNat (1 : Int)) IntKind.u64.bits)) + m) - b)).toNat ∨ ltJ (at' jobE.zero L (↑((a.toNat + b.toNat) / (2 : Nat) + m.toNat - x'.fst) : Int)) (at' jobE.zero L (↑(x'.fst - (1 : Nat)) : Int)) = false) ∧ (x'.snd = (IntKind.i64.wrap ((IntKind.u64.wrap (IntKind.i64.wrap (a + b))).fdiv ((2 : Int) ^ min (Int.toNat (1 : Int)) IntKind.u64.bits))).toNat ∨ ltJ (at' jobE.zero L (↑((a.toNat + b.toNat) / (2 : Nat) + m.toNat - (1 : Nat) - x'.snd) : Int)) (at' jobE.zero L (↑x'.snd : Int)) = true))))) ∧ ((x'.snd - x'.fst < x.snd - x.fst) ∧ ((True ∧ ((a = a) ∧ ((m = m) ∧ ((b = b) ∧ (True ∧ ((IntKind.i64.wrap ((IntKind.u64.wrap (IntKind.i64.wrap (a + b))).fdiv ((2 : Int) ^ min (Int.toNat (1 : Int)) IntKind.u64.bits)) = IntKind.i64.wrap ((IntKind.u64.wrap (IntKind.i64.wrap (a + b))).fdiv ((2 : Int) ^ min (Int.toNat (1 : Int)) IntKind.u64.bits))) ∧ ((IntKind.i64.wrap (IntKind.i64.wrap ((IntKind.u64.wrap (IntKind.i64.wrap (a + b))).fdiv ((2 : Int) ^ min (Int.toNat (1 : Int)) IntKind.u64.bits)) + m) = IntKind.i64.wrap (IntKind.i64.wrap ((IntKind.u64.wrap (IntKind.i64.wrap (a + b))).fdiv ((2 : Int) ^ min (Int.toNat (1 : Int)) IntKind.u64.bits)) + m)) ∧ (((↑x'.fst : Int) = IntKind.i64.wrap (IntKind.i64.wrap ((IntKind.u64.wrap (IntKind.i64.wrap ((↑x.fst : Int) + (↑x.snd : Int)))).fdiv ((2 : Int) ^ min (Int.toNat (1 : Int)) IntKind.u64.bits)) + (1 : Int))) ∧ (((↑x'.snd : Int) = (↑x.snd : Int)) ∧ ((IntKind.i64.wrap (IntKind.i64.wrap (IntKind.i64.wrap ((IntKind.u64.wrap (IntKind.i64.wrap (a + b))).fdiv ((2 : Int) ^ min (Int.toNat (1 : Int)) IntKind.u64.bits)) + m) - (1 : Int)) = IntKind.i64.wrap (IntKind.i64.wrap (IntKind.i64.wrap ((IntKind.u64.wrap (IntKind.i64.wrap (a + b))).fdiv ((2 : Int) ^ min (Int.toNat (1 : Int)) IntKind.u64.bits)) + m) - (1 : Int))) ∧ True)))))))))) ∧ ((L = L) ∧ True))))) | false => (∃ x' : Nat × Nat, ((((IntKind.i64.wrap (IntKind.i64.wrap (IntKind.i64.wrap ((IntKind.u64.wrap (IntKind.i64.wrap (a + b))).fdiv ((2 : Int) ^ min (Int.toNat (1 : Int)) IntKind.u64.bits)) + m) - b)).toNat ≤ x'.fst) ∧ ((x'.fst ≤ x'.snd) ∧ ((x'.snd ≤ (IntKind.i64.wrap ((IntKind.u64.wrap (IntKind.i64.wrap (a + b))).fdiv ((2 : Int) ^ min (Int.toNat (1 : Int)) IntKind.u64.bits))).toNat) ∧ ((x'.fst = (IntKind.i64.wrap (IntKind.i64.wrap (IntKind.i64.wrap ((IntKind.u64.wrap (IntKind.i64.wrap (a + b))).fdiv ((2 : Int) ^ min (Int.toNat (1 : Int)) IntKind.u64.bits)) + m) - b)).toNat ∨ ltJ (at' jobE.zero L (↑((a.toNat + b.toNat) / (2 : Nat) + m.toNat - x'.fst) : Int)) (at' jobE.zero L (↑(x'.fst - (1 : Nat)) : Int)) = false) ∧ (x'.snd = (IntKind.i64.wrap ((IntKind.u64.wrap (IntKind.i64.wrap (a + b))).fdiv ((2 : Int) ^ min (Int.toNat (1 : Int)) IntKind.u64.bits))).toNat ∨ ltJ (at' jobE.zero L (↑((a.toNat + b.toNat) / (2 : Nat) + m.toNat - (1 : Nat) - x'.snd) : Int)) (at' jobE.zero L (↑x'.snd : Int)) = true))))) ∧ ((x'.snd - x'.fst < x.snd - x.fst) ∧ ((True ∧ ((a = a) ∧ ((m = m) ∧ ((b = b) ∧ (True ∧ ((IntKind.i64.wrap ((IntKind.u64.wrap (IntKind.i64.wrap (a + b))).fdiv ((2 : Int) ^ min (Int.toNat (1 : Int)) IntKind.u64.bits)) = IntKind.i64.wrap ((IntKind.u64.wrap (IntKind.i64.wrap (a + b))).fdiv ((2 : Int) ^ min (Int.toNat (1 : Int)) IntKind.u64.bits))) ∧ ((IntKind.i64.wrap (IntKind.i64.wrap ((IntKind.u64.wrap (IntKind.i64.wrap (a + b))).fdiv ((2 : Int) ^ min (Int.toNat (1 : Int)) IntKind.u64.bits)) + m) = IntKind.i64.wrap (IntKind.i64.wrap ((IntKind.u64.wrap (IntKind.i64.wrap (a + b))).fdiv ((2 : Int) ^ min (Int.toNat (1 : Int)) IntKind.u64.bits)) + m)) ∧ (((↑x'.fst : Int) = (↑x.fst : Int)) ∧ (((↑x'.snd : Int) = IntKind.i64.wrap ((IntKind.u64.wrap (IntKind.i64.wrap ((↑x.fst : Int) + (↑x.snd : Int)))).fdiv ((2 : Int) ^ min (Int.toNat (1 : Int)) IntKind.u64.bits))) ∧ ((IntKind.i64.wrap (IntKind.i64.wrap (IntKind.i64.wrap ((IntKind.u64.wrap (IntKind.i64.wrap (a + b))).fdiv ((2 : Int) ^ min (Int.toNat (1 : Int)) IntKind.u64.bits)) + m) - (1 : Int)) = IntKind.i64.wrap (IntKind.i64.wrap (IntKind.i64.wrap ((IntKind.u64.wrap (IntKind.i64.wrap (a + b))).fdiv ((2 : Int) ^ min (Int.toNat (1 : Int)) IntKind.u64.bits)) + m) - (1 : Int))) ∧ True)))))))))) ∧ ((L = L) ∧ True)))))) | false => False) | false => False) | false => False) | false => False) | false => (match (decide ((↑x.fst : Int) < m)) with | true => (match (decide (m < IntKind.i64.wrap (IntKind.i64.wrap (IntKind.i64.wrap ((IntKind.u64.wrap (IntKind.i64.wrap (a + b))).fdiv ((2 : Int) ^ min (Int.toNat (1 : Int)) IntKind.u64.bits)) + m) - (↑x.fst : Int)))) with | true => (match (decide ((0 : Int) ≤ (↑x.fst : Int) ∧ (↑x.fst : Int) < m ∧ m < IntKind.i64.wrap (IntKind.i64.wrap (IntKind.i64.wrap ((IntKind.u64.wrap (IntKind.i64.wrap (a + b))).fdiv ((2 : Int) ^ min (Int.toNat (1 : Int)) IntKind.u64.bits)) + m) - (↑x.fst : Int)) ∧ IntKind.i64.wrap (IntKind.i64.wrap (IntKind.i64.wrap ((IntKind.u64.wrap (IntKind.i64.wrap (a + b))).fdiv ((2 : Int) ^ min (Int.toNat (1 : Int)) IntKind.u64.bits)) + m) - (↑x.fst : Int)) ≤ (↑L.length : Int) ∧ L.length ≤ (10000 : Nat))) with | true => (match (decide (a < (↑x.fst : Int))) with | true => (match (decide ((↑x.fst : Int) < IntKind.i64.wrap ((IntKind.u64.wrap (IntKind.i64.wrap (a + b))).fdiv ((2 : Int) ^ min (Int.toNat (1 : Int)) IntKind.u64.bits)))) with | true => (match (decide (((0 : Int) ≤ a ∧ a < (↑x.fst : Int) ∧ (↑x.fst : Int) < IntKind.i64.wrap ((IntKind.u64.wrap (IntKind.i64.wrap (a + b))).fdiv ((2 : Int) ^ min (Int.toNat (1 : Int)) IntKind.u64.bits)) ∧ IntKind.i64.wrap ((IntKind.u64.wrap (IntKind.i64.wrap (a + b))).fdiv ((2 : Int) ^ min (Int.toNat (1 : Int)) IntKind.u64.bits)) ≤ (↑(rotR (↑x.fst : Int).toNat m.toNat (IntKind.i64.wrap (IntKind.i64.wrap (IntKind.i64.wrap ((IntKind.u64.wrap (IntKind.i64.wrap (a + b))).fdiv ((2 : Int) ^ min (Int.toNat (1 : Int)) IntKind.u64.bits)) + m) - (↑x.fst : Int))).toNat L).length : Int) ∧ (rotR (↑x.fst : Int).toNat m.toNat (IntKind.i64.wrap (IntKind.i64.wrap (IntKind.i64.wrap ((IntKind.u64.wrap (IntKind.i64.wrap (a + b))).fdiv ((2 : Int) ^ min (Int.toNat (1 : Int)) IntKind.u64.bits)) + m) - (↑x.fst : Int))).toNat L).length ≤ (10000 : Nat) ∧ AscT ltJ (seg a.toNat (↑x.fst : Int).toNat (rotR (↑x.fst : Int).toNat m.toNat (IntKind.i64.wrap (IntKind.i64.wrap (IntKind.i64.wrap ((IntKind.u64.wrap (IntKind.i64.wrap (a + b))).fdiv ((2 : Int) ^ min (Int.toNat (1 : Int)) IntKind.u64.bits)) + m) - (↑x.fst : Int))).toNat L)) ∧ AscT ltJ (seg (↑x.fst : Int).toNat (IntKind.i64.wrap ((IntKind.u64.wrap (IntKind.i64.wrap (a + b))).fdiv ((2 : Int) ^ min (Int.toNat (1 : Int)) IntKind.u64.bits))).toNat (rotR (↑x.fst : Int).toNat m.toNat (IntKind.i64.wrap (IntKind.i64.wrap (IntKind.i64.wrap ((IntKind.u64.wrap (IntKind.i64.wrap (a + b))).fdiv ((2 : Int) ^ min (Int.toNat (1 : Int)) IntKind.u64.bits)) + m) - (↑x.fst : Int))).toNat L)) ∧ Cross ltJ ltJ (seg a.toNat (↑x.fst : Int).toNat (rotR (↑x.fst : Int).toNat m.toNat (IntKind.i64.wrap (IntKind.i64.wrap (IntKind.i64.wrap ((IntKind.u64.wrap (IntKind.i64.wrap (a + b))).fdiv ((2 : Int) ^ min (Int.toNat (1 : Int)) IntKind.u64.bits)) + m) - (↑x.fst : Int))).toNat L)) (seg (↑x.fst : Int).toNat (IntKind.i64.wrap ((IntKind.u64.wrap (IntKind.i64.wrap (a + b))).fdiv ((2 : Int) ^ min (Int.toNat (1 : Int)) IntKind.u64.bits))).toNat (rotR (↑x.fst : Int).toNat m.toNat (IntKind.i64.wrap (IntKind.i64.wrap (IntKind.i64.wrap ((IntKind.u64.wrap (IntKind.i64.wrap (a + b))).fdiv ((2 : Int) ^ min (Int.toNat (1 : Int)) IntKind.u64.bits)) + m) - (↑x.fst : Int))).toNat L))) ∧ (IntKind.i64.wrap ((IntKind.u64.wrap (IntKind.i64.wrap (a + b))).fdiv ((2 : Int) ^ min (Int.toNat (1 : Int)) IntKind.u64.bits))).toNat - a.toNat < nrec)) with | true => (match (decide (IntKind.i64.wrap ((IntKind.u64.wrap (IntKind.i64.wrap (a + b))).fdiv ((2 : Int) ^ min (Int.toNat (1 : Int)) IntKind.u64.bits)) < IntKind.i64.wrap (IntKind.i64.wrap (IntKind.i64.wrap ((IntKind.u64.wrap (IntKind.i64.wrap (a + b))).fdiv ((2 : Int) ^ min (Int.toNat (1 : Int)) IntKind.u64.bits)) + m) - (↑x.fst : Int)))) with | true => (match (decide (IntKind.i64.wrap (IntKind.i64.wrap (IntKind.i64.wrap ((IntKind.u64.wrap (IntKind.i64.wrap (a + b))).fdiv ((2 : Int) ^ min (Int.toNat (1 : Int)) IntKind.u64.bits)) + m) - (↑x.fst : Int)) < b)) with | true => (match (decide (((0 : Int) ≤ IntKind.i64.wrap ((IntKind.u64.wrap (IntKind.i64.wrap (a + b))).fdiv ((2 : Int) ^ min (Int.toNat (1 : Int)) IntKind.u64.bits)) ∧ IntKind.i64.wrap ((IntKind.u64.wrap (IntKind.i64.wrap (a + b))).fdiv ((2 : Int) ^ min (Int.toNat (1 : Int)) IntKind.u64.bits)) < IntKind.i64.wrap (IntKind.i64.wrap (IntKind.i64.wrap ((IntKind.u64.wrap (IntKind.i64.wrap (a + b))).fdiv ((2 : Int) ^ min (Int.toNat (1 : Int)) IntKind.u64.bits)) + m) - (↑x.fst : Int)) ∧ IntKind.i64.wrap (IntKind.i64.wrap (IntKind.i64.wrap ((IntKind.u64.wrap (IntKind.i64.wrap (a + b))).fdiv ((2 : Int) ^ min (Int.toNat (1 : Int)) IntKind.u64.bits)) + m) - (↑x.fst : Int)) < b ∧ b ≤ (↑(rangeS ltJ a.toNat (IntKind.i64.wrap ((IntKind.u64.wrap (IntKind.i64.wrap (a + b))).fdiv ((2 : Int) ^ min (Int.toNat (1 : Int)) IntKind.u64.bits))).toNat (rotR (↑x.fst : Int).toNat m.toNat (IntKind.i64.wrap (IntKind.i64.wrap (IntKind.i64.wrap ((IntKind.u64.wrap (IntKind.i64.wrap (a + b))).fdiv ((2 : Int) ^ min (Int.toNat (1 : Int)) IntKind.u64.bits)) + m) - (↑x.fst : Int))).toNat L)).length : Int) ∧ (rangeS ltJ a.toNat (IntKind.i64.wrap ((IntKind.u64.wrap (IntKind.i64.wrap (a + b))).fdiv ((2 : Int) ^ min (Int.toNat (1 : Int)) IntKind.u64.bits))).toNat (rotR (↑x.fst : Int).toNat m.toNat (IntKind.i64.wrap (IntKind.i64.wrap (IntKind.i64.wrap ((IntKind.u64.wrap (IntKind.i64.wrap (a + b))).fdiv ((2 : Int) ^ min (Int.toNat (1 : Int)) IntKind.u64.bits)) + m) - (↑x.fst : Int))).toNat L)).length ≤ (10000 : Nat) ∧ AscT ltJ (seg (IntKind.i64.wrap ((IntKind.u64.wrap (IntKind.i64.wrap (a + b))).fdiv ((2 : Int) ^ min (Int.toNat (1 : Int)) IntKind.u64.bits))).toNat (IntKind.i64.wrap (IntKind.i64.wrap (IntKind.i64.wrap ((IntKind.u64.wrap (IntKind.i64.wrap (a + b))).fdiv ((2 : Int) ^ min (Int.toNat (1 : Int)) IntKind.u64.bits)) + m) - (↑x.fst : Int))).toNat (rangeS ltJ a.toNat (IntKind.i64.wrap ((IntKind.u64.wrap (IntKind.i64.wrap (a + b))).fdiv ((2 : Int) ^ min (Int.toNat (1 : Int)) IntKind.u64.bits))).toNat (rotR (↑x.fst : Int).toNat m.toNat (IntKind.i64.wrap (IntKind.i64.wrap (IntKind.i64.wrap ((IntKind.u64.wrap (IntKind.i64.wrap (a + b))).fdiv ((2 : Int) ^ min (Int.toNat (1 : Int)) IntKind.u64.bits)) + m) - (↑x.fst : Int))).toNat L))) ∧ AscT ltJ (seg (IntKind.i64.wrap (IntKind.i64.wrap (IntKind.i64.wrap ((IntKind.u64.wrap (IntKind.i64.wrap (a + b))).fdiv ((2 : Int) ^ min (Int.toNat (1 : Int)) IntKind.u64.bits)) + m) - (↑x.fst : Int))).toNat b.toNat (rangeS ltJ a.toNat (IntKind.i64.wrap ((IntKind.u64.wrap (IntKind.i64.wrap (a + b))).fdiv ((2 : Int) ^ min (Int.toNat (1 : Int)) IntKind.u64.bits))).toNat (rotR (↑x.fst : Int).toNat m.toNat (IntKind.i64.wrap (IntKind.i64.wrap (IntKind.i64.wrap ((IntKind.u64.wrap (IntKind.i64.wrap (a + b))).fdiv ((2 : Int) ^ min (Int.toNat (1 : Int)) IntKind.u64.bits)) + m) - (↑x.fst : Int))).toNat L))) ∧ Cross ltJ ltJ (seg (IntKind.i64.wrap ((IntKind.u64.wrap (IntKind.i64.wrap (a + b))).fdiv ((2 : Int) ^ min (Int.toNat (1 : Int)) IntKind.u64.bits))).toNat (IntKind.i64.wrap (IntKind.i64.wrap (IntKind.i64.wrap ((IntKind.u64.wrap (IntKind.i64.wrap (a + b))).fdiv ((2 : Int) ^ min (Int.toNat (1 : Int)) IntKind.u64.bits)) + m) - (↑x.fst : Int))).toNat (rangeS ltJ a.toNat (IntKind.i64.wrap ((IntKind.u64.wrap (IntKind.i64.wrap (a + b))).fdiv ((2 : Int) ^ min (Int.toNat (1 : Int)) IntKind.u64.bits))).toNat (rotR (↑x.fst : Int).toNat m.toNat (IntKind.i64.wrap (IntKind.i64.wrap (IntKind.i64.wrap ((IntKind.u64.wrap (IntKind.i64.wrap (a + b))).fdiv ((2 : Int) ^ min (Int.toNat (1 : Int)) IntKind.u64.bits)) + m) - (↑x.fst : Int))).toNat L))) (seg (IntKind.i64.wrap (IntKind.i64.wrap (IntKind.i64.wrap ((IntKind.u64.wrap (IntKind.i64.wrap (a + b))).fdiv ((2 : Int) ^ min (Int.toNat (1 : Int)) IntKind.u64.bits)) + m) - (↑x.fst : Int))).toNat b.toNat (rangeS ltJ a.toNat (IntKind.i64.wrap ((IntKind.u64.wrap (IntKind.i64.wrap (a + b))).fdiv ((2 : Int) ^ min (Int.toNat (1 : Int)) IntKind.u64.bits))).toNat (rotR (↑x.fst : Int).toNat m.toNat (IntKind.i64.wrap (IntKind.i64.wrap (IntKind.i64.wrap ((IntKind.u64.wrap (IntKind.i64.wrap (a + b))).fdiv ((2 : Int) ^ min (Int.toNat (1 : Int)) IntKind.u64.bits)) + m) - (↑x.fst : Int))).toNat L)))) ∧ b.toNat - (IntKind.i64.wrap ((IntKind.u64.wrap (IntKind.i64.wrap (a + b))).fdiv ((2 : Int) ^ min (Int.toNat (1 : Int)) IntKind.u64.bits))).toNat < nrec)) with | true => ((True ∧ True) ∧ ((rangeS ltJ a.toNat b.toNat L = rangeS ltJ (IntKind.i64.wrap ((IntKind.u64.wrap (IntKind.i64.wrap (a + b))).fdiv ((2 : Int) ^ min (Int.toNat (1 : Int)) IntKind.u64.bits))).toNat b.toNat (rangeS ltJ a.toNat (IntKind.i64.wrap ((IntKind.u64.wrap (IntKind.i64.wrap (a + b))).fdiv ((2 : Int) ^ min (Int.toNat (1 : Int)) IntKind.u64.bits))).toNat (rotR (↑x.fst : Int).toNat m.toNat (IntKind.i64.wrap (IntKind.i64.wrap (IntKind.i64.wrap ((IntKind.u64.wrap (IntKind.i64.wrap (a + b))).fdiv ((2 : Int) ^ min (Int.toNat (1 : Int)) IntKind.u64.bits)) + m) - (↑x.fst : Int))).toNat L))) ∧ True)) | false => False) | false => ((True ∧ True) ∧ ((rangeS ltJ a.toNat b.toNat L = rangeS ltJ a.toNat (IntKind.i64.wrap ((IntKind.u64.wrap (IntKind.i64.wrap (a + b))).fdiv ((2 : Int) ^ min (Int.toNat (1 : Int)) IntKind.u64.bits))).toNat (rotR (↑x.fst : Int).toNat m.toNat (IntKind.i64.wrap (IntKind.i64.wrap (IntKind.i64.wrap ((IntKind.u64.wrap (IntKind.i64.wrap (a + b))).fdiv ((2 : Int) ^ min (Int.toNat (1 : Int)) IntKind.u64.bits)) + m) - (↑x.fst : Int))).toNat L)) ∧ True))) | false => ((True ∧ True) ∧ ((rangeS ltJ a.toNat b.toNat L = rangeS ltJ a.toNat (IntKind.i64.wrap ((IntKind.u64.wrap (IntKind.i64.wrap (a + b))).fdiv ((2 : Int) ^ min (Int.toNat (1 : Int)) IntKind.u64.bits))).toNat (rotR (↑x.fst : Int).toNat m.toNat (IntKind.i64.wrap (IntKind.i64.wrap (IntKind.i64.wrap ((IntKind.u64.wrap (IntKind.i64.wrap (a + b))).fdiv ((2 : Int) ^ min (Int.toNat (1 : Int)) IntKind.u64.bits)) + m) - (↑x.fst : Int))).toNat L)) ∧ True))) | false => False) | false => (match (decide (IntKind.i64.wrap ((IntKind.u64.wrap (IntKind.i64.wrap (a + b))).fdiv ((2 : Int) ^ min (Int.toNat (1 : Int)) IntKind.u64.bits)) < IntKind.i64.wrap (IntKind.i64.wrap (IntKind.i64.wrap ((IntKind.u64.wrap (IntKind.i64.wrap (a + b))).fdiv ((2 : Int) ^ min (Int.toNat (1 : Int)) IntKind.u64.bits)) + m) - (↑x.fst : Int)))) with | true => (match (decide (IntKind.i64.wrap (IntKind.i64.wrap (IntKind.i64.wrap ((IntKind.u64.wrap (IntKind.i64.wrap (a + b))).fdiv ((2 : Int) ^ min (Int.toNat (1 : Int)) IntKind.u64.bits)) + m) - (↑x.fst : Int)) < b)) with | true => (match (decide (((0 : Int) ≤ IntKind.i64.wrap ((IntKind.u64.wrap (IntKind.i64.wrap (a + b))).fdiv ((2 : Int) ^ min (Int.toNat (1 : Int)) IntKind.u64.bits)) ∧ IntKind.i64.wrap ((IntKind.u64.wrap (IntKind.i64.wrap (a + b))).fdiv ((2 : Int) ^ min (Int.toNat (1 : Int)) IntKind.u64.bits)) < IntKind.i64.wrap (IntKind.i64.wrap (IntKind.i64.wrap ((IntKind.u64.wrap (IntKind.i64.wrap (a + b))).fdiv ((2 : Int) ^ min (Int.toNat (1 : Int)) IntKind.u64.bits)) + m) - (↑x.fst : Int)) ∧ IntKind.i64.wrap (IntKind.i64.wrap (IntKind.i64.wrap ((IntKind.u64.wrap (IntKind.i64.wrap (a + b))).fdiv ((2 : Int) ^ min (Int.toNat (1 : Int)) IntKind.u64.bits)) + m) - (↑x.fst : Int)) < b ∧ b ≤ (↑(rotR (↑x.fst : Int).toNat m.toNat (IntKind.i64.wrap (IntKind.i64.wrap (IntKind.i64.wrap ((IntKind.u64.wrap (IntKind.i64.wrap (a + b))).fdiv ((2 : Int) ^ min (Int.toNat (1 : Int)) IntKind.u64.bits)) + m) - (↑x.fst : Int))).toNat L).length : Int) ∧ (rotR (↑x.fst : Int).toNat m.toNat (IntKind.i64.wrap (IntKind.i64.wrap (IntKind.i64.wrap ((IntKind.u64.wrap (IntKind.i64.wrap (a + b))).fdiv ((2 : Int) ^ min (Int.toNat (1 : Int)) IntKind.u64.bits)) + m) - (↑x.fst : Int))).toNat L).length ≤ (10000 : Nat) ∧ AscT ltJ (seg (IntKind.i64.wrap ((IntKind.u64.wrap (IntKind.i64.wrap (a + b))).fdiv ((2 : Int) ^ min (Int.toNat (1 : Int)) IntKind.u64.bits))).toNat (IntKind.i64.wrap (IntKind.i64.wrap (IntKind.i64.wrap ((IntKind.u64.wrap (IntKind.i64.wrap (a + b))).fdiv ((2 : Int) ^ min (Int.toNat (1 : Int)) IntKind.u64.bits)) + m) - (↑x.fst : Int))).toNat (rotR (↑x.fst : Int).toNat m.toNat (IntKind.i64.wrap (IntKind.i64.wrap (IntKind.i64.wrap ((IntKind.u64.wrap (IntKind.i64.wrap (a + b))).fdiv ((2 : Int) ^ min (Int.toNat (1 : Int)) IntKind.u64.bits)) + m) - (↑x.fst : Int))).toNat L)) ∧ AscT ltJ (seg (IntKind.i64.wrap (IntKind.i64.wrap (IntKind.i64.wrap ((IntKind.u64.wrap (IntKind.i64.wrap (a + b))).fdiv ((2 : Int) ^ min (Int.toNat (1 : Int)) IntKind.u64.bits)) + m) - (↑x.fst : Int))).toNat b.toNat (rotR (↑x.fst : Int).toNat m.toNat (IntKind.i64.wrap (IntKind.i64.wrap (IntKind.i64.wrap ((IntKind.u64.wrap (IntKind.i64.wrap (a + b))).fdiv ((2 : Int) ^ min (Int.toNat (1 : Int)) IntKind.u64.bits)) + m) - (↑x.fst : Int))).toNat L)) ∧ Cross ltJ ltJ (seg (IntKind.i64.wrap ((IntKind.u64.wrap (IntKind.i64.wrap (a + b))).fdiv ((2 : Int) ^ min (Int.toNat (1 : Int)) IntKind.u64.bits))).toNat (IntKind.i64.wrap (IntKind.i64.wrap (IntKind.i64.wrap ((IntKind.u64.wrap (IntKind.i64.wrap (a + b))).fdiv ((2 : Int) ^ min (Int.toNat (1 : Int)) IntKind.u64.bits)) + m) - (↑x.fst : Int))).toNat (rotR (↑x.fst : Int).toNat m.toNat (IntKind.i64.wrap (IntKind.i64.wrap (IntKind.i64.wrap ((IntKind.u64.wrap (IntKind.i64.wrap (a + b))).fdiv ((2 : Int) ^ min (Int.toNat (1 : Int)) IntKind.u64.bits)) + m) - (↑x.fst : Int))).toNat L)) (seg (IntKind.i64.wrap (IntKind.i64.wrap (IntKind.i64.wrap ((IntKind.u64.wrap (IntKind.i64.wrap (a + b))).fdiv ((2 : Int) ^ min (Int.toNat (1 : Int)) IntKind.u64.bits)) + m) - (↑x.fst : Int))).toNat b.toNat (rotR (↑x.fst : Int).toNat m.toNat (IntKind.i64.wrap (IntKind.i64.wrap (IntKind.i64.wrap ((IntKind.u64.wrap (IntKind.i64.wrap (a + b))).fdiv ((2 : Int) ^ min (Int.toNat (1 : Int)) IntKind.u64.bits)) + m) - (↑x.fst : Int))).toNat L))) ∧ b.toNat - (IntKind.i64.wrap ((IntKind.u64.wrap (IntKind.i64.wrap (a + b))).fdiv ((2 : Int) ^ min (Int.toNat (1 : Int)) IntKind.u64.bits))).toNat < nrec)) with | true => ((True ∧ True) ∧ ((rangeS ltJ a.toNat b.toNat L = rangeS ltJ (IntKind.i64.wrap ((IntKind.u64.wrap (IntKind.i64.wrap (a + b))).fdiv ((2 : Int) ^ min (Int.toNat (1 : Int)) IntKind.u64.bits))).toNat b.toNat (rotR (↑x.fst : Int).toNat m.toNat (IntKind.i64.wrap (IntKind.i64.wrap (IntKind.i64.wrap ((IntKind.u64.wrap (IntKind.i64.wrap (a + b))).fdiv ((2 : Int) ^ min (Int.toNat (1 : Int)) IntKind.u64.bits)) + m) - (↑x.fst : Int))).toNat L)) ∧ True)) | false => False) | false => ((True ∧ True) ∧ ((rangeS ltJ a.toNat b.toNat L = rotR (↑x.fst : Int).toNat m.toNat (IntKind.i64.wrap (IntKind.i64.wrap (IntKind.i64.wrap ((IntKind.u64.wrap (IntKind.i64.wrap (a + b))).fdiv ((2 : Int) ^ min (Int.toNat (1 : Int)) IntKind.u64.bits)) + m) - (↑x.fst : Int))).toNat L) ∧ True))) | false => ((True ∧ True) ∧ ((rangeS ltJ a.toNat b.toNat L = rotR (↑x.fst : Int).toNat m.toNat (IntKind.i64.wrap (IntKind.i64.wrap (IntKind.i64.wrap ((IntKind.u64.wrap (IntKind.i64.wrap (a + b))).fdiv ((2 : Int) ^ min (Int.toNat (1 : Int)) IntKind.u64.bits)) + m) - (↑x.fst : Int))).toNat L) ∧ True)))) | false => (match (decide (IntKind.i64.wrap ((IntKind.u64.wrap (IntKind.i64.wrap (a + b))).fdiv ((2 : Int) ^ min (Int.toNat (1 : Int)) IntKind.u64.bits)) < IntKind.i64.wrap (IntKind.i64.wrap (IntKind.i64.wrap ((IntKind.u64.wrap (IntKind.i64.wrap (a + b))).fdiv ((2 : Int) ^ min (Int.toNat (1 : Int)) IntKind.u64.bits)) + m) - (↑x.fst : Int)))) with | true => (match (decide (IntKind.i64.wrap (IntKind.i64.wrap (IntKind.i64.wrap ((IntKind.u64.wrap (IntKind.i64.wrap (a + b))).fdiv ((2 : Int) ^ min (Int.toNat (1 : Int)) IntKind.u64.bits)) + m) - (↑x.fst : Int)) < b)) with | true => (match (decide (((0 : Int) ≤ IntKind.i64.wrap ((IntKind.u64.wrap (IntKind.i64.wrap (a + b))).fdiv ((2 : Int) ^ min (Int.toNat (1 : Int)) IntKind.u64.bits)) ∧ IntKind.i64.wrap ((IntKind.u64.wrap (IntKind.i64.wrap (a + b))).fdiv ((2 : Int) ^ min (Int.toNat (1 : Int)) IntKind.u64.bits)) < IntKind.i64.wrap (IntKind.i64.wrap (IntKind.i64.wrap ((IntKind.u64.wrap (IntKind.i64.wrap (a + b))).fdiv ((2 : Int) ^ min (Int.toNat (1 : Int)) IntKind.u64.bits)) + m) - (↑x.fst : Int)) ∧ IntKind.i64.wrap (IntKind.i64.wrap (IntKind.i64.wrap ((IntKind.u64.wrap (IntKind.i64.wrap (a + b))).fdiv ((2 : Int) ^ min (Int.toNat (1 : Int)) IntKind.u64.bits)) + m) - (↑x.fst : Int)) < b ∧ b ≤ (↑(rotR (↑x.fst : Int).toNat m.toNat (IntKind.i64.wrap (IntKind.i64.wrap (IntKind.i64.wrap ((IntKind.u64.wrap (IntKind.i64.wrap (a + b))).fdiv ((2 : Int) ^ min (Int.toNat (1 : Int)) IntKind.u64.bits)) + m) - (↑x.fst : Int))).toNat L).length : Int) ∧ (rotR (↑x.fst : Int).toNat m.toNat (IntKind.i64.wrap (IntKind.i64.wrap (IntKind.i64.wrap ((IntKind.u64.wrap (IntKind.i64.wrap (a + b))).fdiv ((2 : Int) ^ min (Int.toNat (1 : Int)) IntKind.u64.bits)) + m) - (↑x.fst : Int))).toNat L).length ≤ (10000 : Nat) ∧ AscT ltJ (seg (IntKind.i64.wrap ((IntKind.u64.wrap (IntKind.i64.wrap (a + b))).fdiv ((2 : Int) ^ min (Int.toNat (1 : Int)) IntKind.u64.bits))).toNat (IntKind.i64.wrap (IntKind.i64.wrap (IntKind.i64.wrap ((IntKind.u64.wrap (IntKind.i64.wrap (a + b))).fdiv ((2 : Int) ^ min (Int.toNat (1 : Int)) IntKind.u64.bits)) + m) - (↑x.fst : Int))).toNat (rotR (↑x.fst : Int).toNat m.toNat (IntKind.i64.wrap (IntKind.i64.wrap (IntKind.i64.wrap ((IntKind.u64.wrap (IntKind.i64.wrap (a + b))).fdiv ((2 : Int) ^ min (Int.toNat (1 : Int)) IntKind.u64.bits)) + m) - (↑x.fst : Int))).toNat L)) ∧ AscT ltJ (seg (IntKind.i64.wrap (IntKind.i64.wrap (IntKind.i64.wrap ((IntKind.u64.wrap (IntKind.i64.wrap (a + b))).fdiv ((2 : Int) ^ min (Int.toNat (1 : Int)) IntKind.u64.bits)) + m) - (↑x.fst : Int))).toNat b.toNat (rotR (↑x.fst : Int).toNat m.toNat (IntKind.i64.wrap (IntKind.i64.wrap (IntKind.i64.wrap ((IntKind.u64.wrap (IntKind.i64.wrap (a + b))).fdiv ((2 : Int) ^ min (Int.toNat (1 : Int)) IntKind.u64.bits)) + m) - (↑x.fst : Int))).toNat L)) ∧ Cross ltJ ltJ (seg (IntKind.i64.wrap ((IntKind.u64.wrap (IntKind.i64.wrap (a + b))).fdiv ((2 : Int) ^ min (Int.toNat (1 : Int)) IntKind.u64.bits))).toNat (IntKind.i64.wrap (IntKind.i64.wrap (IntKind.i64.wrap ((IntKind.u64.wrap (IntKind.i64.wrap (a + b))).fdiv ((2 : Int) ^ min (Int.toNat (1 : Int)) IntKind.u64.bits)) + m) - (↑x.fst : Int))).toNat (rotR (↑x.fst : Int).toNat m.toNat (IntKind.i64.wrap (IntKind.i64.wrap (IntKind.i64.wrap ((IntKind.u64.wrap (IntKind.i64.wrap (a + b))).fdiv ((2 : Int) ^ min (Int.toNat (1 : Int)) IntKind.u64.bits)) + m) - (↑x.fst : Int))).toNat L)) (seg (IntKind.i64.wrap (IntKind.i64.wrap (IntKind.i64.wrap ((IntKind.u64.wrap (IntKind.i64.wrap (a + b))).fdiv ((2 : Int) ^ min (Int.toNat (1 : Int)) IntKind.u64.bits)) + m) - (↑x.fst : Int))).toNat b.toNat (rotR (↑x.fst : Int).toNat m.toNat (IntKind.i64.wrap (IntKind.i64.wrap (IntKind.i64.wrap ((IntKind.u64.wrap (IntKind.i64.wrap (a + b))).fdiv ((2 : Int) ^ min (Int.toNat (1 : Int)) IntKind.u64.bits)) + m) - (↑x.fst : Int))).toNat L))) ∧ b.toNat - (IntKind.i64.wrap ((IntKind.u64.wrap (IntKind.i64.wrap (a + b))).fdiv ((2 : Int) ^ min (Int.toNat (1 : Int)) IntKind.u64.bits))).toNat < nrec)) with | true => ((True ∧ True) ∧ ((rangeS ltJ a.toNat b.toNat L = rangeS ltJ (IntKind.i64.wrap ((IntKind.u64.wrap (IntKind.i64.wrap (a + b))).fdiv ((2 : Int) ^ min (Int.toNat (1 : Int)) IntKind.u64.bits))).toNat b.toNat (rotR (↑x.fst : Int).toNat m.toNat (IntKind.i64.wrap (IntKind.i64.wrap (IntKind.i64.wrap ((IntKind.u64.wrap (IntKind.i64.wrap (a + b))).fdiv ((2 : Int) ^ min (Int.toNat (1 : Int)) IntKind.u64.bits)) + m) - (↑x.fst : Int))).toNat L)) ∧ True)) | false => False) | false => ((True ∧ True) ∧ ((rangeS ltJ a.toNat b.toNat L = rotR (↑x.fst : Int).toNat m.toNat (IntKind.i64.wrap (IntKind.i64.wrap (IntKind.i64.wrap ((IntKind.u64.wrap (IntKind.i64.wrap (a + b))).fdiv ((2 : Int) ^ min (Int.toNat (1 : Int)) IntKind.u64.bits)) + m) - (↑x.fst : Int))).toNat L) ∧ True))) | false => ((True ∧ True) ∧ ((rangeS ltJ a.toNat b.toNat L = rotR (↑x.fst : Int).toNat m.toNat (IntKind.i64.wrap (IntKind.i64.wrap (IntKind.i64.wrap ((IntKind.u64.wrap (IntKind.i64.wrap (a + b))).fdiv ((2 : Int) ^ min (Int.toNat (1 : Int)) IntKind.u64.bits)) + m) - (↑x.fst : Int))).toNat L) ∧ True)))) | false => False) | false => (match (decide (a < (↑x.fst : Int))) with | true => (match (decide ((↑x.fst : Int) < IntKind.i64.wrap ((IntKind.u64.wrap (IntKind.i64.wrap (a + b))).fdiv ((2 : Int) ^ min (Int.toNat (1 : Int)) IntKind.u64.bits)))) with | true => (match (decide (((0 : Int) ≤ a ∧ a < (↑x.fst : Int) ∧ (↑x.fst : Int) < IntKind.i64.wrap ((IntKind.u64.wrap (IntKind.i64.wrap (a + b))).fdiv ((2 : Int) ^ min (Int.toNat (1 : Int)) IntKind.u64.bits)) ∧ IntKind.i64.wrap ((IntKind.u64.wrap (IntKind.i64.wrap (a + b))).fdiv ((2 : Int) ^ min (Int.toNat (1 : Int)) IntKind.u64.bits)) ≤ (↑L.length : Int) ∧ L.length ≤ (10000 : Nat) ∧ AscT ltJ (seg a.toNat (↑x.fst : Int).toNat L) ∧ AscT ltJ (seg (↑x.fst : Int).toNat (IntKind.i64.wrap ((IntKind.u64.wrap (IntKind.i64.wrap (a + b))).fdiv ((2 : Int) ^ min (Int.toNat (1 : Int)) IntKind.u64.bits))).toNat L) ∧ Cross ltJ ltJ (seg a.toNat (↑x.fst : Int).toNat L) (seg (↑x.fst : Int).toNat (IntKind.i64.wrap ((IntKind.u64.wrap (IntKind.i64.wrap (a + b))).fdiv ((2 : Int) ^ min (Int.toNat (1 : Int)) IntKind.u64.bits))).toNat L)) ∧ (IntKind.i64.wrap ((IntKind.u64.wrap (IntKind.i64.wrap (a + b))).fdiv ((2 : Int) ^ min (Int.toNat (1 : Int)) IntKind.u64.bits))).toNat - a.toNat < nrec)) with | true => (match (decide (IntKind.i64.wrap ((IntKind.u64.wrap (IntKind.i64.wrap (a + b))).fdiv ((2 : Int) ^ min (Int.toNat (1 : Int)) IntKind.u64.bits)) < IntKind.i64.wrap (IntKind.i64.wrap (IntKind.i64.wrap ((IntKind.u64.wrap (IntKind.i64.wrap (a + b))).fdiv ((2 : Int) ^ min (Int.toNat (1 : Int)) IntKind.u64.bits)) + m) - (↑x.fst : Int)))) with | true => (match (decide (IntKind.i64.wrap (IntKind.i64.wrap (IntKind.i64.wrap ((IntKind.u64.wrap (IntKind.i64.wrap (a + b))).fdiv ((2 : Int) ^ min (Int.toNat (1 : Int)) IntKind.u64.bits)) + m) - (↑x.fst : Int)) < b)) with | true => (match (decide (((0 : Int) ≤ IntKind.i64.wrap ((IntKind.u64.wrap (IntKind.i64.wrap (a + b))).fdiv ((2 : Int) ^ min (Int.toNat (1 : Int)) IntKind.u64.bits)) ∧ IntKind.i64.wrap ((IntKind.u64.wrap (IntKind.i64.wrap (a + b))).fdiv ((2 : Int) ^ min (Int.toNat (1 : Int)) IntKind.u64.bits)) < IntKind.i64.wrap (IntKind.i64.wrap (IntKind.i64.wrap ((IntKind.u64.wrap (IntKind.i64.wrap (a + b))).fdiv ((2 : Int) ^ min (Int.toNat (1 : Int)) IntKind.u64.bits)) + m) - (↑x.fst : Int)) ∧ IntKind.i64.wrap (IntKind.i64.wrap (IntKind.i64.wrap ((IntKind.u64.wrap (IntKind.i64.wrap (a + b))).fdiv ((2 : Int) ^ min (Int.toNat (1 : Int)) IntKind.u64.bits)) + m) - (↑x.fst : Int)) < b ∧ b ≤ (↑(rangeS ltJ a.toNat (IntKind.i64.wrap ((IntKind.u64.wrap (IntKind.i64.wrap (a + b))).fdiv ((2 : Int) ^ min (Int.toNat (1 : Int)) IntKind.u64.bits))).toNat L).length : Int) ∧ (rangeS ltJ a.toNat (IntKind.i64.wrap ((IntKind.u64.wrap (IntKind.i64.wrap (a + b))).fdiv ((2 : Int) ^ min (Int.toNat (1 : Int)) IntKind.u64.bits))).toNat L).length ≤ (10000 : Nat) ∧ AscT ltJ (seg (IntKind.i64.wrap ((IntKind.u64.wrap (IntKind.i64.wrap (a + b))).fdiv ((2 : Int) ^ min (Int.toNat (1 : Int)) IntKind.u64.bits))).toNat (IntKind.i64.wrap (IntKind.i64.wrap (IntKind.i64.wrap ((IntKind.u64.wrap (IntKind.i64.wrap (a + b))).fdiv ((2 : Int) ^ min (Int.toNat (1 : Int)) IntKind.u64.bits)) + m) - (↑x.fst : Int))).toNat (rangeS ltJ a.toNat (IntKind.i64.wrap ((IntKind.u64.wrap (IntKind.i64.wrap (a + b))).fdiv ((2 : Int) ^ min (Int.toNat (1 : Int)) IntKind.u64.bits))).toNat L)) ∧ AscT ltJ (seg (IntKind.i64.wrap (IntKind.i64.wrap (IntKind.i64.wrap ((IntKind.u64.wrap (IntKind.i64.wrap (a + b))).fdiv ((2 : Int) ^ min (Int.toNat (1 : Int)) IntKind.u64.bits)) + m) - (↑x.fst : Int))).toNat b.toNat (rangeS ltJ a.toNat (IntKind.i64.wrap ((IntKind.u64.wrap (IntKind.i64.wrap (a + b))).fdiv ((2 : Int) ^ min (Int.toNat (1 : Int)) IntKind.u64.bits))).toNat L)) ∧ Cross ltJ ltJ (seg (IntKind.i64.wrap ((IntKind.u64.wrap (IntKind.i64.wrap (a + b))).fdiv ((2 : Int) ^ min (Int.toNat (1 : Int)) IntKind.u64.bits))).toNat (IntKind.i64.wrap (IntKind.i64.wrap (IntKind.i64.wrap ((IntKind.u64.wrap (IntKind.i64.wrap (a + b))).fdiv ((2 : Int) ^ min (Int.toNat (1 : Int)) IntKind.u64.bits)) + m) - (↑x.fst : Int))).toNat (rangeS ltJ a.toNat (IntKind.i64.wrap ((IntKind.u64.wrap (IntKind.i64.wrap (a + b))).fdiv ((2 : Int) ^ min (Int.toNat (1 : Int)) IntKind.u64.bits))).toNat L)) (seg (IntKind.i64.wrap (IntKind.i64.wrap (IntKind.i64.wrap ((IntKind.u64.wrap (IntKind.i64.wrap (a + b))).fdiv ((2 : Int) ^ min (Int.toNat (1 : Int)) IntKind.u64.bits)) + m) - (↑x.fst : Int))).toNat b.toNat (rangeS ltJ a.toNat (IntKind.i64.wrap ((IntKind.u64.wrap (IntKind.i64.wrap (a + b))).fdiv ((2 : Int) ^ min (Int.toNat (1 : Int)) IntKind.u64.bits))).toNat L))) ∧ b.toNat - (IntKind.i64.wrap ((IntKind.u64.wrap (IntKind.i64.wrap (a + b))).fdiv ((2 : Int) ^ min (Int.toNat (1 : Int)) IntKind.u64.bits))).toNat < nrec)) with | true => ((True ∧ True) ∧ ((rangeS ltJ a.toNat b.toNat L = rangeS ltJ (IntKind.i64.wrap ((IntKind.u64.wrap (IntKind.i64.wrap (a + b))).fdiv ((2 : Int) ^ min (Int.toNat (1 : Int)) IntKind.u64.bits))).toNat b.toNat (rangeS ltJ a.toNat (IntKind.i64.wrap ((IntKind.u64.wrap (IntKind.i64.wrap (a + b))).fdiv ((2 : Int) ^ min (Int.toNat (1 : Int)) IntKind.u64.bits))).toNat L)) ∧ True)) | false => False) | false => ((True ∧ True) ∧ ((rangeS ltJ a.toNat b.toNat L = rangeS ltJ a.toNat (IntKind.i64.wrap ((IntKind.u64.wrap (IntKind.i64.wrap (a + b))).fdiv ((2 : Int) ^ min (Int.toNat (1 : Int)) IntKind.u64.bits))).toNat L) ∧ True))) | false => ((True ∧ True) ∧ ((rangeS ltJ a.toNat b.toNat L = rangeS ltJ a.toNat (IntKind.i64.wrap ((IntKind.u64.wrap (IntKind.i64.wrap (a + b))).fdiv ((2 : Int) ^ min (Int.toNat (1 : Int)) IntKind.u64.bits))).toNat L) ∧ True))) | false => False) | false => (match (decide (IntKind.i64.wrap ((IntKind.u64.wrap (IntKind.i64.wrap (a + b))).fdiv ((2 : Int) ^ min (Int.toNat (1 : Int)) IntKind.u64.bits)) < IntKind.i64.wrap (IntKind.i64.wrap (IntKind.i64.wrap ((IntKind.u64.wrap (IntKind.i64.wrap (a + b))).fdiv ((2 : Int) ^ min (Int.toNat (1 : Int)) IntKind.u64.bits)) + m) - (↑x.fst : Int)))) with | true => (match (decide (IntKind.i64.wrap (IntKind.i64.wrap (IntKind.i64.wrap ((IntKind.u64.wrap (IntKind.i64.wrap (a + b))).fdiv ((2 : Int) ^ min (Int.toNat (1 : Int)) IntKind.u64.bits)) + m) - (↑x.fst : Int)) < b)) with | true => (match (decide (((0 : Int) ≤ IntKind.i64.wrap ((IntKind.u64.wrap (IntKind.i64.wrap (a + b))).fdiv ((2 : Int) ^ min (Int.toNat (1 : Int)) IntKind.u64.bits)) ∧ IntKind.i64.wrap ((IntKind.u64.wrap (IntKind.i64.wrap (a + b))).fdiv ((2 : Int) ^ min (Int.toNat (1 : Int)) IntKind.u64.bits)) < IntKind.i64.wrap (IntKind.i64.wrap (IntKind.i64.wrap ((IntKind.u64.wrap (IntKind.i64.wrap (a + b))).fdiv ((2 : Int) ^ min (Int.toNat (1 : Int)) IntKind.u64.bits)) + m) - (↑x.fst : Int)) ∧ IntKind.i64.wrap (IntKind.i64.wrap (IntKind.i64.wrap ((IntKind.u64.wrap (IntKind.i64.wrap (a + b))).fdiv ((2 : Int) ^ min (Int.toNat (1 : Int)) IntKind.u64.bits)) + m) - (↑x.fst : Int)) < b ∧ b ≤ (↑L.length : Int) ∧ L.length ≤ (10000 : Nat) ∧ AscT ltJ (seg (IntKind.i64.wrap ((IntKind.u64.wrap (IntKind.i64.wrap (a + b))).fdiv ((2 : Int) ^ min (Int.toNat (1 : Int)) IntKind.u64.bits))).toNat (IntKind.i64.wrap (IntKind.i64.wrap (IntKind.i64.wrap ((IntKind.u64.wrap (IntKind.i64.wrap (a + b))).fdiv ((2 : Int) ^ min (Int.toNat (1 : Int)) IntKind.u64.bits)) + m) - (↑x.fst : Int))).toNat L) ∧ AscT ltJ (seg (IntKind.i64.wrap (IntKind.i64.wrap (IntKind.i64.wrap ((IntKind.u64.wrap (IntKind.i64.wrap (a + b))).fdiv ((2 : Int) ^ min (Int.toNat (1 : Int)) IntKind.u64.bits)) + m) - (↑x.fst : Int))).toNat b.toNat L) ∧ Cross ltJ ltJ (seg (IntKind.i64.wrap ((IntKind.u64.wrap (IntKind.i64.wrap (a + b))).fdiv ((2 : Int) ^ min (Int.toNat (1 : Int)) IntKind.u64.bits))).toNat (IntKind.i64.wrap (IntKind.i64.wrap (IntKind.i64.wrap ((IntKind.u64.wrap (IntKind.i64.wrap (a + b))).fdiv ((2 : Int) ^ min (Int.toNat (1 : Int)) IntKind.u64.bits)) + m) - (↑x.fst : Int))).toNat L) (seg (IntKind.i64.wrap (IntKind.i64.wrap (IntKind.i64.wrap ((IntKind.u64.wrap (IntKind.i64.wrap (a + b))).fdiv ((2 : Int) ^ min (Int.toNat (1 : Int)) IntKind.u64.bits)) + m) - (↑x.fst : Int))).toNat b.toNat L)) ∧ b.toNat - (IntKind.i64.wrap ((IntKind.u64.wrap (IntKind.i64.wrap (a + b))).fdiv ((2 : Int) ^ min (Int.toNat (1 : Int)) IntKind.u64.bits))).toNat < nrec)) with | true => ((True ∧ True) ∧ ((rangeS ltJ a.toNat b.toNat L = rangeS ltJ (IntKind.i64.wrap ((IntKind.u64.wrap (IntKind.i64.wrap (a + b))).fdiv ((2 : Int) ^ min (Int.toNat (1 : Int)) IntKind.u64.bits))).toNat b.toNat L) ∧ True)) | false => False) | false => ((True ∧ True) ∧ ((rangeS ltJ a.toNat b.toNat L = L) ∧ True))) | false => ((True ∧ True) ∧ ((rangeS ltJ a.toNat b.toNat L = L) ∧ True)))) | false => (match (decide (IntKind.i64.wrap ((IntKind.u64.wrap (IntKind.i64.wrap (a + b))).fdiv ((2 : Int) ^ min (Int.toNat (1 : Int)) IntKind.u64.bits)) < IntKind.i64.wrap (IntKind.i64.wrap (IntKind.i64.wrap ((IntKind.u64.wrap (IntKind.i64.wrap (a + b))).fdiv ((2 : Int) ^ min (Int.toNat (1 : Int)) IntKind.u64.bits)) + m) - (↑x.fst : Int)))) with | true => (match (decide (IntKind.i64.wrap (IntKind.i64.wrap (IntKind.i64.wrap ((IntKind.u64.wrap (IntKind.i64.wrap (a + b))).fdiv ((2 : Int) ^ min (Int.toNat (1 : Int)) IntKind.u64.bits)) + m) - (↑x.fst : Int)) < b)) with | true => (match (decide (((0 : Int) ≤ IntKind.i64.wrap ((IntKind.u64.wrap (IntKind.i64.wrap (a + b))).fdiv ((2 : Int) ^ min (Int.toNat (1 : Int)) IntKind.u64.bits)) ∧ IntKind.i64.wrap ((IntKind.u64.wrap (IntKind.i64.wrap (a + b))).fdiv ((2 : Int) ^ min (Int.toNat (1 : Int)) IntKind.u64.bits)) < IntKind.i64.wrap (IntKind.i64.wrap (IntKind.i64.wrap ((IntKind.u64.wrap (IntKind.i64.wrap (a + b))).fdiv ((2 : Int) ^ min (Int.toNat (1 : Int)) IntKind.u64.bits)) + m) - (↑x.fst : Int)) ∧ IntKind.i64.wrap (IntKind.i64.wrap (IntKind.i64.wrap ((IntKind.u64.wrap (IntKind.i64.wrap (a + b))).fdiv ((2 : Int) ^ min (Int.toNat (1 : Int)) IntKind.u64.bits)) + m) - (↑x.fst : Int)) < b ∧ b ≤ (↑L.length : Int) ∧ L.length ≤ (10000 : Nat) ∧ AscT ltJ (seg (IntKind.i64.wrap ((IntKind.u64.wrap (IntKind.i64.wrap (a + b))).fdiv ((2 : Int) ^ min (Int.toNat (1 : Int)) IntKind.u64.bits))).toNat (IntKind.i64.wrap (IntKind.i64.wrap (IntKind.i64.wrap ((IntKind.u64.wrap (IntKind.i64.wrap (a + b))).fdiv ((2 : Int) ^ min (Int.toNat (1 : Int)) IntKind.u64.bits)) + m) - (↑x.fst : Int))).toNat L) ∧ AscT ltJ (seg (IntKind.i64.wrap (IntKind.i64.wrap (IntKind.i64.wrap ((IntKind.u64.wrap (IntKind.i64.wrap (a + b))).fdiv ((2 : Int) ^ min (Int.toNat (1 : Int)) IntKind.u64.bits)) + m) - (↑x.fst : Int))).toNat b.toNat L) ∧ Cross ltJ ltJ (seg (IntKind.i64.wrap ((IntKind.u64.wrap (IntKind.i64.wrap (a + b))).fdiv ((2 : Int) ^ min (Int.toNat (1 : Int)) IntKind.u64.bits))).toNat (IntKind.i64.wrap (IntKind.i64.wrap (IntKind.i64.wrap ((IntKind.u64.wrap (IntKind.i64.wrap (a + b))).fdiv ((2 : Int) ^ min (Int.toNat (1 : Int)) IntKind.u64.bits)) + m) - (↑x.fst : Int))).toNat L) (seg (IntKind.i64.wrap (IntKind.i64.wrap (IntKind.i64.wrap ((IntKind.u64.wrap (IntKind.i64.wrap (a + b))).fdiv ((2 : Int) ^ min (Int.toNat (1 : Int)) IntKind.u64.bits)) + m) - (↑x.fst : Int))).toNat b.toNat L)) ∧ b.toNat - (IntKind.i64.wrap ((IntKind.u64.wrap (IntKind.i64.wrap (a + b))).fdiv ((2 : Int) ^ min (Int.toNat (1 : Int)) IntKind.u64.bits))).toNat < nrec)) with | true => ((True ∧ True) ∧ ((rangeS ltJ a.toNat b.toNat L = rangeS ltJ (IntKind.i64.wrap ((IntKind.u64.wrap (IntKind.i64.wrap (a + b))).fdiv ((2 : Int) ^ min (Int.toNat (1 : Int)) IntKind.u64.bits))).toNat b.toNat L) ∧ True)) | false => False) | false => ((True ∧ True) ∧ ((rangeS ltJ a.toNat b.toNat L = L) ∧ True))) | false => ((True ∧ True) ∧ ((rangeS ltJ a.toNat b.toNat L = L) ∧ True))))) | false => (match (decide (a < (↑x.fst : Int))) with | true => (match (decide ((↑x.fst : Int) < IntKind.i64.wrap ((IntKind.u64.wrap (IntKind.i64.wrap (a + b))).fdiv ((2 : Int) ^ min (Int.toNat (1 : Int)) IntKind.u64.bits)))) with | true => (match (decide (((0 : Int) ≤ a ∧ a < (↑x.fst : Int) ∧ (↑x.fst : Int) < IntKind.i64.wrap ((IntKind.u64.wrap (IntKind.i64.wrap (a + b))).fdiv ((2 : Int) ^ min (Int.toNat (1 : Int)) IntKind.u64.bits)) ∧ IntKind.i64.wrap ((IntKind.u64.wrap (IntKind.i64.wrap (a + b))).fdiv ((2 : Int) ^ min (Int.toNat (1 : Int)) IntKind.u64.bits)) ≤ (↑L.length : Int) ∧ L.length ≤ (10000 : Nat) ∧ AscT ltJ (seg a.toNat (↑x.fst : Int).toNat L) ∧ AscT ltJ (seg (↑x.fst : Int).toNat (IntKind.i64.wrap ((IntKind.u64.wrap (IntKind.i64.wrap (a + b))).fdiv ((2 : Int) ^ min (Int.toNat (1 : Int)) IntKind.u64.bits))).toNat L) ∧ Cross ltJ ltJ (seg a.toNat (↑x.fst : Int).toNat L) (seg (↑x.fst : Int).toNat (IntKind.i64.wrap ((IntKind.u64.wrap (IntKind.i64.wrap (a + b))).fdiv ((2 : Int) ^ min (Int.toNat (1 : Int)) IntKind.u64.bits))).toNat L)) ∧ (IntKind.i64.wrap ((IntKind.u64.wrap (IntKind.i64.wrap (a + b))).fdiv ((2 : Int) ^ min (Int.toNat (1 : Int)) IntKind.u64.bits))).toNat - a.toNat < nrec)) with | true => (match (decide (IntKind.i64.wrap ((IntKind.u64.wrap (IntKind.i64.wrap (a + b))).fdiv ((2 : Int) ^ min (Int.toNat (1 : Int)) IntKind.u64.bits)) < IntKind.i64.wrap (IntKind.i64.wrap (IntKind.i64.wrap ((IntKind.u64.wrap (IntKind.i64.wrap (a + b))).fdiv ((2 : Int) ^ min (Int.toNat (1 : Int)) IntKind.u64.bits)) + m) - (↑x.fst : Int)))) with | true => (match (decide (IntKind.i64.wrap (IntKind.i64.wrap (IntKind.i64.wrap ((IntKind.u64.wrap (IntKind.i64.wrap (a + b))).fdiv ((2 : Int) ^ min (Int.toNat (1 : Int)) IntKind.u64.bits)) + m) - (↑x.fst : Int)) < b)) with | true => (match (decide (((0 : Int) ≤ IntKind.i64.wrap ((IntKind.u64.wrap (IntKind.i64.wrap (a + b))).fdiv ((2 : Int) ^ min (Int.toNat (1 : Int)) IntKind.u64.bits)) ∧ IntKind.i64.wrap ((IntKind.u64.wrap (IntKind.i64.wrap (a + b))).fdiv ((2 : Int) ^ min (Int.toNat (1 : Int)) IntKind.u64.bits)) < IntKind.i64.wrap (IntKind.i64.wrap (IntKind.i64.wrap ((IntKind.u64.wrap (IntKind.i64.wrap (a + b))).fdiv ((2 : Int) ^ min (Int.toNat (1 : Int)) IntKind.u64.bits)) + m) - (↑x.fst : Int)) ∧ IntKind.i64.wrap (IntKind.i64.wrap (IntKind.i64.wrap ((IntKind.u64.wrap (IntKind.i64.wrap (a + b))).fdiv ((2 : Int) ^ min (Int.toNat (1 : Int)) IntKind.u64.bits)) + m) - (↑x.fst : Int)) < b ∧ b ≤ (↑(rangeS ltJ a.toNat (IntKind.i64.wrap ((IntKind.u64.wrap (IntKind.i64.wrap (a + b))).fdiv ((2 : Int) ^ min (Int.toNat (1 : Int)) IntKind.u64.bits))).toNat L).length : Int) ∧ (rangeS ltJ a.toNat (IntKind.i64.wrap ((IntKind.u64.wrap (IntKind.i64.wrap (a + b))).fdiv ((2 : Int) ^ min (Int.toNat (1 : Int)) IntKind.u64.bits))).toNat L).length ≤ (10000 : Nat) ∧ AscT ltJ (seg (IntKind.i64.wrap ((IntKind.u64.wrap (IntKind.i64.wrap (a + b))).fdiv ((2 : Int) ^ min (Int.toNat (1 : Int)) IntKind.u64.bits))).toNat (IntKind.i64.wrap (IntKind.i64.wrap (IntKind.i64.wrap ((IntKind.u64.wrap (IntKind.i64.wrap (a + b))).fdiv ((2 : Int) ^ min (Int.toNat (1 : Int)) IntKind.u64.bits)) + m) - (↑x.fst : Int))).toNat (rangeS ltJ a.toNat (IntKind.i64.wrap ((IntKind.u64.wrap (IntKind.i64.wrap (a + b))).fdiv ((2 : Int) ^ min (Int.toNat (1 : Int)) IntKind.u64.bits))).toNat L)) ∧ AscT ltJ (seg (IntKind.i64.wrap (IntKind.i64.wrap (IntKind.i64.wrap ((IntKind.u64.wrap (IntKind.i64.wrap (a + b))).fdiv ((2 : Int) ^ min (Int.toNat (1 : Int)) IntKind.u64.bits)) + m) - (↑x.fst : Int))).toNat b.toNat (rangeS ltJ a.toNat (IntKind.i64.wrap ((IntKind.u64.wrap (IntKind.i64.wrap (a + b))).fdiv ((2 : Int) ^ min (Int.toNat (1 : Int)) IntKind.u64.bits))).toNat L)) ∧ Cross ltJ ltJ (seg (IntKind.i64.wrap ((IntKind.u64.wrap (IntKind.i64.wrap (a + b))).fdiv ((2 : Int) ^ min (Int.toNat (1 : Int)) IntKind.u64.bits))).toNat (IntKind.i64.wrap (IntKind.i64.wrap (IntKind.i64.wrap ((IntKind.u64.wrap (IntKind.i64.wrap (a + b))).fdiv ((2 : Int) ^ min (Int.toNat (1 : Int)) IntKind.u64.bits)) + m) - (↑x.fst : Int))).toNat (rangeS ltJ a.toNat (IntKind.i64.wrap ((IntKind.u64.wrap (IntKind.i64.wrap (a + b))).fdiv ((2 : Int) ^ min (Int.toNat (1 : Int)) IntKind.u64.bits))).toNat L)) (seg (IntKind.i64.wrap (IntKind.i64.wrap (IntKind.i64.wrap ((IntKind.u64.wrap (IntKind.i64.wrap (a + b))).fdiv ((2 : Int) ^ min (Int.toNat (1 : Int)) IntKind.u64.bits)) + m) - (↑x.fst : Int))).toNat b.toNat (rangeS ltJ a.toNat (IntKind.i64.wrap ((IntKind.u64.wrap (IntKind.i64.wrap (a + b))).fdiv ((2 : Int) ^ min (Int.toNat (1 : Int)) IntKind.u64.bits))).toNat L))) ∧ b.toNat - (IntKind.i64.wrap ((IntKind.u64.wrap (IntKind.i64.wrap (a + b))).fdiv ((2 : Int) ^ min (Int.toNat (1 : Int)) IntKind.u64.bits))).toNat < nrec)) with | true => ((True ∧ True) ∧ ((rangeS ltJ a.toNat b.toNat L = rangeS ltJ (IntKind.i64.wrap ((IntKind.u64.wrap (IntKind.i64.wrap (a + b))).fdiv ((2 : Int) ^ min (Int.toNat (1 : Int)) IntKind.u64.bits))).toNat b.toNat (rangeS ltJ a.toNat (IntKind.i64.wrap ((IntKind.u64.wrap (IntKind.i64.wrap (a + b))).fdiv ((2 : Int) ^ min (Int.toNat (1 : Int)) IntKind.u64.bits))).toNat L)) ∧ True)) | false => False) | false => ((True ∧ True) ∧ ((rangeS ltJ a.toNat b.toNat L = rangeS ltJ a.toNat (IntKind.i64.wrap ((IntKind.u64.wrap (IntKind.i64.wrap (a + b))).fdiv ((2 : Int) ^ min (Int.toNat (1 : Int)) IntKind.u64.bits))).toNat L) ∧ True))) | false => ((True ∧ True) ∧ ((rangeS ltJ a.toNat b.toNat L = rangeS ltJ a.toNat (IntKind.i64.wrap ((IntKind.u64.wrap (IntKind.i64.wrap (a + b))).fdiv ((2 : Int) ^ min (Int.toNat (1 : Int)) IntKind.u64.bits))).toNat L) ∧ True))) | false => False) | false => (match (decide (IntKind.i64.wrap ((IntKind.u64.wrap (IntKind.i64.wrap (a + b))).fdiv ((2 : Int) ^ min (Int.toNat (1 : Int)) IntKind.u64.bits)) < IntKind.i64.wrap (IntKind.i64.wrap (IntKind.i64.wrap ((IntKind.u64.wrap (IntKind.i64.wrap (a + b))).fdiv ((2 : Int) ^ min (Int.toNat (1 : Int)) IntKind.u64.bits)) + m) - (↑x.fst : Int)))) with | true => (match (decide (IntKind.i64.wrap (IntKind.i64.wrap (IntKind.i64.wrap ((IntKind.u64.wrap (IntKind.i64.wrap (a + b))).fdiv ((2 : Int) ^ min (Int.toNat (1 : Int)) IntKind.u64.bits)) + m) - (↑x.fst : Int)) < b)) with | true => (match (decide (((0 : Int) ≤ IntKind.i64.wrap ((IntKind.u64.wrap (IntKind.i64.wrap (a + b))).fdiv ((2 : Int) ^ min (Int.toNat (1 : Int)) IntKind.u64.bits)) ∧ IntKind.i64.wrap ((IntKind.u64.wrap (IntKind.i64.wrap (a + b))).fdiv ((2 : Int) ^ min (Int.toNat (1 : Int)) IntKind.u64.bits)) < IntKind.i64.wrap (IntKind.i64.wrap (IntKind.i64.wrap ((IntKind.u64.wrap (IntKind.i64.wrap (a + b))).fdiv ((2 : Int) ^ min (Int.toNat (1 : Int)) IntKind.u64.bits)) + m) - (↑x.fst : Int)) ∧ IntKind.i64.wrap (IntKind.i64.wrap (IntKind.i64.wrap ((IntKind.u64.wrap (IntKind.i64.wrap (a + b))).fdiv ((2 : Int) ^ min (Int.toNat (1 : Int)) IntKind.u64.bits)) + m) - (↑x.fst : Int)) < b ∧ b ≤ (↑L.length : Int) ∧ L.length ≤ (10000 : Nat) ∧ AscT ltJ (seg (IntKind.i64.wrap ((IntKind.u64.wrap (IntKind.i64.wrap (a + b))).fdiv ((2 : Int) ^ min (Int.toNat (1 : Int)) IntKind.u64.bits))).toNat (IntKind.i64.wrap (IntKind.i64.wrap (IntKind.i64.wrap ((IntKind.u64.wrap (IntKind.i64.wrap (a + b))).fdiv ((2 : Int) ^ min (Int.toNat (1 : Int)) IntKind.u64.bits)) + m) - (↑x.fst : Int))).toNat L) ∧ AscT ltJ (seg (IntKind.i64.wrap (IntKind.i64.wrap (IntKind.i64.wrap ((IntKind.u64.wrap (IntKind.i64.wrap (a + b))).fdiv ((2 : Int) ^ min (Int.toNat (1 : Int)) IntKind.u64.bits)) + m) - (↑x.fst : Int))).toNat b.toNat L) ∧ Cross ltJ ltJ (seg (IntKind.i64.wrap ((IntKind.u64.wrap (IntKind.i64.wrap (a + b))).fdiv ((2 : Int) ^ min (Int.toNat (1 : Int)) IntKind.u64.bits))).toNat (IntKind.i64.wrap (IntKind.i64.wrap (IntKind.i64.wrap ((IntKind.u64.wrap (IntKind.i64.wrap (a + b))).fdiv ((2 : Int) ^ min (Int.toNat (1 : Int)) IntKind.u64.bits)) + m) - (↑x.fst : Int))).toNat L) (seg (IntKind.i64.wrap (IntKind.i64.wrap (IntKind.i64.wrap ((IntKind.u64.wrap (IntKind.i64.wrap (a + b))).fdiv ((2 : Int) ^ min (Int.toNat (1 : Int)) IntKind.u64.bits)) + m) - (↑x.fst : Int))).toNat b.toNat L)) ∧ b.toNat - (IntKind.i64.wrap ((IntKind.u64.wrap (IntKind.i64.wrap (a + b))).fdiv ((2 : Int) ^ min (Int.toNat (1 : Int)) IntKind.u64.bits))).toNat < nrec)) with | true => ((True ∧ True) ∧ ((rangeS ltJ a.toNat b.toNat L = rangeS ltJ (IntKind.i64.wrap ((IntKind.u64.wrap (IntKind.i64.wrap (a + b))).fdiv ((2 : Int) ^ min (Int.toNat (1 : Int)) IntKind.u64.bits))).toNat b.toNat L) ∧ True)) | false => False) | false => ((True ∧ True) ∧ ((rangeS ltJ a.toNat b.toNat L = L) ∧ True))) | false => ((True ∧ True) ∧ ((rangeS ltJ a.toNat b.toNat L = L) ∧ True)))) | false => (match (decide (IntKind.i64.wrap ((IntKind.u64.wrap (IntKind.i64.wrap (a + b))).fdiv ((2 : Int) ^ min (Int.toNat (1 : Int)) IntKind.u64.bits)) < IntKind.i64.wrap (IntKind.i64.wrap (IntKind.i64.wrap ((IntKind.u64.wrap (IntKind.i64.wrap (a + b))).fdiv ((2 : Int) ^ min (Int.toNat (1 : Int)) IntKind.u64.bits)) + m) - (↑x.fst : Int)))) with | true => (match (decide (IntKind.i64.wrap (IntKind.i64.wrap (IntKind.i64.wrap ((IntKind.u64.wrap (IntKind.i64.wrap (a + b))).fdiv ((2 : Int) ^ min (Int.toNat (1 : Int)) IntKind.u64.bits)) + m) - (↑x.fst : Int)) < b)) with | true => (match (decide (((0 : Int) ≤ IntKind.i64.wrap ((IntKind.u64.wrap (IntKind.i64.wrap (a + b))).fdiv ((2 : Int) ^ min (Int.toNat (1 : Int)) IntKind.u64.bits)) ∧ IntKind.i64.wrap ((IntKind.u64.wrap (IntKind.i64.wrap (a + b))).fdiv ((2 : Int) ^ min (Int.toNat (1 : Int)) IntKind.u64.bits)) < IntKind.i64.wrap (IntKind.i64.wrap (IntKind.i64.wrap ((IntKind.u64.wrap (IntKind.i64.wrap (a + b))).fdiv ((2 : Int) ^ min (Int.toNat (1 : Int)) IntKind.u64.bits)) + m) - (↑x.fst : Int)) ∧ IntKind.i64.wrap (IntKind.i64.wrap (IntKind.i64.wrap ((IntKind.u64.wrap (IntKind.i64.wrap (a + b))).fdiv ((2 : Int) ^ min (Int.toNat (1 : Int)) IntKind.u64.bits)) + m) - (↑x.fst : Int)) < b ∧ b ≤ (↑L.length : Int) ∧ L.length ≤ (10000 : Nat) ∧ AscT ltJ (seg (IntKind.i64.wrap ((IntKind.u64.wrap (IntKind.i64.wrap (a + b))).fdiv ((2 : Int) ^ min (Int.toNat (1 : Int)) IntKind.u64.bits))).toNat (IntKind.i64.wrap (IntKind.i64.wrap (IntKind.i64.wrap ((IntKind.u64.wrap (IntKind.i64.wrap (a + b))).fdiv ((2 : Int) ^ min (Int.toNat (1 : Int)) IntKind.u64.bits)) + m) - (↑x.fst : Int))).toNat L) ∧ AscT ltJ (seg (IntKind.i64.wrap (IntKind.i64.wrap (IntKind.i64.wrap ((IntKind.u64.wrap (IntKind.i64.wrap (a + b))).fdiv ((2 : Int) ^ min (Int.toNat (1 : Int)) IntKind.u64.bits)) + m) - (↑x.fst : Int))).toNat b.toNat L) ∧ Cross ltJ ltJ (seg (IntKind.i64.wrap ((IntKind.u64.wrap (IntKind.i64.wrap (a + b))).fdiv ((2 : Int) ^ min (Int.toNat (1 : Int)) IntKind.u64.bits))).toNat (IntKind.i64.wrap (IntKind.i64.wrap (IntKind.i64.wrap ((IntKind.u64.wrap (IntKind.i64.wrap (a + b))).fdiv ((2 : Int) ^ min (Int.toNat (1 : Int)) IntKind.u64.bits)) + m) - (↑x.fst : Int))).toNat L) (seg (IntKind.i64.wrap (IntKind.i64.wrap (IntKind.i64.wrap ((IntKind.u64.wrap (IntKind.i64.wrap (a + b))).fdiv ((2 : Int) ^ min (Int.toNat (1 : Int)) IntKind.u64.bits)) + m) - (↑x.fst : Int))).toNat b.toNat L)) ∧ b.toNat - (IntKind.i64.wrap ((IntKind.u64.wrap (IntKind.i64.wrap (a + b))).fdiv ((2 : Int) ^ min (Int.toNat (1 : Int)) IntKind.u64.bits))).toNat < nrec)) with | true => ((True ∧ True) ∧ ((rangeS ltJ a.toNat b.toNat L = rangeS ltJ (IntKind.i64.wrap ((IntKind.u64.wrap (IntKind.i64.wrap (a + b))).fdiv ((2 : Int) ^ min (Int.toNat (1 : Int)) IntKind.u64.bits))).toNat b.toNat L) ∧ True)) | false => False) | false => ((True ∧ True) ∧ ((rangeS ltJ a.toNat b.toNat L = L) ∧ True))) | false => ((True ∧ True) ∧ ((rangeS ltJ a.toNat b.toNat L = L) ∧ True))))))))) | false => ((∃ x : Nat × Nat, (((a.toNat ≤ x.fst) ∧ ((x.fst ≤ x.snd) ∧ ((x.snd ≤ m.toNat) ∧ ((x.fst = a.toNat ∨ ltJ (at' jobE.zero L (↑((a.toNat + b.toNat) / (2 : Nat) + m.toNat - x.fst) : Int)) (at' jobE.zero L (↑(x.fst - (1 : Nat)) : Int)) = false) ∧ (x.snd = m.toNat ∨ ltJ (at' jobE.zero L (↑((a.toNat + b.toNat) / (2 : Nat) + m.toNat - (1 : Nat) - x.snd) : Int)) (at' jobE.zero L (↑x.snd : Int)) = true))))) ∧ ((True ∧ ((a = a) ∧ ((m = m) ∧ ((b = b) ∧ (True ∧ ((IntKind.i64.wrap ((IntKind.u64.wrap (IntKind.i64.wrap (a + b))).fdiv ((2 : Int) ^ min (Int.toNat (1 : Int)) IntKind.u64.bits)) = IntKind.i64.wrap ((IntKind.u64.wrap (IntKind.i64.wrap (a + b))).fdiv ((2 : Int) ^ min (Int.toNat (1 : Int)) IntKind.u64.bits))) ∧ ((IntKind.i64.wrap (IntKind.i64.wrap ((IntKind.u64.wrap (IntKind.i64.wrap (a + b))).fdiv ((2 : Int) ^ min (Int.toNat (1 : Int)) IntKind.u64.bits)) + m) = IntKind.i64.wrap (IntKind.i64.wrap ((IntKind.u64.wrap (IntKind.i64.wrap (a + b))).fdiv ((2 : Int) ^ min (Int.toNat (1 : Int)) IntKind.u64.bits)) + m)) ∧ (((↑x.fst : Int) = a) ∧ (((↑x.snd : Int) = m) ∧ ((IntKind.i64.wrap (IntKind.i64.wrap (IntKind.i64.wrap ((IntKind.u64.wrap (IntKind.i64.wrap (a + b))).fdiv ((2 : Int) ^ min (Int.toNat (1 : Int)) IntKind.u64.bits)) + m) - (1 : Int)) = IntKind.i64.wrap (IntKind.i64.wrap (IntKind.i64.wrap ((IntKind.u64.wrap (IntKind.i64.wrap (a + b))).fdiv ((2 : Int) ^ min (Int.toNat (1 : Int)) IntKind.u64.bits)) + m) - (1 : Int))) ∧ True)))))))))) ∧ ((L = L) ∧ True)))) ∧ (∀ x : Nat × Nat, (((a.toNat ≤ x.fst) ∧ ((x.fst ≤ x.snd) ∧ ((x.snd ≤ m.toNat) ∧ ((x.fst = a.toNat ∨ ltJ (at' jobE.zero L (↑((a.toNat + b.toNat) / (2 : Nat) + m.toNat - x.fst) : Int)) (at' jobE.zero L (↑(x.fst - (1 : Nat)) : Int)) = false) ∧ (x.snd = m.toNat ∨ ltJ (at' jobE.zero L (↑((a.toNat + b.toNat) / (2 : Nat) + m.toNat - (1 : Nat) - x.snd) : Int)) (at' jobE.zero L (↑x.snd : Int)) = true))))) → (match (decide ((↑x.fst : Int) < (↑x.snd : Int))) with | true => (match (inb (IntKind.i64.wrap (IntKind.i64.wrap (IntKind.i64.wrap (IntKind.i64.wrap ((IntKind.u64.wrap (IntKind.i64.wrap (a + b))).fdiv ((2 : Int) ^ min (Int.toNat (1 : Int)) IntKind.u64.bits)) + m) - (1 : Int)) - IntKind.i64.wrap ((IntKind.u64.wrap (IntKind.i64.wrap ((↑x.fst : Int) + (↑x.snd : Int)))).fdiv ((2 : Int) ^ min (Int.toNat (1 : Int)) IntKind.u64.bits)))) L.length) with | true => (match (inb (IntKind.i64.wrap (IntKind.i64.wrap (IntKind.i64.wrap (IntKind.i64.wrap ((IntKind.u64.wrap (IntKind.i64.wrap (a + b))).fdiv ((2 : Int) ^ min (Int.toNat (1 : Int)) IntKind.u64.bits)) + m) - (1 : Int)) - IntKind.i64.wrap ((IntKind.u64.wrap (IntKind.i64.wrap ((↑x.fst : Int) + (↑x.snd : Int)))).fdiv ((2 : Int) ^ min (Int.toNat (1 : Int)) IntKind.u64.bits)))) L.length) with | true => (match (inb (IntKind.i64.wrap ((IntKind.u64.wrap (IntKind.i64.wrap ((↑x.fst : Int) + (↑x.snd : Int)))).fdiv ((2 : Int) ^ min (Int.toNat (1 : Int)) IntKind.u64.bits))) L.length) with | true => (match (inb (IntKind.i64.wrap ((IntKind.u64.wrap (IntKind.i64.wrap ((↑x.fst : Int) + (↑x.snd : Int)))).fdiv ((2 : Int) ^ min (Int.toNat (1 : Int)) IntKind.u64.bits))) L.length) with | true => (match (!decide (cmpJ (at' jobE.zero L (IntKind.i64.wrap (IntKind.i64.wrap (IntKind.i64.wrap (IntKind.i64.wrap ((IntKind.u64.wrap (IntKind.i64.wrap (a + b))).fdiv ((2 : Int) ^ min (Int.toNat (1 : Int)) IntKind.u64.bits)) + m) - (1 : Int)) - IntKind.i64.wrap ((IntKind.u64.wrap (IntKind.i64.wrap ((↑x.fst : Int) + (↑x.snd : Int)))).fdiv ((2 : Int) ^ min (Int.toNat (1 : Int)) IntKind.u64.bits))))) (at' jobE.zero L (IntKind.i64.wrap ((IntKind.u64.wrap (IntKind.i64.wrap ((↑x.fst : Int) + (↑x.snd : Int)))).fdiv ((2 : Int) ^ min (Int.toNat (1 : Int)) IntKind.u64.bits)))) < (0 : Int))) with | true => (∃ x' : Nat × Nat, (((a.toNat ≤ x'.fst) ∧ ((x'.fst ≤ x'.snd) ∧ ((x'.snd ≤ m.toNat) ∧ ((x'.fst = a.toNat ∨ ltJ (at' jobE.zero L (↑((a.toNat + b.toNat) / (2 : Nat) + m.toNat - x'.fst) : Int)) (at' jobE.zero L (↑(x'.fst - (1 : Nat)) : Int)) = false) ∧ (x'.snd = m.toNat ∨ ltJ (at' jobE.zero L (↑((a.toNat + b.toNat) / (2 : Nat) + m.toNat - (1 : Nat) - x'.snd) : Int)) (at' jobE.zero L (↑x'.snd : Int)) = true))))) ∧ ((x'.snd - x'.fst < x.snd - x.fst) ∧ ((True ∧ ((a = a) ∧ ((m = m) ∧ ((b = b) ∧ (True ∧ ((IntKind.i64.wrap ((IntKind.u64.wrap (IntKind.i64.wrap (a + b))).fdiv ((2 : Int) ^ min (Int.toNat (1 : Int)) IntKind.u64.bits)) = IntKind.i64.wrap ((IntKind.u64.wrap (IntKind.i64.wrap (a + b))).fdiv ((2 : Int) ^ min (Int.toNat (1 : Int)) IntKind.u64.bits))) ∧ ((IntKind.i64.wrap (IntKind.i64.wrap ((IntKind.u64.wrap (IntKind.i64.wrap (a + b))).fdiv ((2 : Int) ^ min (Int.toNat (1 : Int)) IntKind.u64.bits)) + m) = IntKind.i64.wrap (IntKind.i64.wrap ((IntKind.u64.wrap (IntKind.i64.wrap (a + b))).fdiv ((2 : Int) ^ min (Int.toNat (1 : Int)) IntKind.u64.bits)) + m)) ∧ (((↑x'.fst : Int) = IntKind.i64.wrap (IntKind.i64.wrap ((IntKind.u64.wrap (IntKind.i64.wrap ((↑x.fst : Int) + (↑x.snd : Int)))).fdiv ((2 : Int) ^ min (Int.toNat (1 : Int)) IntKind.u64.bits)) + (1 : Int))) ∧ (((↑x'.snd : Int) = (↑x.snd : Int)) ∧ ((IntKind.i64.wrap (IntKind.i64.wrap (IntKind.i64.wrap ((IntKind.u64.wrap (IntKind.i64.wrap (a + b))).fdiv ((2 : Int) ^ min (Int.toNat (1 : Int)) IntKind.u64.bits)) + m) - (1 : Int)) = IntKind.i64.wrap (IntKind.i64.wrap (IntKind.i64.wrap ((IntKind.u64.wrap (IntKind.i64.wrap (a + b))).fdiv ((2 : Int) ^ min (Int.toNat (1 : Int)) IntKind.u64.bits)) + m) - (1 : Int))) ∧ True)))))))))) ∧ ((L = L) ∧ True))))) | false => (∃ x' : Nat × Nat, (((a.toNat ≤ x'.fst) ∧ ((x'.fst ≤ x'.snd) ∧ ((x'.snd ≤ m.toNat) ∧ ((x'.fst = a.toNat ∨ ltJ (at' jobE.zero L (↑((a.toNat + b.toNat) / (2 : Nat) + m.toNat - x'.fst) : Int)) (at' jobE.zero L (↑(x'.fst - (1 : Nat)) : Int)) = false) ∧ (x'.snd = m.toNat ∨ ltJ (at' jobE.zero L (↑((a.toNat + b.toNat) / (2 : Nat) + m.toNat - (1 : Nat) - x'.snd) : Int)) (at' jobE.zero L (↑x'.snd : Int)) = true))))) ∧ ((x'.snd - x'.fst < x.snd - x.fst) ∧ ((True ∧ ((a = a) ∧ ((m = m) ∧ ((b = b) ∧ (True ∧ ((IntKind.i64.wrap ((IntKind.u64.wrap (IntKind.i64.wrap (a + b))).fdiv ((2 : Int) ^ min (Int.toNat (1 : Int)) IntKind.u64.bits)) = IntKind.i64.wrap ((IntKind.u64.wrap (IntKind.i64.wrap (a + b))).fdiv ((2 : Int) ^ min (Int.toNat (1 : Int)) IntKind.u64.bits))) ∧ ((IntKind.i64.wrap (IntKind.i64.wrap ((IntKind.u64.wrap (IntKind.i64.wrap (a + b))).fdiv ((2 : Int) ^ min (Int.toNat (1 : Int)) IntKind.u64.bits)) + m) = IntKind.i64.wrap (IntKind.i64.wrap ((IntKind.u64.wrap (IntKind.i64.wrap (a + b))).fdiv ((2 : Int) ^ min (Int.toNat (1 : Int)) IntKind.u64.bits)) + m)) ∧ (((↑x'.fst : Int) = (↑x.fst : Int)) ∧ (((↑x'.snd : Int) = IntKind.i64.wrap ((IntKind.u64.wrap (IntKind.i64.wrap ((↑x.fst : Int) + (↑x.snd : Int)))).fdiv ((2 : Int) ^ min (Int.toNat (1 : Int)) IntKind.u64.bits))) ∧ ((IntKind.i64.wrap (IntKind.i64.wrap (IntKind.i64.wrap ((IntKind.u64.wrap (IntKind.i64.wrap (a + b))).fdiv ((2 : Int) ^ min (Int.toNat (1 : Int)) IntKind.u64.bits)) + m) - (1 : Int)) = IntKind.i64.wrap (IntKind.i64.wrap (IntKind.i64.wrap ((IntKind.u64.wrap (IntKind.i64.wrap (a + b))).fdiv ((2 : Int) ^ min (Int.toNat (1 : Int)) IntKind.u64.bits)) + m) - (1 : Int))) ∧ True)))))))))) ∧ ((L = L) ∧ True)))))) | false => False) | false => False) | false => False) | false => False) | false => (match (decide ((↑x.fst : Int) < m)) with | true => (match (decide (m < IntKind.i64.wrap (IntKind.i64.wrap (IntKind.i64.wrap ((IntKind.u64.wrap (IntKind.i64.wrap (a + b))).fdiv ((2 : Int) ^ min (Int.toNat (1 : Int)) IntKind.u64.bits)) + m) - (↑x.fst : Int)))) with | true => (match (decide ((0 : Int) ≤ (↑x.fst : Int) ∧ (↑x.fst : Int) < m ∧ m < IntKind.i64.wrap (IntKind.i64.wrap (IntKind.i64.wrap ((IntKind.u64.wrap (IntKind.i64.wrap (a + b))).fdiv ((2 : Int) ^ min (Int.toNat (1 : Int)) IntKind.u64.bits)) + m) - (↑x.fst : Int)) ∧ IntKind.i64.wrap (IntKind.i64.wrap (IntKind.i64.wrap ((IntKind.u64.wrap (IntKind.i64.wrap (a + b))).fdiv ((2 : Int) ^ min (Int.toNat (1 : Int)) IntKind.u64.bits)) + m) - (↑x.fst : Int)) ≤ (↑L.length : Int) ∧ L.length ≤ (10000 : Nat))) with | true => (match (decide (a < (↑x.fst : Int))) with | true => (match (decide ((↑x.fst : Int) < IntKind.i64.wrap ((IntKind.u64.wrap (IntKind.i64.wrap (a + b))).fdiv ((2 : Int) ^ min (Int.toNat (1 : Int)) IntKind.u64.bits)))) with | true => (match (decide (((0 : Int) ≤ a ∧ a < (↑x.fst : Int) ∧ (↑x.fst : Int) < IntKind.i64.wrap ((IntKind.u64.wrap (IntKind.i64.wrap (a + b))).fdiv ((2 : Int) ^ min (Int.toNat (1 : Int)) IntKind.u64.bits)) ∧ IntKind.i64.wrap ((IntKind.u64.wrap (IntKind.i64.wrap (a + b))).fdiv ((2 : Int) ^ min (Int.toNat (1 : Int)) IntKind.u64.bits)) ≤ (↑(rotR (↑x.fst : Int).toNat m.toNat (IntKind.i64.wrap (IntKind.i64.wrap (IntKind.i64.wrap ((IntKind.u64.wrap (IntKind.i64.wrap (a + b))).fdiv ((2 : Int) ^ min (Int.toNat (1 : Int)) IntKind.u64.bits)) + m) - (↑x.fst : Int))).toNat L).length : Int) ∧ (rotR (↑x.fst : Int).toNat m.toNat (IntKind.i64.wrap (IntKind.i64.wrap (IntKind.i64.wrap ((IntKind.u64.wrap (IntKind.i64.wrap (a + b))).fdiv ((2 : Int) ^ min (Int.toNat (1 : Int)) IntKind.u64.bits)) + m) - (↑x.fst : Int))).toNat L).length ≤ (10000 : Nat) ∧ AscT ltJ (seg a.toNat (↑x.fst : Int).toNat (rotR (↑x.fst : Int).toNat m.toNat (IntKind.i64.wrap (IntKind.i64.wrap (IntKind.i64.wrap ((IntKind.u64.wrap (IntKind.i64.wrap (a + b))).fdiv ((2 : Int) ^ min (Int.toNat (1 : Int)) IntKind.u64.bits)) + m) - (↑x.fst : Int))).toNat L)) ∧ AscT ltJ (seg (↑x.fst : Int).toNat (IntKind.i64.wrap ((IntKind.u64.wrap (IntKind.i64.wrap (a + b))).fdiv ((2 : Int) ^ min (Int.toNat (1 : Int)) IntKind.u64.bits))).toNat (rotR (↑x.fst : Int).toNat m.toNat (IntKind.i64.wrap (IntKind.i64.wrap (IntKind.i64.wrap ((IntKind.u64.wrap (IntKind.i64.wrap (a + b))).fdiv ((2 : Int) ^ min (Int.toNat (1 : Int)) IntKind.u64.bits)) + m) - (↑x.fst : Int))).toNat L)) ∧ Cross ltJ ltJ (seg a.toNat (↑x.fst : Int).toNat (rotR (↑x.fst : Int).toNat m.toNat (IntKind.i64.wrap (IntKind.i64.wrap (IntKind.i64.wrap ((IntKind.u64.wrap (IntKind.i64.wrap (a + b))).fdiv ((2 : Int) ^ min (Int.toNat (1 : Int)) IntKind.u64.bits)) + m) - (↑x.fst : Int))).toNat L)) (seg (↑x.fst : Int).toNat (IntKind.i64.wrap ((IntKind.u64.wrap (IntKind.i64.wrap (a + b))).fdiv ((2 : Int) ^ min (Int.toNat (1 : Int)) IntKind.u64.bits))).toNat (rotR (↑x.fst : Int).toNat m.toNat (IntKind.i64.wrap (IntKind.i64.wrap (IntKind.i64.wrap ((IntKind.u64.wrap (IntKind.i64.wrap (a + b))).fdiv ((2 : Int) ^ min (Int.toNat (1 : Int)) IntKind.u64.bits)) + m) - (↑x.fst : Int))).toNat L))) ∧ (IntKind.i64.wrap ((IntKind.u64.wrap (IntKind.i64.wrap (a + b))).fdiv ((2 : Int) ^ min (Int.toNat (1 : Int)) IntKind.u64.bits))).toNat - a.toNat < nrec)) with | true => (match (decide (IntKind.i64.wrap ((IntKind.u64.wrap (IntKind.i64.wrap (a + b))).fdiv ((2 : Int) ^ min (Int.toNat (1 : Int)) IntKind.u64.bits)) < IntKind.i64.wrap (IntKind.i64.wrap (IntKind.i64.wrap ((IntKind.u64.wrap (IntKind.i64.wrap (a + b))).fdiv ((2 : Int) ^ min (Int.toNat (1 : Int)) IntKind.u64.bits)) + m) - (↑x.fst : Int)))) with | true => (match (decide (IntKind.i64.wrap (IntKind.i64.wrap (IntKind.i64.wrap ((IntKind.u64.wrap (IntKind.i64.wrap (a + b))).fdiv ((2 : Int) ^ min (Int.toNat (1 : Int)) IntKind.u64.bits)) + m) - (↑x.fst : Int)) < b)) with | true => (match (decide (((0 : Int) ≤ IntKind.i64.wrap ((IntKind.u64.wrap (IntKind.i64.wrap (a + b))).fdiv ((2 : Int) ^ min (Int.toNat (1 : Int)) IntKind.u64.bits)) ∧ IntKind.i64.wrap ((IntKind.u64.wrap (IntKind.i64.wrap (a + b))).fdiv ((2 : Int) ^ min (Int.toNat (1 : Int)) IntKind.u64.bits)) < IntKind.i64.wrap (IntKind.i64.wrap (IntKind.i64.wrap ((IntKind.u64.wrap (IntKind.i64.wrap (a + b))).fdiv ((2 : Int) ^ min (Int.toNat (1 : Int)) IntKind.u64.bits)) + m) - (↑x.fst : Int)) ∧ IntKind.i64.wrap (IntKind.i64.wrap (IntKind.i64.wrap ((IntKind.u64.wrap (IntKind.i64.wrap (a + b))).fdiv ((2 : Int) ^ min (Int.toNat (1 : Int)) IntKind.u64.bits)) + m) - (↑x.fst : Int)) < b ∧ b ≤ (↑(rangeS ltJ a.toNat (IntKind.i64.wrap ((IntKind.u64.wrap (IntKind.i64.wrap (a + b))).fdiv ((2 : Int) ^ min (Int.toNat (1 : Int)) IntKind.u64.bits))).toNat (rotR (↑x.fst : Int).toNat m.toNat (IntKind.i64.wrap (IntKind.i64.wrap (IntKind.i64.wrap ((IntKind.u64.wrap (IntKind.i64.wrap (a + b))).fdiv ((2 : Int) ^ min (Int.toNat (1 : Int)) IntKind.u64.bits)) + m) - (↑x.fst : Int))).toNat L)).length : Int) ∧ (rangeS ltJ a.toNat (IntKind.i64.wrap ((IntKind.u64.wrap (IntKind.i64.wrap (a + b))).fdiv ((2 : Int) ^ min (Int.toNat (1 : Int)) IntKind.u64.bits))).toNat (rotR (↑x.fst : Int).toNat m.toNat (IntKind.i64.wrap (IntKind.i64.wrap (IntKind.i64.wrap ((IntKind.u64.wrap (IntKind.i64.wrap (a + b))).fdiv ((2 : Int) ^ min (Int.toNat (1 : Int)) IntKind.u64.bits)) + m) - (↑x.fst : Int))).toNat L)).length ≤ (10000 : Nat) ∧ AscT ltJ (seg (IntKind.i64.wrap ((IntKind.u64.wrap (IntKind.i64.wrap (a + b))).fdiv ((2 : Int) ^ min (Int.toNat (1 : Int)) IntKind.u64.bits))).toNat (IntKind.i64.wrap (IntKind.i64.wrap (IntKind.i64.wrap ((IntKind.u64.wrap (IntKind.i64.wrap (a + b))).fdiv ((2 : Int) ^ min (Int.toNat (1 : Int)) IntKind.u64.bits)) + m) - (↑x.fst : Int))).toNat (rangeS ltJ a.toNat (IntKind.i64.wrap ((IntKind.u64.wrap (IntKind.i64.wrap (a + b))).fdiv ((2 : Int) ^ min (Int.toNat (1 : Int)) IntKind.u64.bits))).toNat (rotR (↑x.fst : Int).toNat m.toNat (IntKind.i64.wrap (IntKind.i64.wrap (IntKind.i64.wrap ((IntKind.u64.wrap (IntKind.i64.wrap (a + b))).fdiv ((2 : Int) ^ min (Int.toNat (1 : Int)) IntKind.u64.bits)) + m) - (↑x.fst : Int))).toNat L))) ∧ AscT ltJ (seg (IntKind.i64.wrap (IntKind.i64.wrap (IntKind.i64.wrap ((IntKind.u64.wrap (IntKind.i64.wrap (a + b))).fdiv ((2 : Int) ^ min (Int.toNat (1 : Int)) IntKind.u64.bits)) + m) - (↑x.fst : Int))).toNat b.toNat (rangeS ltJ a.toNat (IntKind.i64.wrap ((IntKind.u64.wrap (IntKind.i64.wrap (a + b))).fdiv ((2 : Int) ^ min (Int.toNat (1 : Int)) IntKind.u64.bits))).toNat (rotR (↑x.fst : Int).toNat m.toNat (IntKind.i64.wrap (IntKind.i64.wrap (IntKind.i64.wrap ((IntKind.u64.wrap (IntKind.i64.wrap (a + b))).fdiv ((2 : Int) ^ min (Int.toNat (1 : Int)) IntKind.u64.bits)) + m) - (↑x.fst : Int))).toNat L))) ∧ Cross ltJ ltJ (seg (IntKind.i64.wrap ((IntKind.u64.wrap (IntKind.i64.wrap (a + b))).fdiv ((2 : Int) ^ min (Int.toNat (1 : Int)) IntKind.u64.bits))).toNat (IntKind.i64.wrap (IntKind.i64.wrap (IntKind.i64.wrap ((IntKind.u64.wrap (IntKind.i64.wrap (a + b))).fdiv ((2 : Int) ^ min (Int.toNat (1 : Int)) IntKind.u64.bits)) + m) - (↑x.fst : Int))).toNat (rangeS ltJ a.toNat (IntKind.i64.wrap ((IntKind.u64.wrap (IntKind.i64.wrap (a + b))).fdiv ((2 : Int) ^ min (Int.toNat (1 : Int)) IntKind.u64.bits))).toNat (rotR (↑x.fst : Int).toNat m.toNat (IntKind.i64.wrap (IntKind.i64.wrap (IntKind.i64.wrap ((IntKind.u64.wrap (IntKind.i64.wrap (a + b))).fdiv ((2 : Int) ^ min (Int.toNat (1 : Int)) IntKind.u64.bits)) + m) - (↑x.fst : Int))).toNat L))) (seg (IntKind.i64.wrap (IntKind.i64.wrap (IntKind.i64.wrap ((IntKind.u64.wrap (IntKind.i64.wrap (a + b))).fdiv ((2 : Int) ^ min (Int.toNat (1 : Int)) IntKind.u64.bits)) + m) - (↑x.fst : Int))).toNat b.toNat (rangeS ltJ a.toNat (IntKind.i64.wrap ((IntKind.u64.wrap (IntKind.i64.wrap (a + b))).fdiv ((2 : Int) ^ min (Int.toNat (1 : Int)) IntKind.u64.bits))).toNat (rotR (↑x.fst : Int).toNat m.toNat (IntKind.i64.wrap (IntKind.i64.wrap (IntKind.i64.wrap ((IntKind.u64.wrap (IntKind.i64.wrap (a + b))).fdiv ((2 : Int) ^ min (Int.toNat (1 : Int)) IntKind.u64.bits)) + m) - (↑x.fst : Int))).toNat L)))) ∧ b.toNat - (IntKind.i64.wrap ((IntKind.u64.wrap (IntKind.i64.wrap (a + b))).fdiv ((2 : Int) ^ min (Int.toNat (1 : Int)) IntKind.u64.bits))).toNat < nrec)) with | true => ((True ∧ True) ∧ ((rangeS ltJ a.toNat b.toNat L = rangeS ltJ (IntKind.i64.wrap ((IntKind.u64.wrap (IntKind.i64.wrap (a + b))).fdiv ((2 : Int) ^ min (Int.toNat (1 : Int)) IntKind.u64.bits))).toNat b.toNat (rangeS ltJ a.toNat (IntKind.i64.wrap ((IntKind.u64.wrap (IntKind.i64.wrap (a + b))).fdiv ((2 : Int) ^ min (Int.toNat (1 : Int)) IntKind.u64.bits))).toNat (rotR (↑x.fst : Int).toNat m.toNat (IntKind.i64.wrap (IntKind.i64.wrap (IntKind.i64.wrap ((IntKind.u64.wrap (IntKind.i64.wrap (a + b))).fdiv ((2 : Int) ^ min (Int.toNat (1 : Int)) IntKind.u64.bits)) + m) - (↑x.fst : Int))).toNat L))) ∧ True)) | false => False) | false => ((True ∧ True) ∧ ((rangeS ltJ a.toNat b.toNat L = rangeS ltJ a.toNat (IntKind.i64.wrap ((IntKind.u64.wrap (IntKind.i64.wrap (a + b))).fdiv ((2 : Int) ^ min (Int.toNat (1 : Int)) IntKind.u64.bits))).toNat (rotR (↑x.fst : Int).toNat m.toNat (IntKind.i64.wrap (IntKind.i64.wrap (IntKind.i64.wrap ((IntKind.u64.wrap (IntKind.i64.wrap (a + b))).fdiv ((2 : Int) ^ min (Int.toNat (1 : Int)) IntKind.u64.bits)) + m) - (↑x.fst : Int))).toNat L)) ∧ True))) | false => ((True ∧ True) ∧ ((rangeS ltJ a.toNat b.toNat L = rangeS ltJ a.toNat (IntKind.i64.wrap ((IntKind.u64.wrap (IntKind.i64.wrap (a + b))).fdiv ((2 : Int) ^ min (Int.toNat (1 : Int)) IntKind.u64.bits))).toNat (rotR (↑x.fst : Int).toNat m.toNat (IntKind.i64.wrap (IntKind.i64.wrap (IntKind.i64.wrap ((IntKind.u64.wrap (IntKind.i64.wrap (a + b))).fdiv ((2 : Int) ^ min (Int.toNat (1 : Int)) IntKind.u64.bits)) + m) - (↑x.fst : Int))).toNat L)) ∧ True))) | false => False) | false => (match (decide (IntKind.i64.wrap ((IntKind.u64.wrap (IntKind.i64.wrap (a + b))).fdiv ((2 : Int) ^ min (Int.toNat (1 : Int)) IntKind.u64.bits)) < IntKind.i64.wrap (IntKind.i64.wrap (IntKind.i64.wrap ((IntKind.u64.wrap (IntKind.i64.wrap (a + b))).fdiv ((2 : Int) ^ min (Int.toNat (1 : Int)) IntKind.u64.bits)) + m) - (↑x.fst : Int)))) with | true => (match (decide (IntKind.i64.wrap (IntKind.i64.wrap (IntKind.i64.wrap ((IntKind.u64.wrap (IntKind.i64.wrap (a + b))).fdiv ((2 : Int) ^ min (Int.toNat (1 : Int)) IntKind.u64.bits)) + m) - (↑x.fst : Int)) < b)) with | true => (match (decide (((0 : Int) ≤ IntKind.i64.wrap ((IntKind.u64.wrap (IntKind.i64.wrap (a + b))).fdiv ((2 : Int) ^ min (Int.toNat (1 : Int)) IntKind.u64.bits)) ∧ IntKind.i64.wrap ((IntKind.u64.wrap (IntKind.i64.wrap (a + b))).fdiv ((2 : Int) ^ min (Int.toNat (1 : Int)) IntKind.u64.bits)) < IntKind.i64.wrap (IntKind.i64.wrap (IntKind.i64.wrap ((IntKind.u64.wrap (IntKind.i64.wrap (a + b))).fdiv ((2 : Int) ^ min (Int.toNat (1 : Int)) IntKind.u64.bits)) + m) - (↑x.fst : Int)) ∧ IntKind.i64.wrap (IntKind.i64.wrap (IntKind.i64.wrap ((IntKind.u64.wrap (IntKind.i64.wrap (a + b))).fdiv ((2 : Int) ^ min (Int.toNat (1 : Int)) IntKind.u64.bits)) + m) - (↑x.fst : Int)) < b ∧ b ≤ (↑(rotR (↑x.fst : Int).toNat m.toNat (IntKind.i64.wrap (IntKind.i64.wrap (IntKind.i64.wrap ((IntKind.u64.wrap (IntKind.i64.wrap (a + b))).fdiv ((2 : Int) ^ min (Int.toNat (1 : Int)) IntKind.u64.bits)) + m) - (↑x.fst : Int))).toNat L).length : Int) ∧ (rotR (↑x.fst : Int).toNat m.toNat (IntKind.i64.wrap (IntKind.i64.wrap (IntKind.i64.wrap ((IntKind.u64.wrap (IntKind.i64.wrap (a + b))).fdiv ((2 : Int) ^ min (Int.toNat (1 : Int)) IntKind.u64.bits)) + m) - (↑x.fst : Int))).toNat L).length ≤ (10000 : Nat) ∧ AscT ltJ (seg (IntKind.i64.wrap ((IntKind.u64.wrap (IntKind.i64.wrap (a + b))).fdiv ((2 : Int) ^ min (Int.toNat (1 : Int)) IntKind.u64.bits))).toNat (IntKind.i64.wrap (IntKind.i64.wrap (IntKind.i64.wrap ((IntKind.u64.wrap (IntKind.i64.wrap (a + b))).fdiv ((2 : Int) ^ min (Int.toNat (1 : Int)) IntKind.u64.bits)) + m) - (↑x.fst : Int))).toNat (rotR (↑x.fst : Int).toNat m.toNat (IntKind.i64.wrap (IntKind.i64.wrap (IntKind.i64.wrap ((IntKind.u64.wrap (IntKind.i64.wrap (a + b))).fdiv ((2 : Int) ^ min (Int.toNat (1 : Int)) IntKind.u64.bits)) + m) - (↑x.fst : Int))).toNat L)) ∧ AscT ltJ (seg (IntKind.i64.wrap (IntKind.i64.wrap (IntKind.i64.wrap ((IntKind.u64.wrap (IntKind.i64.wrap (a + b))).fdiv ((2 : Int) ^ min (Int.toNat (1 : Int)) IntKind.u64.bits)) + m) - (↑x.fst : Int))).toNat b.toNat (rotR (↑x.fst : Int).toNat m.toNat (IntKind.i64.wrap (IntKind.i64.wrap (IntKind.i64.wrap ((IntKind.u64.wrap (IntKind.i64.wrap (a + b))).fdiv ((2 : Int) ^ min (Int.toNat (1 : Int)) IntKind.u64.bits)) + m) - (↑x.fst : Int))).toNat L)) ∧ Cross ltJ ltJ (seg (IntKind.i64.wrap ((IntKind.u64.wrap (IntKind.i64.wrap (a + b))).fdiv ((2 : Int) ^ min (Int.toNat (1 : Int)) IntKind.u64.bits))).toNat (IntKind.i64.wrap (IntKind.i64.wrap (IntKind.i64.wrap ((IntKind.u64.wrap (IntKind.i64.wrap (a + b))).fdiv ((2 : Int) ^ min (Int.toNat (1 : Int)) IntKind.u64.bits)) + m) - (↑x.fst : Int))).toNat (rotR (↑x.fst : Int).toNat m.toNat (IntKind.i64.wrap (IntKind.i64.wrap (IntKind.i64.wrap ((IntKind.u64.wrap (IntKind.i64.wrap (a + b))).fdiv ((2 : Int) ^ min (Int.toNat (1 : Int)) IntKind.u64.bits)) + m) - (↑x.fst : Int))).toNat L)) (seg (IntKind.i64.wrap (IntKind.i64.wrap (IntKind.i64.wrap ((IntKind.u64.wrap (IntKind.i64.wrap (a + b))).fdiv ((2 : Int) ^ min (Int.toNat (1 : Int)) IntKind.u64.bits)) + m) - (↑x.fst : Int))).toNat b.toNat (rotR (↑x.fst : Int).toNat m.toNat (IntKind.i64.wrap (IntKind.i64.wrap (IntKind.i64.wrap ((IntKind.u64.wrap (IntKind.i64.wrap (a + b))).fdiv ((2 : Int) ^ min (Int.toNat (1 : Int)) IntKind.u64.bits)) + m) - (↑x.fst : Int))).toNat L))) ∧ b.toNat - (IntKind.i64.wrap ((IntKind.u64.wrap (IntKind.i64.wrap (a + b))).fdiv ((2 : Int) ^ min (Int.toNat (1 : Int)) IntKind.u64.bits))).toNat < nrec)) with | true => ((True ∧ True) ∧ ((rangeS ltJ a.toNat b.toNat L = rangeS ltJ (IntKind.i64.wrap ((IntKind.u64.wrap (IntKind.i64.wrap (a + b))).fdiv ((2 : Int) ^ min (Int.toNat (1 : Int)) IntKind.u64.bits))).toNat b.toNat (rotR (↑x.fst : Int).toNat m.toNat (IntKind.i64.wrap (IntKind.i64.wrap (IntKind.i64.wrap ((IntKind.u64.wrap (IntKind.i64.wrap (a + b))).fdiv ((2 : Int) ^ min (Int.toNat (1 : Int)) IntKind.u64.bits)) + m) - (↑x.fst : Int))).toNat L)) ∧ True)) | false => False) | false => ((True ∧ True) ∧ ((rangeS ltJ a.toNat b.toNat L = rotR (↑x.fst : Int).toNat m.toNat (IntKind.i64.wrap (IntKind.i64.wrap (IntKind.i64.wrap ((IntKind.u64.wrap (IntKind.i64.wrap (a + b))).fdiv ((2 : Int) ^ min (Int.toNat (1 : Int)) IntKind.u64.bits)) + m) - (↑x.fst : Int))).toNat L) ∧ True))) | false => ((True ∧ True) ∧ ((rangeS ltJ a.toNat b.toNat L = rotR (↑x.fst : Int).toNat m.toNat (IntKind.i64.wrap (IntKind.i64.wrap (IntKind.i64.wrap ((IntKind.u64.wrap (IntKind.i64.wrap (a + b))).fdiv ((2 : Int) ^ min (Int.toNat (1 : Int)) IntKind.u64.bits)) + m) - (↑x.fst : Int))).toNat L) ∧ True)))) | false => (match (decide (IntKind.i64.wrap ((IntKind.u64.wrap (IntKind.i64.wrap (a + b))).fdiv ((2 : Int) ^ min (Int.toNat (1 : Int)) IntKind.u64.bits)) < IntKind.i64.wrap (IntKind.i64.wrap (IntKind.i64.wrap ((IntKind.u64.wrap (IntKind.i64.wrap (a + b))).fdiv ((2 : Int) ^ min (Int.toNat (1 : Int)) IntKind.u64.bits)) + m) - (↑x.fst : Int)))) with | true => (match (decide (IntKind.i64.wrap (IntKind.i64.wrap (IntKind.i64.wrap ((IntKind.u64.wrap (IntKind.i64.wrap (a + b))).fdiv ((2 : Int) ^ min (Int.toNat (1 : Int)) IntKind.u64.bits)) + m) - (↑x.fst : Int)) < b)) with | true => (match (decide (((0 : Int) ≤ IntKind.i64.wrap ((IntKind.u64.wrap (IntKind.i64.wrap (a + b))).fdiv ((2 : Int) ^ min (Int.toNat (1 : Int)) IntKind.u64.bits)) ∧ IntKind.i64.wrap ((IntKind.u64.wrap (IntKind.i64.wrap (a + b))).fdiv ((2 : Int) ^ min (Int.toNat (1 : Int)) IntKind.u64.bits)) < IntKind.i64.wrap (IntKind.i64.wrap (IntKind.i64.wrap ((IntKind.u64.wrap (IntKind.i64.wrap (a + b))).fdiv ((2 : Int) ^ min (Int.toNat (1 : Int)) IntKind.u64.bits)) + m) - (↑x.fst : Int)) ∧ IntKind.i64.wrap (IntKind.i64.wrap (IntKind.i64.wrap ((IntKind.u64.wrap (IntKind.i64.wrap (a + b))).fdiv ((2 : Int) ^ min (Int.toNat (1 : Int)) IntKind.u64.bits)) + m) - (↑x.fst : Int)) < b ∧ b ≤ (↑(rotR (↑x.fst : Int).toNat m.toNat (IntKind.i64.wrap (IntKind.i64.wrap (IntKind.i64.wrap ((IntKind.u64.wrap (IntKind.i64.wrap (a + b))).fdiv ((2 : Int) ^ min (Int.toNat (1 : Int)) IntKind.u64.bits)) + m) - (↑x.fst : Int))).toNat L).length : Int) ∧ (rotR (↑x.fst : Int).toNat m.toNat (IntKind.i64.wrap (IntKind.i64.wrap (IntKind.i64.wrap ((IntKind.u64.wrap (IntKind.i64.wrap (a + b))).fdiv ((2 : Int) ^ min (Int.toNat (1 : Int)) IntKind.u64.bits)) + m) - (↑x.fst : Int))).toNat L).length ≤ (10000 : Nat) ∧ AscT ltJ (seg (IntKind.i64.wrap ((IntKind.u64.wrap (IntKind.i64.wrap (a + b))).fdiv ((2 : Int) ^ min (Int.toNat (1 : Int)) IntKind.u64.bits))).toNat (IntKind.i64.wrap (IntKind.i64.wrap (IntKind.i64.wrap ((IntKind.u64.wrap (IntKind.i64.wrap (a + b))).fdiv ((2 : Int) ^ min (Int.toNat (1 : Int)) IntKind.u64.bits)) + m) - (↑x.fst : Int))).toNat (rotR (↑x.fst : Int).toNat m.toNat (IntKind.i64.wrap (IntKind.i64.wrap (IntKind.i64.wrap ((IntKind.u64.wrap (IntKind.i64.wrap (a + b))).fdiv ((2 : Int) ^ min (Int.toNat (1 : Int)) IntKind.u64.bits)) + m) - (↑x.fst : Int))).toNat L)) ∧ AscT ltJ (seg (IntKind.i64.wrap (IntKind.i64.wrap (IntKind.i64.wrap ((IntKind.u64.wrap (IntKind.i64.wrap (a + b))).fdiv ((2 : Int) ^ min (Int.toNat (1 : Int)) IntKind.u64.bits)) + m) - (↑x.fst : Int))).toNat b.toNat (rotR (↑x.fst : Int).toNat m.toNat (IntKind.i64.wrap (IntKind.i64.wrap (IntKind.i64.wrap ((IntKind.u64.wrap (IntKind.i64.wrap (a + b))).fdiv ((2 : Int) ^ min (Int.toNat (1 : Int)) IntKind.u64.bits)) + m) - (↑x.fst : Int))).toNat L)) ∧ Cross ltJ ltJ (seg (IntKind.i64.wrap ((IntKind.u64.wrap (IntKind.i64.wrap (a + b))).fdiv ((2 : Int) ^ min (Int.toNat (1 : Int)) IntKind.u64.bits))).toNat (IntKind.i64.wrap (IntKind.i64.wrap (IntKind.i64.wrap ((IntKind.u64.wrap (IntKind.i64.wrap (a + b))).fdiv ((2 : Int) ^ min (Int.toNat (1 : Int)) IntKind.u64.bits)) + m) - (↑x.fst : Int))).toNat (rotR (↑x.fst : Int).toNat m.toNat (IntKind.i64.wrap (IntKind.i64.wrap (IntKind.i64.wrap ((IntKind.u64.wrap (IntKind.i64.wrap (a + b))).fdiv ((2 : Int) ^ min (Int.toNat (1 : Int)) IntKind.u64.bits)) + m) - (↑x.fst : Int))).toNat L)) (seg (IntKind.i64.wrap (IntKind.i64.wrap (IntKind.i64.wrap ((IntKind.u64.wrap (IntKind.i64.wrap (a + b))).fdiv ((2 : Int) ^ min (Int.toNat (1 : Int)) IntKind.u64.bits)) + m) - (↑x.fst : Int))).toNat b.toNat (rotR (↑x.fst : Int).toNat m.toNat (IntKind.i64.wrap (IntKind.i64.wrap (IntKind.i64.wrap ((IntKind.u64.wrap (IntKind.i64.wrap (a + b))).fdiv ((2 : Int) ^ min (Int.toNat (1 : Int)) IntKind.u64.bits)) + m) - (↑x.fst : Int))).toNat L))) ∧ b.toNat - (IntKind.i64.wrap ((IntKind.u64.wrap (IntKind.i64.wrap (a + b))).fdiv ((2 : Int) ^ min (Int.toNat (1 : Int)) IntKind.u64.bits))).toNat < nrec)) with | true => ((True ∧ True) ∧ ((rangeS ltJ a.toNat b.toNat L = rangeS ltJ (IntKind.i64.wrap ((IntKind.u64.wrap (IntKind.i64.wrap (a + b))).fdiv ((2 : Int) ^ min (Int.toNat (1 : Int)) IntKind.u64.bits))).toNat b.toNat (rotR (↑x.fst : Int).toNat m.toNat (IntKind.i64.wrap (IntKind.i64.wrap (IntKind.i64.wrap ((IntKind.u64.wrap (IntKind.i64.wrap (a + b))).fdiv ((2 : Int) ^ min (Int.toNat (1 : Int)) IntKind.u64.bits)) + m) - (↑x.fst : Int))).toNat L)) ∧ True)) | false => False) | false => ((True ∧ True) ∧ ((rangeS ltJ a.toNat b.toNat L = rotR (↑x.fst : Int).toNat m.toNat (IntKind.i64.wrap (IntKind.i64.wrap (IntKind.i64.wrap ((IntKind.u64.wrap (IntKind.i64.wrap (a + b))).fdiv ((2 : Int) ^ min (Int.toNat (1 : Int)) IntKind.u64.bits)) + m) - (↑x.fst : Int))).toNat L) ∧ True))) | false => ((True ∧ True) ∧ ((rangeS ltJ a.toNat b.toNat L = rotR (↑x.fst : Int).toNat m.toNat (IntKind.i64.wrap (IntKind.i64.wrap (IntKind.i64.wrap ((IntKind.u64.wrap (IntKind.i64.wrap (a + b))).fdiv ((2 : Int) ^ min (Int.toNat (1 : Int)) IntKind.u64.bits)) + m) - (↑x.fst : Int))).toNat L) ∧ True)))) | false => False) | false => (match (decide (a < (↑x.fst : Int))) with | true => (match (decide ((↑x.fst : Int) < IntKind.i64.wrap ((IntKind.u64.wrap (IntKind.i64.wrap (a + b))).fdiv ((2 : Int) ^ min (Int.toNat (1 : Int)) IntKind.u64.bits)))) with | true => (match (decide (((0 : Int) ≤ a ∧ a < (↑x.fst : Int) ∧ (↑x.fst : Int) < IntKind.i64.wrap ((IntKind.u64.wrap (IntKind.i64.wrap (a + b))).fdiv ((2 : Int) ^ min (Int.toNat (1 : Int)) IntKind.u64.bits)) ∧ IntKind.i64.wrap ((IntKind.u64.wrap (IntKind.i64.wrap (a + b))).fdiv ((2 : Int) ^ min (Int.toNat (1 : Int)) IntKind.u64.bits)) ≤ (↑L.length : Int) ∧ L.length ≤ (10000 : Nat) ∧ AscT ltJ (seg a.toNat (↑x.fst : Int).toNat L) ∧ AscT ltJ (seg (↑x.fst : Int).toNat (IntKind.i64.wrap ((IntKind.u64.wrap (IntKind.i64.wrap (a + b))).fdiv ((2 : Int) ^ min (Int.toNat (1 : Int)) IntKind.u64.bits))).toNat L) ∧ Cross ltJ ltJ (seg a.toNat (↑x.fst : Int).toNat L) (seg (↑x.fst : Int).toNat (IntKind.i64.wrap ((IntKind.u64.wrap (IntKind.i64.wrap (a + b))).fdiv ((2 : Int) ^ min (Int.toNat (1 : Int)) IntKind.u64.bits))).toNat L)) ∧ (IntKind.i64.wrap ((IntKind.u64.wrap (IntKind.i64.wrap (a + b))).fdiv ((2 : Int) ^ min (Int.toNat (1 : Int)) IntKind.u64.bits))).toNat - a.toNat < nrec)) with | true => (match (decide (IntKind.i64.wrap ((IntKind.u64.wrap (IntKind.i64.wrap (a + b))).fdiv ((2 : Int) ^ min (Int.toNat (1 : Int)) IntKind.u64.bits)) < IntKind.i64.wrap (IntKind.i64.wrap (IntKind.i64.wrap ((IntKind.u64.wrap (IntKind.i64.wrap (a + b))).fdiv ((2 : Int) ^ min (Int.toNat (1 : Int)) IntKind.u64.bits)) + m) - (↑x.fst : Int)))) with | true => (match (decide (IntKind.i64.wrap (IntKind.i64.wrap (IntKind.i64.wrap ((IntKind.u64.wrap (IntKind.i64.wrap (a + b))).fdiv ((2 : Int) ^ min (Int.toNat (1 : Int)) IntKind.u64.bits)) + m) - (↑x.fst : Int)) < b)) with | true => (match (decide (((0 : Int) ≤ IntKind.i64.wrap ((IntKind.u64.wrap (IntKind.i64.wrap (a + b))).fdiv ((2 : Int) ^ min (Int.toNat (1 : Int)) IntKind.u64.bits)) ∧ IntKind.i64.wrap ((IntKind.u64.wrap (IntKind.i64.wrap (a + b))).fdiv ((2 : Int) ^ min (Int.toNat (1 : Int)) IntKind.u64.bits)) < IntKind.i64.wrap (IntKind.i64.wrap (IntKind.i64.wrap ((IntKind.u64.wrap (IntKind.i64.wrap (a + b))).fdiv ((2 : Int) ^ min (Int.toNat (1 : Int)) IntKind.u64.bits)) + m) - (↑x.fst : Int)) ∧ IntKind.i64.wrap (IntKind.i64.wrap (IntKind.i64.wrap ((IntKind.u64.wrap (IntKind.i64.wrap (a + b))).fdiv ((2 : Int) ^ min (Int.toNat (1 : Int)) IntKind.u64.bits)) + m) - (↑x.fst : Int)) < b ∧ b ≤ (↑(rangeS ltJ a.toNat (IntKind.i64.wrap ((IntKind.u64.wrap (IntKind.i64.wrap (a + b))).fdiv ((2 : Int) ^ min (Int.toNat (1 : Int)) IntKind.u64.bits))).toNat L).length : Int) ∧ (rangeS ltJ a.toNat (IntKind.i64.wrap ((IntKind.u64.wrap (IntKind.i64.wrap (a + b))).fdiv ((2 : Int) ^ min (Int.toNat (1 : Int)) IntKind.u64.bits))).toNat L).length ≤ (10000 : Nat) ∧ AscT ltJ (seg (IntKind.i64.wrap ((IntKind.u64.wrap (IntKind.i64.wrap (a + b))).fdiv ((2 : Int) ^ min (Int.toNat (1 : Int)) IntKind.u64.bits))).toNat (IntKind.i64.wrap (IntKind.i64.wrap (IntKind.i64.wrap ((IntKind.u64.wrap (IntKind.i64.wrap (a + b))).fdiv ((2 : Int) ^ min (Int.toNat (1 : Int)) IntKind.u64.bits)) + m) - (↑x.fst : Int))).toNat (rangeS ltJ a.toNat (IntKind.i64.wrap ((IntKind.u64.wrap (IntKind.i64.wrap (a + b))).fdiv ((2 : Int) ^ min (Int.toNat (1 : Int)) IntKind.u64.bits))).toNat L)) ∧ AscT ltJ (seg (IntKind.i64.wrap (IntKind.i64.wrap (IntKind.i64.wrap ((IntKind.u64.wrap (IntKind.i64.wrap (a + b))).fdiv ((2 : Int) ^ min (Int.toNat (1 : Int)) IntKind.u64.bits)) + m) - (↑x.fst : Int))).toNat b.toNat (rangeS ltJ a.toNat (IntKind.i64.wrap ((IntKind.u64.wrap (IntKind.i64.wrap (a + b))).fdiv ((2 : Int) ^ min (Int.toNat (1 : Int)) IntKind.u64.bits))).toNat L)) ∧ Cross ltJ ltJ (seg (IntKind.i64.wrap ((IntKind.u64.wrap (IntKind.i64.wrap (a + b))).fdiv ((2 : Int) ^ min (Int.toNat (1 : Int)) IntKind.u64.bits))).toNat (IntKind.i64.wrap (IntKind.i64.wrap (IntKind.i64.wrap ((IntKind.u64.wrap (IntKind.i64.wrap (a + b))).fdiv ((2 : Int) ^ min (Int.toNat (1 : Int)) IntKind.u64.bits)) + m) - (↑x.fst : Int))).toNat (rangeS ltJ a.toNat (IntKind.i64.wrap ((IntKind.u64.wrap (IntKind.i64.wrap (a + b))).fdiv ((2 : Int) ^ min (Int.toNat (1 : Int)) IntKind.u64.bits))).toNat L)) (seg (IntKind.i64.wrap (IntKind.i64.wrap (IntKind.i64.wrap ((IntKind.u64.wrap (IntKind.i64.wrap (a + b))).fdiv ((2 : Int) ^ min (Int.toNat (1 : Int)) IntKind.u64.bits)) + m) - (↑x.fst : Int))).toNat b.toNat (rangeS ltJ a.toNat (IntKind.i64.wrap ((IntKind.u64.wrap (IntKind.i64.wrap (a + b))).fdiv ((2 : Int) ^ min (Int.toNat (1 : Int)) IntKind.u64.bits))).toNat L))) ∧ b.toNat - (IntKind.i64.wrap ((IntKind.u64.wrap (IntKind.i64.wrap (a + b))).fdiv ((2 : Int) ^ min (Int.toNat (1 : Int)) IntKind.u64.bits))).toNat < nrec)) with | true => ((True ∧ True) ∧ ((rangeS ltJ a.toNat b.toNat L = rangeS ltJ (IntKind.i64.wrap ((IntKind.u64.wrap (IntKind.i64.wrap (a + b))).fdiv ((2 : Int) ^ min (Int.toNat (1 : Int)) IntKind.u64.bits))).toNat b.toNat (rangeS ltJ a.toNat (IntKind.i64.wrap ((IntKind.u64.wrap (IntKind.i64.wrap (a + b))).fdiv ((2 : Int) ^ min (Int.toNat (1 : Int)) IntKind.u64.bits))).toNat L)) ∧ True)) | false => False) | false => ((True ∧ True) ∧ ((rangeS ltJ a.toNat b.toNat L = rangeS ltJ a.toNat (IntKind.i64.wrap ((IntKind.u64.wrap (IntKind.i64.wrap (a + b))).fdiv ((2 : Int) ^ min (Int.toNat (1 : Int)) IntKind.u64.bits))).toNat L) ∧ True))) | false => ((True ∧ True) ∧ ((rangeS ltJ a.toNat b.toNat L = rangeS ltJ a.toNat (IntKind.i64.wrap ((IntKind.u64.wrap (IntKind.i64.wrap (a + b))).fdiv ((2 : Int) ^ min (Int.toNat (1 : Int)) IntKind.u64.bits))).toNat L) ∧ True))) | false => False) | false => (match (decide (IntKind.i64.wrap ((IntKind.u64.wrap (IntKind.i64.wrap (a + b))).fdiv ((2 : Int) ^ min (Int.toNat (1 : Int)) IntKind.u64.bits)) < IntKind.i64.wrap (IntKind.i64.wrap (IntKind.i64.wrap ((IntKind.u64.wrap (IntKind.i64.wrap (a + b))).fdiv ((2 : Int) ^ min (Int.toNat (1 : Int)) IntKind.u64.bits)) + m) - (↑x.fst : Int)))) with | true => (match (decide (IntKind.i64.wrap (IntKind.i64.wrap (IntKind.i64.wrap ((IntKind.u64.wrap (IntKind.i64.wrap (a + b))).fdiv ((2 : Int) ^ min (Int.toNat (1 : Int)) IntKind.u64.bits)) + m) - (↑x.fst : Int)) < b)) with | true => (match (decide (((0 : Int) ≤ IntKind.i64.wrap ((IntKind.u64.wrap (IntKind.i64.wrap (a + b))).fdiv ((2 : Int) ^ min (Int.toNat (1 : Int)) IntKind.u64.bits)) ∧ IntKind.i64.wrap ((IntKind.u64.wrap (IntKind.i64.wrap (a + b))).fdiv ((2 : Int) ^ min (Int.toNat (1 : Int)) IntKind.u64.bits)) < IntKind.i64.wrap (IntKind.i64.wrap (IntKind.i64.wrap ((IntKind.u64.wrap (IntKind.i64.wrap (a + b))).fdiv ((2 : Int) ^ min (Int.toNat (1 : Int)) IntKind.u64.bits)) + m) - (↑x.fst : Int)) ∧ IntKind.i64.wrap (IntKind.i64.wrap (IntKind.i64.wrap ((IntKind.u64.wrap (IntKind.i64.wrap (a + b))).fdiv ((2 : Int) ^ min (Int.toNat (1 : Int)) IntKind.u64.bits)) + m) - (↑x.fst : Int)) < b ∧ b ≤ (↑L.length : Int) ∧ L.length ≤ (10000 : Nat) ∧ AscT ltJ (seg (IntKind.i64.wrap ((IntKind.u64.wrap (IntKind.i64.wrap (a + b))).fdiv ((2 : Int) ^ min (Int.toNat (1 : Int)) IntKind.u64.bits))).toNat (IntKind.i64.wrap (IntKind.i64.wrap (IntKind.i64.wrap ((IntKind.u64.wrap (IntKind.i64.wrap (a + b))).fdiv ((2 : Int) ^ min (Int.toNat (1 : Int)) IntKind.u64.bits)) + m) - (↑x.fst : Int))).toNat L) ∧ AscT ltJ (seg (IntKind.i64.wrap (IntKind.i64.wrap (IntKind.i64.wrap ((IntKind.u64.wrap (IntKind.i64.wrap (a + b))).fdiv ((2 : Int) ^ min (Int.toNat (1 : Int)) IntKind.u64.bits)) + m) - (↑x.fst : Int))).toNat b.toNat L) ∧ Cross ltJ ltJ (seg (IntKind.i64.wrap ((IntKind.u64.wrap (IntKind.i64.wrap (a + b))).fdiv ((2 : Int) ^ min (Int.toNat (1 : Int)) IntKind.u64.bits))).toNat (IntKind.i64.wrap (IntKind.i64.wrap (IntKind.i64.wrap ((IntKind.u64.wrap (IntKind.i64.wrap (a + b))).fdiv ((2 : Int) ^ min (Int.toNat (1 : Int)) IntKind.u64.bits)) + m) - (↑x.fst : Int))).toNat L) (seg (IntKind.i64.wrap (IntKind.i64.wrap (IntKind.i64.wrap ((IntKind.u64.wrap (IntKind.i64.wrap (a + b))).fdiv ((2 : Int) ^ min (Int.toNat (1 : Int)) IntKind.u64.bits)) + m) - (↑x.fst : Int))).toNat b.toNat L)) ∧ b.toNat - (IntKind.i64.wrap ((IntKind.u64.wrap (IntKind.i64.wrap (a + b))).fdiv ((2 : Int) ^ min (Int.toNat (1 : Int)) IntKind.u64.bits))).toNat < nrec)) with | true => ((True ∧ True) ∧ ((rangeS ltJ a.toNat b.toNat L = rangeS ltJ (IntKind.i64.wrap ((IntKind.u64.wrap (IntKind.i64.wrap (a + b))).fdiv ((2 : Int) ^ min (Int.toNat (1 : Int)) IntKind.u64.bits))).toNat b.toNat L) ∧ True)) | false => False) | false => ((True ∧ True) ∧ ((rangeS ltJ a.toNat b.toNat L = L) ∧ True))) | false => ((True ∧ True) ∧ ((rangeS ltJ a.toNat b.toNat L = L) ∧ True)))) | false => (match (decide (IntKind.i64.wrap ((IntKind.u64.wrap (IntKind.i64.wrap (a + b))).fdiv ((2 : Int) ^ min (Int.toNat (1 : Int)) IntKind.u64.bits)) < IntKind.i64.wrap (IntKind.i64.wrap (IntKind.i64.wrap ((IntKind.u64.wrap (IntKind.i64.wrap (a + b))).fdiv ((2 : Int) ^ min (Int.toNat (1 : Int)) IntKind.u64.bits)) + m) - (↑x.fst : Int)))) with | true => (match (decide (IntKind.i64.wrap (IntKind.i64.wrap (IntKind.i64.wrap ((IntKind.u64.wrap (IntKind.i64.wrap (a + b))).fdiv ((2 : Int) ^ min (Int.toNat (1 : Int)) IntKind.u64.bits)) + m) - (↑x.fst : Int)) < b)) with | true => (match (decide (((0 : Int) ≤ IntKind.i64.wrap ((IntKind.u64.wrap (IntKind.i64.wrap (a + b))).fdiv ((2 : Int) ^ min (Int.toNat (1 : Int)) IntKind.u64.bits)) ∧ IntKind.i64.wrap ((IntKind.u64.wrap (IntKind.i64.wrap (a + b))).fdiv ((2 : Int) ^ min (Int.toNat (1 : Int)) IntKind.u64.bits)) < IntKind.i64.wrap (IntKind.i64.wrap (IntKind.i64.wrap ((IntKind.u64.wrap (IntKind.i64.wrap (a + b))).fdiv ((2 : Int) ^ min (Int.toNat (1 : Int)) IntKind.u64.bits)) + m) - (↑x.fst : Int)) ∧ IntKind.i64.wrap (IntKind.i64.wrap (IntKind.i64.wrap ((IntKind.u64.wrap (IntKind.i64.wrap (a + b))).fdiv ((2 : Int) ^ min (Int.toNat (1 : Int)) IntKind.u64.bits)) + m) - (↑x.fst : Int)) < b ∧ b ≤ (↑L.length : Int) ∧ L.length ≤ (10000 : Nat) ∧ AscT ltJ (seg (IntKind.i64.wrap ((IntKind.u64.wrap (IntKind.i64.wrap (a + b))).fdiv ((2 : Int) ^ min (Int.toNat (1 : Int)) IntKind.u64.bits))).toNat (IntKind.i64.wrap (IntKind.i64.wrap (IntKind.i64.wrap ((IntKind.u64.wrap (IntKind.i64.wrap (a + b))).fdiv ((2 : Int) ^ min (Int.toNat (1 : Int)) IntKind.u64.bits)) + m) - (↑x.fst : Int))).toNat L) ∧ AscT ltJ (seg (IntKind.i64.wrap (IntKind.i64.wrap (IntKind.i64.wrap ((IntKind.u64.wrap (IntKind.i64.wrap (a + b))).fdiv ((2 : Int) ^ min (Int.toNat (1 : Int)) IntKind.u64.bits)) + m) - (↑x.fst : Int))).toNat b.toNat L) ∧ Cross ltJ ltJ (seg (IntKind.i64.wrap ((IntKind.u64.wrap (IntKind.i64.wrap (a + b))).fdiv ((2 : Int) ^ min (Int.toNat (1 : Int)) IntKind.u64.bits))).toNat (IntKind.i64.wrap (IntKind.i64.wrap (IntKind.i64.wrap ((IntKind.u64.wrap (IntKind.i64.wrap (a + b))).fdiv ((2 : Int) ^ min (Int.toNat (1 : Int)) IntKind.u64.bits)) + m) - (↑x.fst : Int))).toNat L) (seg (IntKind.i64.wrap (IntKind.i64.wrap (IntKind.i64.wrap ((IntKind.u64.wrap (IntKind.i64.wrap (a + b))).fdiv ((2 : Int) ^ min (Int.toNat (1 : Int)) IntKind.u64.bits)) + m) - (↑x.fst : Int))).toNat b.toNat L)) ∧ b.toNat - (IntKind.i64.wrap ((IntKind.u64.wrap (IntKind.i64.wrap (a + b))).fdiv ((2 : Int) ^ min (Int.toNat (1 : Int)) IntKind.u64.bits))).toNat < nrec)) with | true => ((True ∧ True) ∧ ((rangeS ltJ a.toNat b.toNat L = rangeS ltJ (IntKind.i64.wrap ((IntKind.u64.wrap (IntKind.i64.wrap (a + b))).fdiv ((2 : Int) ^ min (Int.toNat (1 : Int)) IntKind.u64.bits))).toNat b.toNat L) ∧ True)) | false => False) | false => ((True ∧ True) ∧ ((rangeS ltJ a.toNat b.toNat L = L) ∧ True))) | false => ((True ∧ True) ∧ ((rangeS ltJ a.toNat b.toNat L = L) ∧ True))))) | false => (match (decide (a < (↑x.fst : Int))) with | true => (match (decide ((↑x.fst : Int) < IntKind.i64.wrap ((IntKind.u64.wrap (IntKind.i64.wrap (a + b))).fdiv ((2 : Int) ^ min (Int.toNat (1 : Int)) IntKind.u64.bits)))) with | true => (match (decide (((0 : Int) ≤ a ∧ a < (↑x.fst : Int) ∧ (↑x.fst : Int) < IntKind.i64.wrap ((IntKind.u64.wrap (IntKind.i64.wrap (a + b))).fdiv ((2 : Int) ^ min (Int.toNat (1 : Int)) IntKind.u64.bits)) ∧ IntKind.i64.wrap ((IntKind.u64.wrap (IntKind.i64.wrap (a + b))).fdiv ((2 : Int) ^ min (Int.toNat (1 : Int)) IntKind.u64.bits)) ≤ (↑L.length : Int) ∧ L.length ≤ (10000 : Nat) ∧ AscT ltJ (seg a.toNat (↑x.fst : Int).toNat L) ∧ AscT ltJ (seg (↑x.fst : Int).toNat (IntKind.i64.wrap ((IntKind.u64.wrap (IntKind.i64.wrap (a + b))).fdiv ((2 : Int) ^ min (Int.toNat (1 : Int)) IntKind.u64.bits))).toNat L) ∧ Cross ltJ ltJ (seg a.toNat (↑x.fst : Int).toNat L) (seg (↑x.fst : Int).toNat (IntKind.i64.wrap ((IntKind.u64.wrap (IntKind.i64.wrap (a + b))).fdiv ((2 : Int) ^ min (Int.toNat (1 : Int)) IntKind.u64.bits))).toNat L)) ∧ (IntKind.i64.wrap ((IntKind.u64.wrap (IntKind.i64.wrap (a + b))).fdiv ((2 : Int) ^ min (Int.toNat (1 : Int)) IntKind.u64.bits))).toNat - a.toNat < nrec)) with | true => (match (decide (IntKind.i64.wrap ((IntKind.u64.wrap (IntKind.i64.wrap (a + b))).fdiv ((2 : Int) ^ min (Int.toNat (1 : Int)) IntKind.u64.bits)) < IntKind.i64.wrap (IntKind.i64.wrap (IntKind.i64.wrap ((IntKind.u64.wrap (IntKind.i64.wrap (a + b))).fdiv ((2 : Int) ^ min (Int.toNat (1 : Int)) IntKind.u64.bits)) + m) - (↑x.fst : Int)))) with | true => (match (decide (IntKind.i64.wrap (IntKind.i64.wrap (IntKind.i64.wrap ((IntKind.u64.wrap (IntKind.i64.wrap (a + b))).fdiv ((2 : Int) ^ min (Int.toNat (1 : Int)) IntKind.u64.bits)) + m) - (↑x.fst : Int)) < b)) with | true => (match (decide (((0 : Int) ≤ IntKind.i64.wrap ((IntKind.u64.wrap (IntKind.i64.wrap (a + b))).fdiv ((2 : Int) ^ min (Int.toNat (1 : Int)) IntKind.u64.bits)) ∧ IntKind.i64.wrap ((IntKind.u64.wrap (IntKind.i64.wrap (a + b))).fdiv ((2 : Int) ^ min (Int.toNat (1 : Int)) IntKind.u64.bits)) < IntKind.i64.wrap (IntKind.i64.wrap (IntKind.i64.wrap ((IntKind.u64.wrap (IntKind.i64.wrap (a + b))).fdiv ((2 : Int) ^ min (Int.toNat (1 : Int)) IntKind.u64.bits)) + m) - (↑x.fst : Int)) ∧ IntKind.i64.wrap (IntKind.i64.wrap (IntKind.i64.wrap ((IntKind.u64.wrap (IntKind.i64.wrap (a + b))).fdiv ((2 : Int) ^ min (Int.toNat (1 : Int)) IntKind.u64.bits)) + m) - (↑x.fst : Int)) < b ∧ b ≤ (↑(rangeS ltJ a.toNat (IntKind.i64.wrap ((IntKind.u64.wrap (IntKind.i64.wrap (a + b))).fdiv ((2 : Int) ^ min (Int.toNat (1 : Int)) IntKind.u64.bits))).toNat L).length : Int) ∧ (rangeS ltJ a.toNat (IntKind.i64.wrap ((IntKind.u64.wrap (IntKind.i64.wrap (a + b))).fdiv ((2 : Int) ^ min (Int.toNat (1 : Int)) IntKind.u64.bits))).toNat L).length ≤ (10000 : Nat) ∧ AscT ltJ (seg (IntKind.i64.wrap ((IntKind.u64.wrap (IntKind.i64.wrap (a + b))).fdiv ((2 : Int) ^ min (Int.toNat (1 : Int)) IntKind.u64.bits))).toNat (IntKind.i64.wrap (IntKind.i64.wrap (IntKind.i64.wrap ((IntKind.u64.wrap (IntKind.i64.wrap (a + b))).fdiv ((2 : Int) ^ min (Int.toNat (1 : Int)) IntKind.u64.bits)) + m) - (↑x.fst : Int))).toNat (rangeS ltJ a.toNat (IntKind.i64.wrap ((IntKind.u64.wrap (IntKind.i64.wrap (a + b))).fdiv ((2 : Int) ^ min (Int.toNat (1 : Int)) IntKind.u64.bits))).toNat L)) ∧ AscT ltJ (seg (IntKind.i64.wrap (IntKind.i64.wrap (IntKind.i64.wrap ((IntKind.u64.wrap (IntKind.i64.wrap (a + b))).fdiv ((2 : Int) ^ min (Int.toNat (1 : Int)) IntKind.u64.bits)) + m) - (↑x.fst : Int))).toNat b.toNat (rangeS ltJ a.toNat (IntKind.i64.wrap ((IntKind.u64.wrap (IntKind.i64.wrap (a + b))).fdiv ((2 : Int) ^ min (Int.toNat (1 : Int)) IntKind.u64.bits))).toNat L)) ∧ Cross ltJ ltJ (seg (IntKind.i64.wrap ((IntKind.u64.wrap (IntKind.i64.wrap (a + b))).fdiv ((2 : Int) ^ min (Int.toNat (1 : Int)) IntKind.u64.bits))).toNat (IntKind.i64.wrap (IntKind.i64.wrap (IntKind.i64.wrap ((IntKind.u64.wrap (IntKind.i64.wrap (a + b))).fdiv ((2 : Int) ^ min (Int.toNat (1 : Int)) IntKind.u64.bits)) + m) - (↑x.fst : Int))).toNat (rangeS ltJ a.toNat (IntKind.i64.wrap ((IntKind.u64.wrap (IntKind.i64.wrap (a + b))).fdiv ((2 : Int) ^ min (Int.toNat (1 : Int)) IntKind.u64.bits))).toNat L)) (seg (IntKind.i64.wrap (IntKind.i64.wrap (IntKind.i64.wrap ((IntKind.u64.wrap (IntKind.i64.wrap (a + b))).fdiv ((2 : Int) ^ min (Int.toNat (1 : Int)) IntKind.u64.bits)) + m) - (↑x.fst : Int))).toNat b.toNat (rangeS ltJ a.toNat (IntKind.i64.wrap ((IntKind.u64.wrap (IntKind.i64.wrap (a + b))).fdiv ((2 : Int) ^ min (Int.toNat (1 : Int)) IntKind.u64.bits))).toNat L))) ∧ b.toNat - (IntKind.i64.wrap ((IntKind.u64.wrap (IntKind.i64.wrap (a + b))).fdiv ((2 : Int) ^ min (Int.toNat (1 : Int)) IntKind.u64.bits))).toNat < nrec)) with | true => ((True ∧ True) ∧ ((rangeS ltJ a.toNat b.toNat L = rangeS ltJ (IntKind.i64.wrap ((IntKind.u64.wrap (IntKind.i64.wrap (a + b))).fdiv ((2 : Int) ^ min (Int.toNat (1 : Int)) IntKind.u64.bits))).toNat b.toNat (rangeS ltJ a.toNat (IntKind.i64.wrap ((IntKind.u64.wrap (IntKind.i64.wrap (a + b))).fdiv ((2 : Int) ^ min (Int.toNat (1 : Int)) IntKind.u64.bits))).toNat L)) ∧ True)) | false => False) | false => ((True ∧ True) ∧ ((rangeS ltJ a.toNat b.toNat L = rangeS ltJ a.toNat (IntKind.i64.wrap ((IntKind.u64.wrap (IntKind.i64.wrap (a + b))).fdiv ((2 : Int) ^ min (Int.toNat (1 : Int)) IntKind.u64.bits))).toNat L) ∧ True))) | false => ((True ∧ True) ∧ ((rangeS ltJ a.toNat b.toNat L = rangeS ltJ a.toNat (IntKind.i64.wrap ((IntKind.u64.wrap (IntKind.i64.wrap (a + b))).fdiv ((2 : Int) ^ min (Int.toNat (1 : Int)) IntKind.u64.bits))).toNat L) ∧ True))) | false => False) | false => (match (decide (IntKind.i64.wrap ((IntKind.u64.wrap (IntKind.i64.wrap (a + b))).fdiv ((2 : Int) ^ min (Int.toNat (1 : Int)) IntKind.u64.bits)) < IntKind.i64.wrap (IntKind.i64.wrap (IntKind.i64.wrap ((IntKind.u64.wrap (IntKind.i64.wrap (a + b))).fdiv ((2 : Int) ^ min (Int.toNat (1 : Int)) IntKind.u64.bits)) + m) - (↑x.fst : Int)))) with | true => (match (decide (IntKind.i64.wrap (IntKind.i64.wrap (IntKind.i64.wrap ((IntKind.u64.wrap (IntKind.i64.wrap (a + b))).fdiv ((2 : Int) ^ min (Int.toNat (1 : Int)) IntKind.u64.bits)) + m) - (↑x.fst : Int)) < b)) with | true => (match (decide (((0 : Int) ≤ IntKind.i64.wrap ((IntKind.u64.wrap (IntKind.i64.wrap (a + b))).fdiv ((2 : Int) ^ min (Int.toNat (1 : Int)) IntKind.u64.bits)) ∧ IntKind.i64.wrap ((IntKind.u64.wrap (IntKind.i64.wrap (a + b))).fdiv ((2 : Int) ^ min (Int.toNat (1 : Int)) IntKind.u64.bits)) < IntKind.i64.wrap (IntKind.i64.wrap (IntKind.i64.wrap ((IntKind.u64.wrap (IntKind.i64.wrap (a + b))).fdiv ((2 : Int) ^ min (Int.toNat (1 : Int)) IntKind.u64.bits)) + m) - (↑x.fst : Int)) ∧ IntKind.i64.wrap (IntKind.i64.wrap (IntKind.i64.wrap ((IntKind.u64.wrap (IntKind.i64.wrap (a + b))).fdiv ((2 : Int) ^ min (Int.toNat (1 : Int)) IntKind.u64.bits)) + m) - (↑x.fst : Int)) < b ∧ b ≤ (↑L.length : Int) ∧ L.length ≤ (10000 : Nat) ∧ AscT ltJ (seg (IntKind.i64.wrap ((IntKind.u64.wrap (IntKind.i64.wrap (a + b))).fdiv ((2 : Int) ^ min (Int.toNat (1 : Int)) IntKind.u64.bits))).toNat (IntKind.i64.wrap (IntKind.i64.wrap (IntKind.i64.wrap ((IntKind.u64.wrap (IntKind.i64.wrap (a + b))).fdiv ((2 : Int) ^ min (Int.toNat (1 : Int)) IntKind.u64.bits)) + m) - (↑x.fst : Int))).toNat L) ∧ AscT ltJ (seg (IntKind.i64.wrap (IntKind.i64.wrap (IntKind.i64.wrap ((IntKind.u64.wrap (IntKind.i64.wrap (a + b))).fdiv ((2 : Int) ^ min (Int.toNat (1 : Int)) IntKind.u64.bits)) + m) - (↑x.fst : Int))).toNat b.toNat L) ∧ Cross ltJ ltJ (seg (IntKind.i64.wrap ((IntKind.u64.wrap (IntKind.i64.wrap (a + b))).fdiv ((2 : Int) ^ min (Int.toNat (1 : Int)) IntKind.u64.bits))).toNat (IntKind.i64.wrap (IntKind.i64.wrap (IntKind.i64.wrap ((IntKind.u64.wrap (IntKind.i64.wrap (a + b))).fdiv ((2 : Int) ^ min (Int.toNat (1 : Int)) IntKind.u64.bits)) + m) - (↑x.fst : Int))).toNat L) (seg (IntKind.i64.wrap (IntKind.i64.wrap (IntKind.i64.wrap ((IntKind.u64.wrap (IntKind.i64.wrap (a + b))).fdiv ((2 : Int) ^ min (Int.toNat (1 : Int)) IntKind.u64.bits)) + m) - (↑x.fst : Int))).toNat b.toNat L)) ∧ b.toNat - (IntKind.i64.wrap ((IntKind.u64.wrap (IntKind.i64.wrap (a + b))).fdiv ((2 : Int) ^ min (Int.toNat (1 : Int)) IntKind.u64.bits))).toNat < nrec)) with | true => ((True ∧ True) ∧ ((rangeS ltJ a.toNat b.toNat L = rangeS ltJ (IntKind.i64.wrap ((IntKind.u64.wrap (IntKind.i64.wrap (a + b))).fdiv ((2 : Int) ^ min (Int.toNat (1 : Int)) IntKind.u64.bits))).toNat b.toNat L) ∧ True)) | false => False) | false => ((True ∧ True) ∧ ((rangeS ltJ a.toNat b.toNat L = L) ∧ True))) | false => ((True ∧ True) ∧ ((rangeS ltJ a.toNat b.toNat L = L) ∧ True)))) | false => (match (decide (IntKind.i64.wrap ((IntKind.u64.wrap (IntKind.i64.wrap (a + b))).fdiv ((2 : Int) ^ min (Int.toNat (1 : Int)) IntKind.u64.bits)) < IntKind.i64.wrap (IntKind.i64.wrap (IntKind.i64.wrap ((IntKind.u64.wrap (IntKind.i64.wrap (a + b))).fdiv ((2 : Int) ^ min (Int.toNat (1 : Int)) IntKind.u64.bits)) + m) - (↑x.fst : Int)))) with | true => (match (decide (IntKind.i64.wrap (IntKind.i64.wrap (IntKind.i64.wrap ((IntKind.u64.wrap (IntKind.i64.wrap (a + b))).fdiv ((2 : Int) ^ min (Int.toNat (1 : Int)) IntKind.u64.bits)) + m) - (↑x.fst : Int)) < b)) with | true => (match (decide (((0 : Int) ≤ IntKind.i64.wrap ((IntKind.u64.wrap (IntKind.i64.wrap (a + b))).fdiv ((2 : Int) ^ min (Int.toNat (1 : Int)) IntKind.u64.bits)) ∧ IntKind.i64.wrap ((IntKind.u64.wrap (IntKind.i64.wrap (a + b))).fdiv ((2 : Int) ^ min (Int.toNat (1 : Int)) IntKind.u64.bits)) < IntKind.i64.wrap (IntKind.i64.wrap (IntKind.i64.wrap ((IntKind.u64.wrap (IntKind.i64.wrap (a + b))).fdiv ((2 : Int) ^ min (Int.toNat (1 : Int)) IntKind.u64.bits)) + m) - (↑x.fst : Int)) ∧ IntKind.i64.wrap (IntKind.i64.wrap (IntKind.i64.wrap ((IntKind.u64.wrap (IntKind.i64.wrap (a + b))).fdiv ((2 : Int) ^ min (Int.toNat (1 : Int)) IntKind.u64.bits)) + m) - (↑x.fst : Int)) < b ∧ b ≤ (↑L.length : Int) ∧ L.length ≤ (10000 : Nat) ∧ AscT ltJ (seg (IntKind.i64.wrap ((IntKind.u64.wrap (IntKind.i64.wrap (a + b))).fdiv ((2 : Int) ^ min (Int.toNat (1 : Int)) IntKind.u64.bits))).toNat (IntKind.i64.wrap (IntKind.i64.wrap (IntKind.i64.wrap ((IntKind.u64.wrap (IntKind.i64.wrap (a + b))).fdiv ((2 : Int) ^ min (Int.toNat (1 : Int)) IntKind.u64.bits)) + m) - (↑x.fst : Int))).toNat L) ∧ AscT ltJ (seg (IntKind.i64.wrap (IntKind.i64.wrap (IntKind.i64.wrap ((IntKind.u64.wrap (IntKind.i64.wrap (a + b))).fdiv ((2 : Int) ^ min (Int.toNat (1 : Int)) IntKind.u64.bits)) + m) - (↑x.fst : Int))).toNat b.toNat L) ∧ Cross ltJ ltJ (seg (IntKind.i64.wrap ((IntKind.u64.wrap (IntKind.i64.wrap (a + b))).fdiv ((2 : Int) ^ min (Int.toNat (1 : Int)) IntKind.u64.bits))).toNat (IntKind.i64.wrap (IntKind.i64.wrap (IntKind.i64.wrap ((IntKind.u64.wrap (IntKind.i64.wrap (a + b))).fdiv ((2 : Int) ^ min (Int.toNat (1 : Int)) IntKind.u64.bits)) + m) - (↑x.fst : Int))).toNat L) (seg (IntKind.i64.wrap (IntKind.i64.wrap (IntKind.i64.wrap ((IntKind.u64.wrap (IntKind.i64.wrap (a + b))).fdiv ((2 : Int) ^ min (Int.toNat (1 : Int)) IntKind.u64.bits)) + m) - (↑x.fst : Int))).toNat b.toNat L)) ∧ b.toNat - (IntKind.i64.wrap ((IntKind.u64.wrap (IntKind.i64.wrap (a + b))).fdiv ((2 : Int) ^ min (Int.toNat (1 : Int)) IntKind.u64.bits))).toNat < nrec)) with | true => ((True ∧ True) ∧ ((rangeS ltJ a.toNat b.toNat L = rangeS ltJ (IntKind.i64.wrap ((IntKind.u64.wrap (IntKind.i64.wrap (a + b))).fdiv ((2 : Int) ^ min (Int.toNat (1 : Int)) IntKind.u64.bits))).toNat b.toNat L) ∧ True)) | false => False) | false => ((True ∧ True) ∧ ((rangeS ltJ a.toNat b.toNat L = L) ∧ True))) | false => ((True ∧ True) ∧ ((rangeS ltJ a.toNat b.toNat L = L) ∧ True))))))))))))
theorem symJVc (nrec : Nat) (L : List Job)  (a m b : Int) : fnX { X28 with con := conOf ((102, symJConN nrec) :: tab28) } (annOf [(3, { σ := Nat × Nat, st := fun S x => ((S.keep [0, 1, 2, 3, 4]).int 10 x.1).int 11 x.2, inv := fun _ x => m.toNat ≤ x.1 ∧ x.1 ≤ x.2 ∧ x.2 ≤ b.toNat ∧ (x.1 = m.toNat ∨ ltJ (at' (jobE.zero) L ((x.1 - 1 : Nat) : Int)) (at' (jobE.zero) L (a.toNat : Int)) = true) ∧ (x.2 = b.toNat ∨ ltJ (at' (jobE.zero) L (x.2 : Int)) (at' (jobE.zero) L (a.toNat : Int)) = false), m := fun x => x.2 - x.1 }),
      (9, { σ := Nat, st := fun S x => ((S.keep [0, 1, 4, 10]).int 13 (a.toNat + x : Nat)).at' 0 (.vec 4 (bubU (jobE.zero) a.toNat x L) 52), inv := fun S x => a.toNat + x + 1 ≤ (S.gi 10).toNat ∧ (S.gi 10).toNat ≤ b.toNat, m := fun x => b.toNat - x }),
      (15, { σ := Nat × Nat, st := fun S x => ((S.keep [0, 1, 2, 3, 4]).int 14 x.1).int 15 x.2, inv := fun _ x => a.toNat ≤ x.1 ∧ x.1 ≤ x.2 ∧ x.2 ≤ m.toNat ∧ (x.1 = a.toNat ∨ ltJ (at' (jobE.zero) L (m.toNat : Int)) (at' (jobE.zero) L ((x.1 - 1 : Nat) : Int)) = false) ∧ (x.2 = m.toNat ∨ ltJ (at' (jobE.zero) L (m.toNat : Int)) (at' (jobE.zero) L (x.2 : Int)) = true), m := fun x => x.2 - x.1 }),
      (21, { σ := Nat, st := fun S x => ((S.keep [0, 2, 4, 14]).int 17 (m.toNat - x : Nat)).at' 0 (.vec 4 (bubD (jobE.zero) m.toNat x L) 52), inv := fun S x => x + (S.gi 14).toNat ≤ m.toNat ∧ a.toNat ≤ (S.gi 14).toNat, m := fun x => m.toNat - x }),
      (33, { σ := Nat × Nat, st := fun S x => ((S.keep [0, 1, 2, 3, 4, 18, 19, 22]).int 20 x.1).int 21 x.2, inv := fun S x => (S.gi 20).toNat ≤ x.1 ∧ x.1 ≤ x.2 ∧ x.2 ≤ (S.gi 21).toNat ∧ (x.1 = (S.gi 20).toNat ∨ ltJ (at' (jobE.zero) L (((a.toNat + b.toNat) / 2 + m.toNat - x.1 : Nat) : Int)) (at' (jobE.zero) L ((x.1 - 1 : Nat) : Int)) = false) ∧ (x.2 = (S.gi 21).toNat ∨ ltJ (at' (jobE.zero) L (((a.toNat + b.toNat) / 2 + m.toNat - 1 - x.2 : Nat) : Int)) (at' (jobE.zero) L (x.2 : Int)) = true), m := fun x => x.2 - x.1 })] []) Try.f102 [.own 0, .raw (.int .i64 a), .raw (.int .i64 m), .raw (.int .i64 b), .fn 51 []] [.vec 4 L 52] (ends [.vec 4 L 52] ⟨some (.tup []), [(0, some (.vec 4 (rangeS (ltJ) a.toNat b.toNat L) 52))]⟩) = symJText nrec L a m b := by kernel_rfl
set_option maxHeartbeats 1000000 in
theorem symJHolds (nrec : Nat) (L : List Job)  (a m b : Int) (hp : 0 ≤ a ∧ a < m ∧ m < b ∧ b ≤ L.length ∧ L.length ≤ 10000 ∧ AscT (ltJ) (seg a.toNat m.toNat L) ∧ AscT (ltJ) (seg m.toNat b.toNat L) ∧ Cross (ltJ) (ltJ) (seg a.toNat m.toNat L) (seg m.toNat b.toNat L)) (hr : b.toNat - a.toNat < nrec + 1) : symJText nrec L a m b := by
  unfold symJText
  obtain ⟨p0, p1, p2, p3, p4, p5, p6, p7⟩ := hp
  obtain ⟨a, rfl⟩ := Int.eq_ofNat_of_zero_le p0
  obtain ⟨m, rfl⟩ := Int.eq_ofNat_of_zero_le (show 0 ≤ m by omega)
  obtain ⟨b, rfl⟩ := Int.eq_ofNat_of_zero_le (show 0 ≤ b by omega)
  rw [Int.toNat_natCast, Int.toNat_natCast] at p5
  rw [Int.toNat_natCast, Int.toNat_natCast] at p6
  rw [Int.toNat_natCast, Int.toNat_natCast, Int.toNat_natCast] at p7
  rw [Int.toNat_natCast, Int.toNat_natCast] at hr
  rw [Int.toNat_natCast, Int.toNat_natCast, Int.toNat_natCast]
  have r1 : a < m := by omega
  have r2 : m < b := by omega
  have r3 : b ≤ L.length := by omega
  have r4 : L.length ≤ 10000 := p4
  clear p0 p1 p2 p3 p4
  rw [show IntKind.i64.wrap ((m : Int) - (a : Int)) = ((m - a : Nat) : Int) by rw [wrap_id (by omega) (by omega)]; omega, show IntKind.i64.wrap ((b : Int) - (m : Int)) = ((b - m : Nat) : Int) by rw [wrap_id (by omega) (by omega)]; omega]
  by_cases s1 : m = a + 1
  · subst s1
    rw [show (((a + 1 - a : Nat) : Int) == 1) = true by rw [beq_iff_eq]; omega]
    refine ⟨⟨(a + 1, b), ⟨Nat.le_refl _, by dsimp only; omega, Nat.le_refl _, .inl rfl, .inl rfl⟩, by repeat' first | trivial | rfl | apply And.intro⟩, ?_⟩
    rintro ⟨i, j⟩ ⟨g1, g2, g3, g4, g5⟩
    dsimp only at g1 g2 g3 g4 g5 ⊢
    by_cases c : i < j
    · have eh : ∃ h, (i + j) / 2 = h ∧ i ≤ h ∧ h < j := ⟨_, rfl, by omega, by omega⟩
      rw [show decide ((i : Int) < (j : Int)) = true from decide_eq_true (by omega), half_mid (by omega : i + j ≤ 1099511627776)]
      obtain ⟨h, eh, i1, i2⟩ := eh
      rw [eh, inb_nat (show h < L.length by omega), inb_nat (show a < L.length by omega)]
      have hw : ((h + 1 : Nat) : Int) = IntKind.i64.wrap ((h : Int) + 1) := by rw [wrap_id (by omega) (by omega)]; omega
      rw [show decide (cmpJ (at' (jobE.zero) L (h : Int)) (at' (jobE.zero) L (a : Int)) < 0) = ltJ (at' (jobE.zero) L (h : Int)) (at' (jobE.zero) L (a : Int)) from rfl]
      cases ho : ltJ (at' (jobE.zero) L (h : Int)) (at' (jobE.zero) L (a : Int))
      · refine ⟨(i, h), ⟨g1, i1, by dsimp only; omega, g4, .inr ho⟩, by dsimp only; omega, ?_⟩
        repeat' first | trivial | rfl | apply And.intro
      · refine ⟨(h + 1, j), ⟨by dsimp only; omega, i2, g3, .inr ho, g5⟩, by dsimp only; omega, ?_⟩
        repeat' first | exact hw | trivial | rfl | apply And.intro
    · obtain rfl : i = j := by omega
      rw [show decide ((i : Int) < (i : Int)) = false from decide_eq_false (by omega), Int.toNat_natCast]
      have k1 := parts_k1 ordJ (L := L) (a := a) (m := a + 1) (b := b) (s := a + 1) (e := i) (by omega) (by omega) (by omega) (by omega) (by omega) p5 p6 p7 (by
        rcases g5 with g5 | g5
        · exact .inr (.inl g5)
        · by_cases z : i = b
          · exact .inr (.inl z)
          · rw [at_nat (show i < L.length by omega), at_nat (show a < L.length by omega)] at g5
            exact .inr (.inr ⟨by omega, by omega, g5⟩))
      have k2 := parts_k2 ordJ (L := L) (a := a) (m := a + 1) (b := b) (s := a) (e := i) (by omega) (by omega) (by omega) (by omega) (by omega) p5 p6 (by
        rcases g4 with g4 | g4
        · exact .inr (.inl g4)
        · rw [at_nat (show i - 1 < L.length by omega), at_nat (show a < L.length by omega)] at g4
          exact .inr (.inr ⟨by omega, by omega, g4⟩))
      have key := (merge_left ordJ (L := L) (a := a) (m := a + 1) (b := b) (e := i) (by omega) (by omega) (by omega) (by omega) p5 p6 k1 k2).trans (bubU_rot (jobE.zero) (L := L) (a := a) (e := i) (by omega) (by omega)).symm
      refine ⟨⟨0, ⟨by omega, by omega⟩, by repeat' first | trivial | rfl | apply And.intro⟩, ?_⟩
      rintro x ⟨hx, _⟩
      have hl := bubU_length (jobE.zero) a L x
      rw [show IntKind.i64.wrap ((i : Int) - 1) = ((i - 1 : Nat) : Int) by rw [wrap_id (by omega) (by omega)]; omega]
      by_cases u : a + x < i - 1
      · have hw : ((a + (x + 1) : Nat) : Int) = IntKind.i64.wrap (((a + x : Nat) : Int) + 1) := by rw [wrap_id (by omega) (by omega)]; omega
        rw [show decide (((a + x : Nat) : Int) < ((i - 1 : Nat) : Int)) = true from decide_eq_true (by omega), ← hw, List.length_set, hl, inb_nat (show a + (x + 1) < L.length by omega), inb_nat (show a + x < L.length by omega), Int.toNat_natCast, Int.toNat_natCast]
        refine ⟨x + 1, ⟨by omega, by omega⟩, by omega, ?_⟩
        repeat' first | trivial | rfl | apply And.intro
      · rw [show decide (((a + x : Nat) : Int) < ((i - 1 : Nat) : Int)) = false from decide_eq_false (by omega)]
        rw [show i - (a + 1) = x by omega] at key
        repeat' first | exact key | trivial | rfl | apply And.intro
  · rw [show (((m - a : Nat) : Int) == 1) = false by rw [beq_eq_false_iff_ne]; omega]
    by_cases s2 : b = m + 1
    · subst s2
      rw [show (((m + 1 - m : Nat) : Int) == 1) = true by rw [beq_iff_eq]; omega]
      refine ⟨⟨(a, m), ⟨Nat.le_refl _, by dsimp only; omega, Nat.le_refl _, .inl rfl, .inl rfl⟩, by repeat' first | trivial | rfl | apply And.intro⟩, ?_⟩
      rintro ⟨i, j⟩ ⟨g1, g2, g3, g4, g5⟩
      dsimp only at g1 g2 g3 g4 g5 ⊢
      by_cases c : i < j
      · have eh : ∃ h, (i + j) / 2 = h ∧ i ≤ h ∧ h < j := ⟨_, rfl, by omega, by omega⟩
        rw [show decide ((i : Int) < (j : Int)) = true from decide_eq_true (by omega), half_mid (by omega : i + j ≤ 1099511627776)]
        obtain ⟨h, eh, i1, i2⟩ := eh
        rw [eh, inb_nat (show h < L.length by omega), inb_nat (show m < L.length by omega)]
        have hw : ((h + 1 : Nat) : Int) = IntKind.i64.wrap ((h : Int) + 1) := by rw [wrap_id (by omega) (by omega)]; omega
        rw [show decide (cmpJ (at' (jobE.zero) L (m : Int)) (at' (jobE.zero) L (h : Int)) < 0) = ltJ (at' (jobE.zero) L (m : Int)) (at' (jobE.zero) L (h : Int)) from rfl]
        cases ho : ltJ (at' (jobE.zero) L (m : Int)) (at' (jobE.zero) L (h : Int))
        · refine ⟨(h + 1, j), ⟨by dsimp only; omega, i2, g3, .inr ho, g5⟩, by dsimp only; omega, ?_⟩
          repeat' first | exact hw | trivial | rfl | apply And.intro
        · refine ⟨(i, h), ⟨g1, i1, by dsimp only; omega, g4, .inr ho⟩, by dsimp only; omega, ?_⟩
          repeat' first | trivial | rfl | apply And.intro
      · obtain rfl : i = j := by omega
        rw [show decide ((i : Int) < (i : Int)) = false from decide_eq_false (by omega), Int.toNat_natCast]
        have k1 := parts_k1 ordJ (L := L) (a := a) (m := m) (b := m + 1) (s := i) (e := m) (by omega) (by omega) (by omega) (by omega) (by omega) p5 p6 p7 (by
          rcases g4 with g4 | g4
          · exact .inl g4
          · by_cases z : i = a
            · exact .inl z
            · rw [at_nat (show m < L.length by omega), at_nat (show i - 1 < L.length by omega)] at g4
              exact .inr (.inr ⟨by omega, by omega, g4⟩))
        have k2 := parts_k2 ordJ (L := L) (a := a) (m := m) (b := m + 1) (s := i) (e := m + 1) (by omega) (by omega) (by omega) (by omega) (by omega) p5 p6 (by
          rcases g5 with g5 | g5
          · exact .inl g5
          · rw [at_nat (show m < L.length by omega), at_nat (show i < L.length by omega)] at g5
            exact .inr (.inr ⟨by omega, by omega, g5⟩))
        have key := (merge_right ordJ (L := L) (a := a) (m := m) (b := m + 1) (s := i) (by omega) (by omega) (by omega) (by omega) p5 p6 k1 k2).trans (bubD_rot (jobE.zero) (L := L) (s := i) (m := m) (by omega) (by omega)).symm
        refine ⟨⟨0, ⟨by omega, by omega⟩, by repeat' first | trivial | rfl | apply And.intro⟩, ?_⟩
        rintro x ⟨hx, _⟩
        have hl := bubD_length (jobE.zero) m L x
        by_cases u : i < m - x
        · have hw : ((m - (x + 1) : Nat) : Int) = IntKind.i64.wrap (((m - x : Nat) : Int) - 1) := by rw [wrap_id (by omega) (by omega)]; omega
          rw [show decide (((m - x : Nat) : Int) > (i : Int)) = true from decide_eq_true (by omega), ← hw, List.length_set, hl, inb_nat (show m - (x + 1) < L.length by omega), inb_nat (show m - x < L.length by omega), Int.toNat_natCast, Int.toNat_natCast]
          refine ⟨x + 1, ⟨by omega, by omega⟩, by omega, ?_⟩
          repeat' first | trivial | rfl | apply And.intro
        · rw [show decide (((m - x : Nat) : Int) > (i : Int)) = false from decide_eq_false (by omega)]
          rw [show m - i = x by omega] at key
          repeat' first | exact key | trivial | rfl | apply And.intro
    · rw [show (((b - m : Nat) : Int) == 1) = false by rw [beq_eq_false_iff_ne]; omega]
      rw [half_mid (by omega : a + b ≤ 1099511627776)]
      obtain ⟨mid, em, em1, em2⟩ : ∃ mid, (a + b) / 2 = mid ∧ 2 * mid ≤ a + b ∧ a + b ≤ 2 * mid + 1 := ⟨_, rfl, by omega, by omega⟩
      rw [em, show IntKind.i64.wrap ((mid : Int) + (m : Int)) = ((mid + m : Nat) : Int) by rw [wrap_id (by omega) (by omega)]; omega]
      by_cases hm : m > mid
      · rw [show decide ((m : Int) > (mid : Int)) = true from decide_eq_true (by omega)]
        have elo : IntKind.i64.wrap (((mid + m : Nat) : Int) - (b : Int)) = ((mid + m - b : Nat) : Int) := by rw [wrap_id (by omega) (by omega)]; omega
        rw [elo]
        repeat rw [Int.toNat_natCast]
        refine ⟨⟨(mid + m - b, mid), ⟨Nat.le_refl _, by dsimp only; omega, Nat.le_refl _, .inl rfl, .inl rfl⟩, by repeat' first | trivial | rfl | apply And.intro⟩, ?_⟩
        rintro ⟨i, j⟩ ⟨g1, g2, g3, g4, g5⟩
        dsimp only at g1 g2 g3 g4 g5 ⊢
        by_cases c : i < j
        · have eh : ∃ h, (i + j) / 2 = h ∧ i ≤ h ∧ h < j := ⟨_, rfl, by omega, by omega⟩
          rw [show decide ((i : Int) < (j : Int)) = true from decide_eq_true (by omega), half_mid (by omega : i + j ≤ 1099511627776)]
          obtain ⟨h, eh, i1, i2⟩ := eh
          rw [eh]
          have ep : IntKind.i64.wrap (IntKind.i64.wrap (((mid + m : Nat) : Int) - 1) - (h : Int)) = ((mid + m - 1 - h : Nat) : Int) := by rw [wrap_id (n := ((mid + m : Nat) : Int) - 1) (by omega) (by omega), wrap_id (by omega) (by omega)]; omega
          have hw : ((h + 1 : Nat) : Int) = IntKind.i64.wrap ((h : Int) + 1) := by rw [wrap_id (by omega) (by omega)]; omega
          rw [ep, inb_nat (show mid + m - 1 - h < L.length by omega), inb_nat (show h < L.length by omega)]
          rw [show decide (cmpJ (at' (jobE.zero) L ((mid + m - 1 - h : Nat) : Int)) (at' (jobE.zero) L (h : Int)) < 0) = ltJ (at' (jobE.zero) L ((mid + m - 1 - h : Nat) : Int)) (at' (jobE.zero) L (h : Int)) from rfl]
          cases ho : ltJ (at' (jobE.zero) L ((mid + m - 1 - h : Nat) : Int)) (at' (jobE.zero) L (h : Int))
          · refine ⟨(h + 1, j), ⟨by dsimp only; omega, i2, g3, .inr ?_, g5⟩, by dsimp only; omega, ?_⟩
            · show ltJ (at' (jobE.zero) L ((mid + m - (h + 1) : Nat) : Int)) (at' (jobE.zero) L ((h + 1 - 1 : Nat) : Int)) = false
              rw [show mid + m - (h + 1) = mid + m - 1 - h by omega, show h + 1 - 1 = h by omega]
              exact ho
            · repeat' first | exact hw | trivial | rfl | apply And.intro
          · refine ⟨(i, h), ⟨g1, i1, by dsimp only; omega, g4, .inr ho⟩, by dsimp only; omega, ?_⟩
            repeat' first | trivial | rfl | apply And.intro
        · obtain rfl : i = j := by omega
          rw [show decide ((i : Int) < (i : Int)) = false from decide_eq_false (by omega)]
          have ee : IntKind.i64.wrap (((mid + m : Nat) : Int) - (i : Int)) = ((mid + m - i : Nat) : Int) := by rw [wrap_id (by omega) (by omega)]; omega
          rw [ee]
          repeat rw [Int.toNat_natCast]
          obtain ⟨s, rfl⟩ : ∃ s, s = i := ⟨i, rfl⟩
          obtain ⟨e, he⟩ : ∃ e, mid + m - s = e := ⟨_, rfl⟩
          rw [show mid + m - 1 - s = e - 1 by omega] at g5
          rw [he] at g4 ⊢
          have q1 : s = a ∨ e = b ∨ ∃ (_ : 0 < s) (he : e < L.length), ltJ L[e] (L[s - 1]'(by omega)) = false := by
            rcases g4 with g4 | g4
            · exact .inr (.inl (by omega))
            · by_cases z1 : s = a
              · exact .inl z1
              · by_cases z2 : e = b
                · exact .inr (.inl z2)
                · refine .inr (.inr ⟨by omega, by omega, ?_⟩)
                  rw [at_nat (show e < L.length by omega), at_nat (show s - 1 < L.length by omega)] at g4
                  exact g4
          have q2 : s = m ∨ e = m ∨ ∃ (hs : s < L.length) (_ : 0 < e), ltJ (L[e - 1]'(by omega)) L[s] = true := by
            rcases g5 with g5 | g5
            · exact .inr (.inl (by omega))
            · refine .inr (.inr ⟨by omega, by omega, ?_⟩)
              rw [at_nat (show e - 1 < L.length by omega), at_nat (show s < L.length by omega)] at g5
              exact g5
          obtain ⟨k0, k1, k2, k3, k4, k5, k6⟩ := merge_parts ordJ (L := L) (a := a) (m := m) (b := b) (s := s) (e := e) (mid := mid) (by omega) (by omega) (by omega) (by omega) (by omega) (by omega) (by omega) p5 p6 p7 q1 q2
          have lR : (rotR s m e L).length = L.length := rotR_length (by omega) (by omega) (by omega)
          have lL : L.length = L.length := rfl
          by_cases c1 : s < m
          · rw [show decide ((s : Int) < (m : Int)) = true from decide_eq_true (by omega)]
            by_cases c2 : m < e
            · rw [show decide ((m : Int) < (e : Int)) = true from decide_eq_true (by omega), decide_eq_true (⟨by omega, by omega, by omega, by omega, by omega⟩ : (0 : Int) ≤ (s : Int) ∧ (s : Int) < (m : Int) ∧ (m : Int) < (e : Int) ∧ (e : Int) ≤ (L.length : Int) ∧ L.length ≤ 10000)]
              by_cases t1 : a < s
              · rw [show decide ((a : Int) < (s : Int)) = true from decide_eq_true (by omega)]
                by_cases t2 : s < mid
                · rw [show decide ((s : Int) < (mid : Int)) = true from decide_eq_true (by omega), decide_eq_true (⟨⟨by omega, by omega, by omega, by rw [lR]; omega, by rw [lR]; omega, k1, k2, k3⟩, by omega⟩ : (((0 : Int) ≤ (a : Int) ∧ (a : Int) < (s : Int) ∧ (s : Int) < (mid : Int) ∧ (mid : Int) ≤ ((rotR s m e L).length : Int) ∧ (rotR s m e L).length ≤ 10000 ∧ AscT (ltJ) (seg a s (rotR s m e L)) ∧ AscT (ltJ) (seg s mid (rotR s m e L)) ∧ Cross (ltJ) (ltJ) (seg a s (rotR s m e L)) (seg s mid (rotR s m e L))) ∧ mid - a < nrec))]
                  have l2 : (rangeS (ltJ) a mid (rotR s m e L)).length = L.length := by rw [rangeS_length (by omega) (by rw [lR]; omega), lR]
                  by_cases u1 : mid < e
                  · rw [show decide ((mid : Int) < (e : Int)) = true from decide_eq_true (by omega)]
                    by_cases u2 : e < b
                    · rw [show decide ((e : Int) < (b : Int)) = true from decide_eq_true (by omega), decide_eq_true (⟨⟨by omega, by omega, by omega, by rw [l2]; omega, by rw [l2]; omega, k4, k5, k6⟩, by omega⟩ : (((0 : Int) ≤ (mid : Int) ∧ (mid : Int) < (e : Int) ∧ (e : Int) < (b : Int) ∧ (b : Int) ≤ ((rangeS (ltJ) a mid (rotR s m e L)).length : Int) ∧ (rangeS (ltJ) a mid (rotR s m e L)).length ≤ 10000 ∧ AscT (ltJ) (seg mid e (rangeS (ltJ) a mid (rotR s m e L))) ∧ AscT (ltJ) (seg e b (rangeS (ltJ) a mid (rotR s m e L))) ∧ Cross (ltJ) (ltJ) (seg mid e (rangeS (ltJ) a mid (rotR s m e L))) (seg e b (rangeS (ltJ) a mid (rotR s m e L)))) ∧ b - mid < nrec))]
                      repeat' first | exact k0.symm | trivial | rfl | apply And.intro
                    · rw [show decide ((e : Int) < (b : Int)) = false from decide_eq_false (by omega)]
                      obtain rfl : e = b := by omega
                      have hD3 := rangeS_asc ordJ (by omega) k4
                      rw [hD3] at k0
                      repeat' first | exact k0.symm | trivial | rfl | apply And.intro
                  · rw [show decide ((mid : Int) < (e : Int)) = false from decide_eq_false (by omega)]
                    obtain rfl : mid = e := by omega
                    have hD3 := rangeS_asc ordJ (by omega) k5
                    rw [hD3] at k0
                    repeat' first | exact k0.symm | trivial | rfl | apply And.intro
                · rw [show decide ((s : Int) < (mid : Int)) = false from decide_eq_false (by omega)]
                  have hs : s = mid := by omega
                  have hD2 : rangeS (ltJ) a mid (rotR s m e L) = rotR s m e L := rangeS_asc ordJ (by omega) (by rw [← hs]; exact k1)
                  rw [hD2] at k0 k4 k5 k6
                  by_cases u1 : mid < e
                  · rw [show decide ((mid : Int) < (e : Int)) = true from decide_eq_true (by omega)]
                    by_cases u2 : e < b
                    · rw [show decide ((e : Int) < (b : Int)) = true from decide_eq_true (by omega), decide_eq_true (⟨⟨by omega, by omega, by omega, by rw [lR]; omega, by rw [lR]; omega, k4, k5, k6⟩, by omega⟩ : (((0 : Int) ≤ (mid : Int) ∧ (mid : Int) < (e : Int) ∧ (e : Int) < (b : Int) ∧ (b : Int) ≤ ((rotR s m e L).length : Int) ∧ (rotR s m e L).length ≤ 10000 ∧ AscT (ltJ) (seg mid e (rotR s m e L)) ∧ AscT (ltJ) (seg e b (rotR s m e L)) ∧ Cross (ltJ) (ltJ) (seg mid e (rotR s m e L)) (seg e b (rotR s m e L))) ∧ b - mid < nrec))]
                      repeat' first | exact k0.symm | trivial | rfl | apply And.intro
                    · rw [show decide ((e : Int) < (b : Int)) = false from decide_eq_false (by omega)]
                      obtain rfl : e = b := by omega
                      have hD3 := rangeS_asc ordJ (by omega) k4
                      rw [hD3] at k0
                      repeat' first | exact k0.symm | trivial | rfl | apply And.intro
                  · rw [show decide ((mid : Int) < (e : Int)) = false from decide_eq_false (by omega)]
                    obtain rfl : mid = e := by omega
                    have hD3 := rangeS_asc ordJ (by omega) k5
                    rw [hD3] at k0
                    repeat' first | exact k0.symm | trivial | rfl | apply And.intro
              · rw [show decide ((a : Int) < (s : Int)) = false from decide_eq_false (by omega)]
                have hs : s = a := by omega
                have hD2 : rangeS (ltJ) a mid (rotR s m e L) = rotR s m e L := rangeS_asc ordJ (by omega) (by rw [← hs]; exact k2)
                rw [hD2] at k0 k4 k5 k6
                by_cases u1 : mid < e
                · rw [show decide ((mid : Int) < (e : Int)) = true from decide_eq_true (by omega)]
                  by_cases u2 : e < b
                  · rw [show decide ((e : Int) < (b : Int)) = true from decide_eq_true (by omega), decide_eq_true (⟨⟨by omega, by omega, by omega, by rw [lR]; omega, by rw [lR]; omega, k4, k5, k6⟩, by omega⟩ : (((0 : Int) ≤ (mid : Int) ∧ (mid : Int) < (e : Int) ∧ (e : Int) < (b : Int) ∧ (b : Int) ≤ ((rotR s m e L).length : Int) ∧ (rotR s m e L).length ≤ 10000 ∧ AscT (ltJ) (seg mid e (rotR s m e L)) ∧ AscT (ltJ) (seg e b (rotR s m e L)) ∧ Cross (ltJ) (ltJ) (seg mid e (rotR s m e L)) (seg e b (rotR s m e L))) ∧ b - mid < nrec))]
                    repeat' first | exact k0.symm | trivial | rfl | apply And.intro
                  · rw [show decide ((e : Int) < (b : Int)) = false from decide_eq_false (by omega)]
                    obtain rfl : e = b := by omega
                    have hD3 := rangeS_asc ordJ (by omega) k4
                    rw [hD3] at k0
                    repeat' first | exact k0.symm | trivial | rfl | apply And.intro
                · rw [show decide ((mid : Int) < (e : Int)) = false from decide_eq_false (by omega)]
                  obtain rfl : mid = e := by omega
                  have hD3 := rangeS_asc ordJ (by omega) k5
                  rw [hD3] at k0
                  repeat' first | exact k0.symm | trivial | rfl | apply And.intro
            · rw [show decide ((m : Int) < (e : Int)) = false from decide_eq_false (by omega)]
              have hD1 : rotR s m e L = L := by rw [show e = m by omega]; exact rotR_right (by omega)
              rw [hD1] at k0 k1 k2 k3 k4 k5 k6
              by_cases t1 : a < s
              · rw [show decide ((a : Int) < (s : Int)) = true from decide_eq_true (by omega)]
                by_cases t2 : s < mid
                · rw [show decide ((s : Int) < (mid : Int)) = true from decide_eq_true (by omega), decide_eq_true (⟨⟨by omega, by omega, by omega, by rw [lL]; omega, by rw [lL]; omega, k1, k2, k3⟩, by omega⟩ : (((0 : Int) ≤ (a : Int) ∧ (a : Int) < (s : Int) ∧ (s : Int) < (mid : Int) ∧ (mid : Int) ≤ ((L).length : Int) ∧ (L).length ≤ 10000 ∧ AscT (ltJ) (seg a s (L)) ∧ AscT (ltJ) (seg s mid (L)) ∧ Cross (ltJ) (ltJ) (seg a s (L)) (seg s mid (L))) ∧ mid - a < nrec))]
                  have l2 : (rangeS (ltJ) a mid (L)).length = L.length := by rw [rangeS_length (by omega) (by rw [lL]; omega), lL]
                  by_cases u1 : mid < e
                  · rw [show decide ((mid : Int) < (e : Int)) = true from decide_eq_true (by omega)]
                    by_cases u2 : e < b
                    · rw [show decide ((e : Int) < (b : Int)) = true from decide_eq_true (by omega), decide_eq_true (⟨⟨by omega, by omega, by omega, by rw [l2]; omega, by rw [l2]; omega, k4, k5, k6⟩, by omega⟩ : (((0 : Int) ≤ (mid : Int) ∧ (mid : Int) < (e : Int) ∧ (e : Int) < (b : Int) ∧ (b : Int) ≤ ((rangeS (ltJ) a mid (L)).length : Int) ∧ (rangeS (ltJ) a mid (L)).length ≤ 10000 ∧ AscT (ltJ) (seg mid e (rangeS (ltJ) a mid (L))) ∧ AscT (ltJ) (seg e b (rangeS (ltJ) a mid (L))) ∧ Cross (ltJ) (ltJ) (seg mid e (rangeS (ltJ) a mid (L))) (seg e b (rangeS (ltJ) a mid (L)))) ∧ b - mid < nrec))]
                      repeat' first | exact k0.symm | trivial | rfl | apply And.intro
                    · rw [show decide ((e : Int) < (b : Int)) = false from decide_eq_false (by omega)]
                      obtain rfl : e = b := by omega
                      have hD3 := rangeS_asc ordJ (by omega) k4
                      rw [hD3] at k0
                      repeat' first | exact k0.symm | trivial | rfl | apply And.intro
                  · rw [show decide ((mid : Int) < (e : Int)) = false from decide_eq_false (by omega)]
                    obtain rfl : mid = e := by omega
                    have hD3 := rangeS_asc ordJ (by omega) k5
                    rw [hD3] at k0
                    repeat' first | exact k0.symm | trivial | rfl | apply And.intro
                · rw [show decide ((s : Int) < (mid : Int)) = false from decide_eq_false (by omega)]
                  have hs : s = mid := by omega
                  have hD2 : rangeS (ltJ) a mid (L) = L := rangeS_asc ordJ (by omega) (by rw [← hs]; exact k1)
                  rw [hD2] at k0 k4 k5 k6
                  by_cases u1 : mid < e
                  · rw [show decide ((mid : Int) < (e : Int)) = true from decide_eq_true (by omega)]
                    by_cases u2 : e < b
                    · rw [show decide ((e : Int) < (b : Int)) = true from decide_eq_true (by omega), decide_eq_true (⟨⟨by omega, by omega, by omega, by rw [lL]; omega, by rw [lL]; omega, k4, k5, k6⟩, by omega⟩ : (((0 : Int) ≤ (mid : Int) ∧ (mid : Int) < (e : Int) ∧ (e : Int) < (b : Int) ∧ (b : Int) ≤ ((L).length : Int) ∧ (L).length ≤ 10000 ∧ AscT (ltJ) (seg mid e (L)) ∧ AscT (ltJ) (seg e b (L)) ∧ Cross (ltJ) (ltJ) (seg mid e (L)) (seg e b (L))) ∧ b - mid < nrec))]
                      repeat' first | exact k0.symm | trivial | rfl | apply And.intro
                    · rw [show decide ((e : Int) < (b : Int)) = false from decide_eq_false (by omega)]
                      obtain rfl : e = b := by omega
                      have hD3 := rangeS_asc ordJ (by omega) k4
                      rw [hD3] at k0
                      repeat' first | exact k0.symm | trivial | rfl | apply And.intro
                  · rw [show decide ((mid : Int) < (e : Int)) = false from decide_eq_false (by omega)]
                    obtain rfl : mid = e := by omega
                    have hD3 := rangeS_asc ordJ (by omega) k5
                    rw [hD3] at k0
                    repeat' first | exact k0.symm | trivial | rfl | apply And.intro
              · rw [show decide ((a : Int) < (s : Int)) = false from decide_eq_false (by omega)]
                have hs : s = a := by omega
                have hD2 : rangeS (ltJ) a mid (L) = L := rangeS_asc ordJ (by omega) (by rw [← hs]; exact k2)
                rw [hD2] at k0 k4 k5 k6
                by_cases u1 : mid < e
                · rw [show decide ((mid : Int) < (e : Int)) = true from decide_eq_true (by omega)]
                  by_cases u2 : e < b
                  · rw [show decide ((e : Int) < (b : Int)) = true from decide_eq_true (by omega), decide_eq_true (⟨⟨by omega, by omega, by omega, by rw [lL]; omega, by rw [lL]; omega, k4, k5, k6⟩, by omega⟩ : (((0 : Int) ≤ (mid : Int) ∧ (mid : Int) < (e : Int) ∧ (e : Int) < (b : Int) ∧ (b : Int) ≤ ((L).length : Int) ∧ (L).length ≤ 10000 ∧ AscT (ltJ) (seg mid e (L)) ∧ AscT (ltJ) (seg e b (L)) ∧ Cross (ltJ) (ltJ) (seg mid e (L)) (seg e b (L))) ∧ b - mid < nrec))]
                    repeat' first | exact k0.symm | trivial | rfl | apply And.intro
                  · rw [show decide ((e : Int) < (b : Int)) = false from decide_eq_false (by omega)]
                    obtain rfl : e = b := by omega
                    have hD3 := rangeS_asc ordJ (by omega) k4
                    rw [hD3] at k0
                    repeat' first | exact k0.symm | trivial | rfl | apply And.intro
                · rw [show decide ((mid : Int) < (e : Int)) = false from decide_eq_false (by omega)]
                  obtain rfl : mid = e := by omega
                  have hD3 := rangeS_asc ordJ (by omega) k5
                  rw [hD3] at k0
                  repeat' first | exact k0.symm | trivial | rfl | apply And.intro
          · rw [show decide ((s : Int) < (m : Int)) = false from decide_eq_false (by omega)]
            have hD1 : rotR s m e L = L := by rw [show s = m by omega]; exact rotR_left (by omega)
            rw [hD1] at k0 k1 k2 k3 k4 k5 k6
            by_cases t1 : a < s
            · rw [show decide ((a : Int) < (s : Int)) = true from decide_eq_true (by omega)]
              by_cases t2 : s < mid
              · rw [show decide ((s : Int) < (mid : Int)) = true from decide_eq_true (by omega), decide_eq_true (⟨⟨by omega, by omega, by omega, by rw [lL]; omega, by rw [lL]; omega, k1, k2, k3⟩, by omega⟩ : (((0 : Int) ≤ (a : Int) ∧ (a : Int) < (s : Int) ∧ (s : Int) < (mid : Int) ∧ (mid : Int) ≤ ((L).length : Int) ∧ (L).length ≤ 10000 ∧ AscT (ltJ) (seg a s (L)) ∧ AscT (ltJ) (seg s mid (L)) ∧ Cross (ltJ) (ltJ) (seg a s (L)) (seg s mid (L))) ∧ mid - a < nrec))]
                have l2 : (rangeS (ltJ) a mid (L)).length = L.length := by rw [rangeS_length (by omega) (by rw [lL]; omega), lL]
                by_cases u1 : mid < e
                · rw [show decide ((mid : Int) < (e : Int)) = true from decide_eq_true (by omega)]
                  by_cases u2 : e < b
                  · rw [show decide ((e : Int) < (b : Int)) = true from decide_eq_true (by omega), decide_eq_true (⟨⟨by omega, by omega, by omega, by rw [l2]; omega, by rw [l2]; omega, k4, k5, k6⟩, by omega⟩ : (((0 : Int) ≤ (mid : Int) ∧ (mid : Int) < (e : Int) ∧ (e : Int) < (b : Int) ∧ (b : Int) ≤ ((rangeS (ltJ) a mid (L)).length : Int) ∧ (rangeS (ltJ) a mid (L)).length ≤ 10000 ∧ AscT (ltJ) (seg mid e (rangeS (ltJ) a mid (L))) ∧ AscT (ltJ) (seg e b (rangeS (ltJ) a mid (L))) ∧ Cross (ltJ) (ltJ) (seg mid e (rangeS (ltJ) a mid (L))) (seg e b (rangeS (ltJ) a mid (L)))) ∧ b - mid < nrec))]
                    repeat' first | exact k0.symm | trivial | rfl | apply And.intro
                  · rw [show decide ((e : Int) < (b : Int)) = false from decide_eq_false (by omega)]
                    obtain rfl : e = b := by omega
                    have hD3 := rangeS_asc ordJ (by omega) k4
                    rw [hD3] at k0
                    repeat' first | exact k0.symm | trivial | rfl | apply And.intro
                · rw [show decide ((mid : Int) < (e : Int)) = false from decide_eq_false (by omega)]
                  obtain rfl : mid = e := by omega
                  have hD3 := rangeS_asc ordJ (by omega) k5
                  rw [hD3] at k0
                  repeat' first | exact k0.symm | trivial | rfl | apply And.intro
              · rw [show decide ((s : Int) < (mid : Int)) = false from decide_eq_false (by omega)]
                have hs : s = mid := by omega
                have hD2 : rangeS (ltJ) a mid (L) = L := rangeS_asc ordJ (by omega) (by rw [← hs]; exact k1)
                rw [hD2] at k0 k4 k5 k6
                by_cases u1 : mid < e
                · rw [show decide ((mid : Int) < (e : Int)) = true from decide_eq_true (by omega)]
                  by_cases u2 : e < b
                  · rw [show decide ((e : Int) < (b : Int)) = true from decide_eq_true (by omega), decide_eq_true (⟨⟨by omega, by omega, by omega, by rw [lL]; omega, by rw [lL]; omega, k4, k5, k6⟩, by omega⟩ : (((0 : Int) ≤ (mid : Int) ∧ (mid : Int) < (e : Int) ∧ (e : Int) < (b : Int) ∧ (b : Int) ≤ ((L).length : Int) ∧ (L).length ≤ 10000 ∧ AscT (ltJ) (seg mid e (L)) ∧ AscT (ltJ) (seg e b (L)) ∧ Cross (ltJ) (ltJ) (seg mid e (L)) (seg e b (L))) ∧ b - mid < nrec))]
                    repeat' first | exact k0.symm | trivial | rfl | apply And.intro
                  · rw [show decide ((e : Int) < (b : Int)) = false from decide_eq_false (by omega)]
                    obtain rfl : e = b := by omega
                    have hD3 := rangeS_asc ordJ (by omega) k4
                    rw [hD3] at k0
                    repeat' first | exact k0.symm | trivial | rfl | apply And.intro
                · rw [show decide ((mid : Int) < (e : Int)) = false from decide_eq_false (by omega)]
                  obtain rfl : mid = e := by omega
                  have hD3 := rangeS_asc ordJ (by omega) k5
                  rw [hD3] at k0
                  repeat' first | exact k0.symm | trivial | rfl | apply And.intro
            · rw [show decide ((a : Int) < (s : Int)) = false from decide_eq_false (by omega)]
              have hs : s = a := by omega
              have hD2 : rangeS (ltJ) a mid (L) = L := rangeS_asc ordJ (by omega) (by rw [← hs]; exact k2)
              rw [hD2] at k0 k4 k5 k6
              by_cases u1 : mid < e
              · rw [show decide ((mid : Int) < (e : Int)) = true from decide_eq_true (by omega)]
                by_cases u2 : e < b
                · rw [show decide ((e : Int) < (b : Int)) = true from decide_eq_true (by omega), decide_eq_true (⟨⟨by omega, by omega, by omega, by rw [lL]; omega, by rw [lL]; omega, k4, k5, k6⟩, by omega⟩ : (((0 : Int) ≤ (mid : Int) ∧ (mid : Int) < (e : Int) ∧ (e : Int) < (b : Int) ∧ (b : Int) ≤ ((L).length : Int) ∧ (L).length ≤ 10000 ∧ AscT (ltJ) (seg mid e (L)) ∧ AscT (ltJ) (seg e b (L)) ∧ Cross (ltJ) (ltJ) (seg mid e (L)) (seg e b (L))) ∧ b - mid < nrec))]
                  repeat' first | exact k0.symm | trivial | rfl | apply And.intro
                · rw [show decide ((e : Int) < (b : Int)) = false from decide_eq_false (by omega)]
                  obtain rfl : e = b := by omega
                  have hD3 := rangeS_asc ordJ (by omega) k4
                  rw [hD3] at k0
                  repeat' first | exact k0.symm | trivial | rfl | apply And.intro
              · rw [show decide ((mid : Int) < (e : Int)) = false from decide_eq_false (by omega)]
                obtain rfl : mid = e := by omega
                have hD3 := rangeS_asc ordJ (by omega) k5
                rw [hD3] at k0
                repeat' first | exact k0.symm | trivial | rfl | apply And.intro
      · rw [show decide ((m : Int) > (mid : Int)) = false from decide_eq_false (by omega)]
        have elo : (a : Int) = ((a : Nat) : Int) := rfl
        rw [elo]
        repeat rw [Int.toNat_natCast]
        refine ⟨⟨(a, m), ⟨Nat.le_refl _, by dsimp only; omega, Nat.le_refl _, .inl rfl, .inl rfl⟩, by repeat' first | trivial | rfl | apply And.intro⟩, ?_⟩
        rintro ⟨i, j⟩ ⟨g1, g2, g3, g4, g5⟩
        dsimp only at g1 g2 g3 g4 g5 ⊢
        by_cases c : i < j
        · have eh : ∃ h, (i + j) / 2 = h ∧ i ≤ h ∧ h < j := ⟨_, rfl, by omega, by omega⟩
          rw [show decide ((i : Int) < (j : Int)) = true from decide_eq_true (by omega), half_mid (by omega : i + j ≤ 1099511627776)]
          obtain ⟨h, eh, i1, i2⟩ := eh
          rw [eh]
          have ep : IntKind.i64.wrap (IntKind.i64.wrap (((mid + m : Nat) : Int) - 1) - (h : Int)) = ((mid + m - 1 - h : Nat) : Int) := by rw [wrap_id (n := ((mid + m : Nat) : Int) - 1) (by omega) (by omega), wrap_id (by omega) (by omega)]; omega
          have hw : ((h + 1 : Nat) : Int) = IntKind.i64.wrap ((h : Int) + 1) := by rw [wrap_id (by omega) (by omega)]; omega
          rw [ep, inb_nat (show mid + m - 1 - h < L.length by omega), inb_nat (show h < L.length by omega)]
          rw [show decide (cmpJ (at' (jobE.zero) L ((mid + m - 1 - h : Nat) : Int)) (at' (jobE.zero) L (h : Int)) < 0) = ltJ (at' (jobE.zero) L ((mid + m - 1 - h : Nat) : Int)) (at' (jobE.zero) L (h : Int)) from rfl]
          cases ho : ltJ (at' (jobE.zero) L ((mid + m - 1 - h : Nat) : Int)) (at' (jobE.zero) L (h : Int))
          · refine ⟨(h + 1, j), ⟨by dsimp only; omega, i2, g3, .inr ?_, g5⟩, by dsimp only; omega, ?_⟩
            · show ltJ (at' (jobE.zero) L ((mid + m - (h + 1) : Nat) : Int)) (at' (jobE.zero) L ((h + 1 - 1 : Nat) : Int)) = false
              rw [show mid + m - (h + 1) = mid + m - 1 - h by omega, show h + 1 - 1 = h by omega]
              exact ho
            · repeat' first | exact hw | trivial | rfl | apply And.intro
          · refine ⟨(i, h), ⟨g1, i1, by dsimp only; omega, g4, .inr ho⟩, by dsimp only; omega, ?_⟩
            repeat' first | trivial | rfl | apply And.intro
        · obtain rfl : i = j := by omega
          rw [show decide ((i : Int) < (i : Int)) = false from decide_eq_false (by omega)]
          have ee : IntKind.i64.wrap (((mid + m : Nat) : Int) - (i : Int)) = ((mid + m - i : Nat) : Int) := by rw [wrap_id (by omega) (by omega)]; omega
          rw [ee]
          repeat rw [Int.toNat_natCast]
          obtain ⟨s, rfl⟩ : ∃ s, s = i := ⟨i, rfl⟩
          obtain ⟨e, he⟩ : ∃ e, mid + m - s = e := ⟨_, rfl⟩
          rw [show mid + m - 1 - s = e - 1 by omega] at g5
          rw [he] at g4 ⊢
          have q1 : s = a ∨ e = b ∨ ∃ (_ : 0 < s) (he : e < L.length), ltJ L[e] (L[s - 1]'(by omega)) = false := by
            rcases g4 with g4 | g4
            · exact .inl g4
            · by_cases z1 : s = a
              · exact .inl z1
              · by_cases z2 : e = b
                · exact .inr (.inl z2)
                · refine .inr (.inr ⟨by omega, by omega, ?_⟩)
                  rw [at_nat (show e < L.length by omega), at_nat (show s - 1 < L.length by omega)] at g4
                  exact g4
          have q2 : s = m ∨ e = m ∨ ∃ (hs : s < L.length) (_ : 0 < e), ltJ (L[e - 1]'(by omega)) L[s] = true := by
            rcases g5 with g5 | g5
            · exact .inl g5
            · refine .inr (.inr ⟨by omega, by omega, ?_⟩)
              rw [at_nat (show e - 1 < L.length by omega), at_nat (show s < L.length by omega)] at g5
              exact g5
          obtain ⟨k0, k1, k2, k3, k4, k5, k6⟩ := merge_parts ordJ (L := L) (a := a) (m := m) (b := b) (s := s) (e := e) (mid := mid) (by omega) (by omega) (by omega) (by omega) (by omega) (by omega) (by omega) p5 p6 p7 q1 q2
          have lR : (rotR s m e L).length = L.length := rotR_length (by omega) (by omega) (by omega)
          have lL : L.length = L.length := rfl
          by_cases c1 : s < m
          · rw [show decide ((s : Int) < (m : Int)) = true from decide_eq_true (by omega)]
            by_cases c2 : m < e
            · rw [show decide ((m : Int) < (e : Int)) = true from decide_eq_true (by omega), decide_eq_true (⟨by omega, by omega, by omega, by omega, by omega⟩ : (0 : Int) ≤ (s : Int) ∧ (s : Int) < (m : Int) ∧ (m : Int) < (e : Int) ∧ (e : Int) ≤ (L.length : Int) ∧ L.length ≤ 10000)]
              by_cases t1 : a < s
              · rw [show decide ((a : Int) < (s : Int)) = true from decide_eq_true (by omega)]
                by_cases t2 : s < mid
                · rw [show decide ((s : Int) < (mid : Int)) = true from decide_eq_true (by omega), decide_eq_true (⟨⟨by omega, by omega, by omega, by rw [lR]; omega, by rw [lR]; omega, k1, k2, k3⟩, by omega⟩ : (((0 : Int) ≤ (a : Int) ∧ (a : Int) < (s : Int) ∧ (s : Int) < (mid : Int) ∧ (mid : Int) ≤ ((rotR s m e L).length : Int) ∧ (rotR s m e L).length ≤ 10000 ∧ AscT (ltJ) (seg a s (rotR s m e L)) ∧ AscT (ltJ) (seg s mid (rotR s m e L)) ∧ Cross (ltJ) (ltJ) (seg a s (rotR s m e L)) (seg s mid (rotR s m e L))) ∧ mid - a < nrec))]
                  have l2 : (rangeS (ltJ) a mid (rotR s m e L)).length = L.length := by rw [rangeS_length (by omega) (by rw [lR]; omega), lR]
                  by_cases u1 : mid < e
                  · rw [show decide ((mid : Int) < (e : Int)) = true from decide_eq_true (by omega)]
                    by_cases u2 : e < b
                    · rw [show decide ((e : Int) < (b : Int)) = true from decide_eq_true (by omega), decide_eq_true (⟨⟨by omega, by omega, by omega, by rw [l2]; omega, by rw [l2]; omega, k4, k5, k6⟩, by omega⟩ : (((0 : Int) ≤ (mid : Int) ∧ (mid : Int) < (e : Int) ∧ (e : Int) < (b : Int) ∧ (b : Int) ≤ ((rangeS (ltJ) a mid (rotR s m e L)).length : Int) ∧ (rangeS (ltJ) a mid (rotR s m e L)).length ≤ 10000 ∧ AscT (ltJ) (seg mid e (rangeS (ltJ) a mid (rotR s m e L))) ∧ AscT (ltJ) (seg e b (rangeS (ltJ) a mid (rotR s m e L))) ∧ Cross (ltJ) (ltJ) (seg mid e (rangeS (ltJ) a mid (rotR s m e L))) (seg e b (rangeS (ltJ) a mid (rotR s m e L)))) ∧ b - mid < nrec))]
                      repeat' first | exact k0.symm | trivial | rfl | apply And.intro
                    · rw [show decide ((e : Int) < (b : Int)) = false from decide_eq_false (by omega)]
                      obtain rfl : e = b := by omega
                      have hD3 := rangeS_asc ordJ (by omega) k4
                      rw [hD3] at k0
                      repeat' first | exact k0.symm | trivial | rfl | apply And.intro
                  · rw [show decide ((mid : Int) < (e : Int)) = false from decide_eq_false (by omega)]
                    obtain rfl : mid = e := by omega
                    have hD3 := rangeS_asc ordJ (by omega) k5
                    rw [hD3] at k0
                    repeat' first | exact k0.symm | trivial | rfl | apply And.intro
                · rw [show decide ((s : Int) < (mid : Int)) = false from decide_eq_false (by omega)]
                  have hs : s = mid := by omega
                  have hD2 : rangeS (ltJ) a mid (rotR s m e L) = rotR s m e L := rangeS_asc ordJ (by omega) (by rw [← hs]; exact k1)
                  rw [hD2] at k0 k4 k5 k6
                  by_cases u1 : mid < e
                  · rw [show decide ((mid : Int) < (e : Int)) = true from decide_eq_true (by omega)]
                    by_cases u2 : e < b
                    · rw [show decide ((e : Int) < (b : Int)) = true from decide_eq_true (by omega), decide_eq_true (⟨⟨by omega, by omega, by omega, by rw [lR]; omega, by rw [lR]; omega, k4, k5, k6⟩, by omega⟩ : (((0 : Int) ≤ (mid : Int) ∧ (mid : Int) < (e : Int) ∧ (e : Int) < (b : Int) ∧ (b : Int) ≤ ((rotR s m e L).length : Int) ∧ (rotR s m e L).length ≤ 10000 ∧ AscT (ltJ) (seg mid e (rotR s m e L)) ∧ AscT (ltJ) (seg e b (rotR s m e L)) ∧ Cross (ltJ) (ltJ) (seg mid e (rotR s m e L)) (seg e b (rotR s m e L))) ∧ b - mid < nrec))]
                      repeat' first | exact k0.symm | trivial | rfl | apply And.intro
                    · rw [show decide ((e : Int) < (b : Int)) = false from decide_eq_false (by omega)]
                      obtain rfl : e = b := by omega
                      have hD3 := rangeS_asc ordJ (by omega) k4
                      rw [hD3] at k0
                      repeat' first | exact k0.symm | trivial | rfl | apply And.intro
                  · rw [show decide ((mid : Int) < (e : Int)) = false from decide_eq_false (by omega)]
                    obtain rfl : mid = e := by omega
                    have hD3 := rangeS_asc ordJ (by omega) k5
                    rw [hD3] at k0
                    repeat' first | exact k0.symm | trivial | rfl | apply And.intro
              · rw [show decide ((a : Int) < (s : Int)) = false from decide_eq_false (by omega)]
                have hs : s = a := by omega
                have hD2 : rangeS (ltJ) a mid (rotR s m e L) = rotR s m e L := rangeS_asc ordJ (by omega) (by rw [← hs]; exact k2)
                rw [hD2] at k0 k4 k5 k6
                by_cases u1 : mid < e
                · rw [show decide ((mid : Int) < (e : Int)) = true from decide_eq_true (by omega)]
                  by_cases u2 : e < b
                  · rw [show decide ((e : Int) < (b : Int)) = true from decide_eq_true (by omega), decide_eq_true (⟨⟨by omega, by omega, by omega, by rw [lR]; omega, by rw [lR]; omega, k4, k5, k6⟩, by omega⟩ : (((0 : Int) ≤ (mid : Int) ∧ (mid : Int) < (e : Int) ∧ (e : Int) < (b : Int) ∧ (b : Int) ≤ ((rotR s m e L).length : Int) ∧ (rotR s m e L).length ≤ 10000 ∧ AscT (ltJ) (seg mid e (rotR s m e L)) ∧ AscT (ltJ) (seg e b (rotR s m e L)) ∧ Cross (ltJ) (ltJ) (seg mid e (rotR s m e L)) (seg e b (rotR s m e L))) ∧ b - mid < nrec))]
                    repeat' first | exact k0.symm | trivial | rfl | apply And.intro
                  · rw [show decide ((e : Int) < (b : Int)) = false from decide_eq_false (by omega)]
                    obtain rfl : e = b := by omega
                    have hD3 := rangeS_asc ordJ (by omega) k4
                    rw [hD3] at k0
                    repeat' first | exact k0.symm | trivial | rfl | apply And.intro
                · rw [show decide ((mid : Int) < (e : Int)) = false from decide_eq_false (by omega)]
                  obtain rfl : mid = e := by omega
                  have hD3 := rangeS_asc ordJ (by omega) k5
                  rw [hD3] at k0
                  repeat' first | exact k0.symm | trivial | rfl | apply And.intro
            · rw [show decide ((m : Int) < (e : Int)) = false from decide_eq_false (by omega)]
              have hD1 : rotR s m e L = L := by rw [show e = m by omega]; exact rotR_right (by omega)
              rw [hD1] at k0 k1 k2 k3 k4 k5 k6
              by_cases t1 : a < s
              · rw [show decide ((a : Int) < (s : Int)) = true from decide_eq_true (by omega)]
                by_cases t2 : s < mid
                · rw [show decide ((s : Int) < (mid : Int)) = true from decide_eq_true (by omega), decide_eq_true (⟨⟨by omega, by omega, by omega, by rw [lL]; omega, by rw [lL]; omega, k1, k2, k3⟩, by omega⟩ : (((0 : Int) ≤ (a : Int) ∧ (a : Int) < (s : Int) ∧ (s : Int) < (mid : Int) ∧ (mid : Int) ≤ ((L).length : Int) ∧ (L).length ≤ 10000 ∧ AscT (ltJ) (seg a s (L)) ∧ AscT (ltJ) (seg s mid (L)) ∧ Cross (ltJ) (ltJ) (seg a s (L)) (seg s mid (L))) ∧ mid - a < nrec))]
                  have l2 : (rangeS (ltJ) a mid (L)).length = L.length := by rw [rangeS_length (by omega) (by rw [lL]; omega), lL]
                  by_cases u1 : mid < e
                  · rw [show decide ((mid : Int) < (e : Int)) = true from decide_eq_true (by omega)]
                    by_cases u2 : e < b
                    · rw [show decide ((e : Int) < (b : Int)) = true from decide_eq_true (by omega), decide_eq_true (⟨⟨by omega, by omega, by omega, by rw [l2]; omega, by rw [l2]; omega, k4, k5, k6⟩, by omega⟩ : (((0 : Int) ≤ (mid : Int) ∧ (mid : Int) < (e : Int) ∧ (e : Int) < (b : Int) ∧ (b : Int) ≤ ((rangeS (ltJ) a mid (L)).length : Int) ∧ (rangeS (ltJ) a mid (L)).length ≤ 10000 ∧ AscT (ltJ) (seg mid e (rangeS (ltJ) a mid (L))) ∧ AscT (ltJ) (seg e b (rangeS (ltJ) a mid (L))) ∧ Cross (ltJ) (ltJ) (seg mid e (rangeS (ltJ) a mid (L))) (seg e b (rangeS (ltJ) a mid (L)))) ∧ b - mid < nrec))]
                      repeat' first | exact k0.symm | trivial | rfl | apply And.intro
                    · rw [show decide ((e : Int) < (b : Int)) = false from decide_eq_false (by omega)]
                      obtain rfl : e = b := by omega
                      have hD3 := rangeS_asc ordJ (by omega) k4
                      rw [hD3] at k0
                      repeat' first | exact k0.symm | trivial | rfl | apply And.intro
                  · rw [show decide ((mid : Int) < (e : Int)) = false from decide_eq_false (by omega)]
                    obtain rfl : mid = e := by omega
                    have hD3 := rangeS_asc ordJ (by omega) k5
                    rw [hD3] at k0
                    repeat' first | exact k0.symm | trivial | rfl | apply And.intro
                · rw [show decide ((s : Int) < (mid : Int)) = false from decide_eq_false (by omega)]
                  have hs : s = mid := by omega
                  have hD2 : rangeS (ltJ) a mid (L) = L := rangeS_asc ordJ (by omega) (by rw [← hs]; exact k1)
                  rw [hD2] at k0 k4 k5 k6
                  by_cases u1 : mid < e
                  · rw [show decide ((mid : Int) < (e : Int)) = true from decide_eq_true (by omega)]
                    by_cases u2 : e < b
                    · rw [show decide ((e : Int) < (b : Int)) = true from decide_eq_true (by omega), decide_eq_true (⟨⟨by omega, by omega, by omega, by rw [lL]; omega, by rw [lL]; omega, k4, k5, k6⟩, by omega⟩ : (((0 : Int) ≤ (mid : Int) ∧ (mid : Int) < (e : Int) ∧ (e : Int) < (b : Int) ∧ (b : Int) ≤ ((L).length : Int) ∧ (L).length ≤ 10000 ∧ AscT (ltJ) (seg mid e (L)) ∧ AscT (ltJ) (seg e b (L)) ∧ Cross (ltJ) (ltJ) (seg mid e (L)) (seg e b (L))) ∧ b - mid < nrec))]
                      repeat' first | exact k0.symm | trivial | rfl | apply And.intro
                    · rw [show decide ((e : Int) < (b : Int)) = false from decide_eq_false (by omega)]
                      obtain rfl : e = b := by omega
                      have hD3 := rangeS_asc ordJ (by omega) k4
                      rw [hD3] at k0
                      repeat' first | exact k0.symm | trivial | rfl | apply And.intro
                  · rw [show decide ((mid : Int) < (e : Int)) = false from decide_eq_false (by omega)]
                    obtain rfl : mid = e := by omega
                    have hD3 := rangeS_asc ordJ (by omega) k5
                    rw [hD3] at k0
                    repeat' first | exact k0.symm | trivial | rfl | apply And.intro
              · rw [show decide ((a : Int) < (s : Int)) = false from decide_eq_false (by omega)]
                have hs : s = a := by omega
                have hD2 : rangeS (ltJ) a mid (L) = L := rangeS_asc ordJ (by omega) (by rw [← hs]; exact k2)
                rw [hD2] at k0 k4 k5 k6
                by_cases u1 : mid < e
                · rw [show decide ((mid : Int) < (e : Int)) = true from decide_eq_true (by omega)]
                  by_cases u2 : e < b
                  · rw [show decide ((e : Int) < (b : Int)) = true from decide_eq_true (by omega), decide_eq_true (⟨⟨by omega, by omega, by omega, by rw [lL]; omega, by rw [lL]; omega, k4, k5, k6⟩, by omega⟩ : (((0 : Int) ≤ (mid : Int) ∧ (mid : Int) < (e : Int) ∧ (e : Int) < (b : Int) ∧ (b : Int) ≤ ((L).length : Int) ∧ (L).length ≤ 10000 ∧ AscT (ltJ) (seg mid e (L)) ∧ AscT (ltJ) (seg e b (L)) ∧ Cross (ltJ) (ltJ) (seg mid e (L)) (seg e b (L))) ∧ b - mid < nrec))]
                    repeat' first | exact k0.symm | trivial | rfl | apply And.intro
                  · rw [show decide ((e : Int) < (b : Int)) = false from decide_eq_false (by omega)]
                    obtain rfl : e = b := by omega
                    have hD3 := rangeS_asc ordJ (by omega) k4
                    rw [hD3] at k0
                    repeat' first | exact k0.symm | trivial | rfl | apply And.intro
                · rw [show decide ((mid : Int) < (e : Int)) = false from decide_eq_false (by omega)]
                  obtain rfl : mid = e := by omega
                  have hD3 := rangeS_asc ordJ (by omega) k5
                  rw [hD3] at k0
                  repeat' first | exact k0.symm | trivial | rfl | apply And.intro
          · rw [show decide ((s : Int) < (m : Int)) = false from decide_eq_false (by omega)]
            have hD1 : rotR s m e L = L := by rw [show s = m by omega]; exact rotR_left (by omega)
            rw [hD1] at k0 k1 k2 k3 k4 k5 k6
            by_cases t1 : a < s
            · rw [show decide ((a : Int) < (s : Int)) = true from decide_eq_true (by omega)]
              by_cases t2 : s < mid
              · rw [show decide ((s : Int) < (mid : Int)) = true from decide_eq_true (by omega), decide_eq_true (⟨⟨by omega, by omega, by omega, by rw [lL]; omega, by rw [lL]; omega, k1, k2, k3⟩, by omega⟩ : (((0 : Int) ≤ (a : Int) ∧ (a : Int) < (s : Int) ∧ (s : Int) < (mid : Int) ∧ (mid : Int) ≤ ((L).length : Int) ∧ (L).length ≤ 10000 ∧ AscT (ltJ) (seg a s (L)) ∧ AscT (ltJ) (seg s mid (L)) ∧ Cross (ltJ) (ltJ) (seg a s (L)) (seg s mid (L))) ∧ mid - a < nrec))]
                have l2 : (rangeS (ltJ) a mid (L)).length = L.length := by rw [rangeS_length (by omega) (by rw [lL]; omega), lL]
                by_cases u1 : mid < e
                · rw [show decide ((mid : Int) < (e : Int)) = true from decide_eq_true (by omega)]
                  by_cases u2 : e < b
                  · rw [show decide ((e : Int) < (b : Int)) = true from decide_eq_true (by omega), decide_eq_true (⟨⟨by omega, by omega, by omega, by rw [l2]; omega, by rw [l2]; omega, k4, k5, k6⟩, by omega⟩ : (((0 : Int) ≤ (mid : Int) ∧ (mid : Int) < (e : Int) ∧ (e : Int) < (b : Int) ∧ (b : Int) ≤ ((rangeS (ltJ) a mid (L)).length : Int) ∧ (rangeS (ltJ) a mid (L)).length ≤ 10000 ∧ AscT (ltJ) (seg mid e (rangeS (ltJ) a mid (L))) ∧ AscT (ltJ) (seg e b (rangeS (ltJ) a mid (L))) ∧ Cross (ltJ) (ltJ) (seg mid e (rangeS (ltJ) a mid (L))) (seg e b (rangeS (ltJ) a mid (L)))) ∧ b - mid < nrec))]
                    repeat' first | exact k0.symm | trivial | rfl | apply And.intro
                  · rw [show decide ((e : Int) < (b : Int)) = false from decide_eq_false (by omega)]
                    obtain rfl : e = b := by omega
                    have hD3 := rangeS_asc ordJ (by omega) k4
                    rw [hD3] at k0
                    repeat' first | exact k0.symm | trivial | rfl | apply And.intro
                · rw [show decide ((mid : Int) < (e : Int)) = false from decide_eq_false (by omega)]
                  obtain rfl : mid = e := by omega
                  have hD3 := rangeS_asc ordJ (by omega) k5
                  rw [hD3] at k0
                  repeat' first | exact k0.symm | trivial | rfl | apply And.intro
              · rw [show decide ((s : Int) < (mid : Int)) = false from decide_eq_false (by omega)]
                have hs : s = mid := by omega
                have hD2 : rangeS (ltJ) a mid (L) = L := rangeS_asc ordJ (by omega) (by rw [← hs]; exact k1)
                rw [hD2] at k0 k4 k5 k6
                by_cases u1 : mid < e
                · rw [show decide ((mid : Int) < (e : Int)) = true from decide_eq_true (by omega)]
                  by_cases u2 : e < b
                  · rw [show decide ((e : Int) < (b : Int)) = true from decide_eq_true (by omega), decide_eq_true (⟨⟨by omega, by omega, by omega, by rw [lL]; omega, by rw [lL]; omega, k4, k5, k6⟩, by omega⟩ : (((0 : Int) ≤ (mid : Int) ∧ (mid : Int) < (e : Int) ∧ (e : Int) < (b : Int) ∧ (b : Int) ≤ ((L).length : Int) ∧ (L).length ≤ 10000 ∧ AscT (ltJ) (seg mid e (L)) ∧ AscT (ltJ) (seg e b (L)) ∧ Cross (ltJ) (ltJ) (seg mid e (L)) (seg e b (L))) ∧ b - mid < nrec))]
                    repeat' first | exact k0.symm | trivial | rfl | apply And.intro
                  · rw [show decide ((e : Int) < (b : Int)) = false from decide_eq_false (by omega)]
                    obtain rfl : e = b := by omega
                    have hD3 := rangeS_asc ordJ (by omega) k4
                    rw [hD3] at k0
                    repeat' first | exact k0.symm | trivial | rfl | apply And.intro
                · rw [show decide ((mid : Int) < (e : Int)) = false from decide_eq_false (by omega)]
                  obtain rfl : mid = e := by omega
                  have hD3 := rangeS_asc ordJ (by omega) k5
                  rw [hD3] at k0
                  repeat' first | exact k0.symm | trivial | rfl | apply And.intro
            · rw [show decide ((a : Int) < (s : Int)) = false from decide_eq_false (by omega)]
              have hs : s = a := by omega
              have hD2 : rangeS (ltJ) a mid (L) = L := rangeS_asc ordJ (by omega) (by rw [← hs]; exact k2)
              rw [hD2] at k0 k4 k5 k6
              by_cases u1 : mid < e
              · rw [show decide ((mid : Int) < (e : Int)) = true from decide_eq_true (by omega)]
                by_cases u2 : e < b
                · rw [show decide ((e : Int) < (b : Int)) = true from decide_eq_true (by omega), decide_eq_true (⟨⟨by omega, by omega, by omega, by rw [lL]; omega, by rw [lL]; omega, k4, k5, k6⟩, by omega⟩ : (((0 : Int) ≤ (mid : Int) ∧ (mid : Int) < (e : Int) ∧ (e : Int) < (b : Int) ∧ (b : Int) ≤ ((L).length : Int) ∧ (L).length ≤ 10000 ∧ AscT (ltJ) (seg mid e (L)) ∧ AscT (ltJ) (seg e b (L)) ∧ Cross (ltJ) (ltJ) (seg mid e (L)) (seg e b (L))) ∧ b - mid < nrec))]
                  repeat' first | exact k0.symm | trivial | rfl | apply And.intro
                · rw [show decide ((e : Int) < (b : Int)) = false from decide_eq_false (by omega)]
                  obtain rfl : e = b := by omega
                  have hD3 := rangeS_asc ordJ (by omega) k4
                  rw [hD3] at k0
                  repeat' first | exact k0.symm | trivial | rfl | apply And.intro
              · rw [show decide ((mid : Int) < (e : Int)) = false from decide_eq_false (by omega)]
                obtain rfl : mid = e := by omega
                have hD3 := rangeS_asc ordJ (by omega) k5
                rw [hD3] at k0
                repeat' first | exact k0.symm | trivial | rfl | apply And.intro
noncomputable def symJCon : Con T O := fun args cs => match args, cs with
  | [.own 0, .raw (.int .i64 a), .raw (.int .i64 m), .raw (.int .i64 b), .fn 51 []], [.vec 4 L 52] => chk (decide (0 ≤ a ∧ a < m ∧ m < b ∧ b ≤ L.length ∧ L.length ≤ 10000 ∧ AscT (ltJ) (seg a.toNat m.toNat L) ∧ AscT (ltJ) (seg m.toNat b.toNat L) ∧ Cross (ltJ) (ltJ) (seg a.toNat m.toNat L) (seg m.toNat b.toNat L))) (.ret ⟨some (.tup []), [(0, some (.vec 4 (rangeS (ltJ) a.toNat b.toNat L) 52))]⟩)
  | _, _ => .fail
theorem symJOkN : ∀ nrec, ConOk R Try.prog 102 (symJConN nrec)
  | 0 => by
    intro args cs K h
    exfalso
    unfold symJConN at h
    split at h <;> first | exact h.elim | (rw [Tree.holds_chk] at h; exact Nat.not_lt_zero _ (of_decide_eq_true h.1).2)
  | nrec + 1 => con_of_fn R ({ X28 with con := conOf ((102, symJConN nrec) :: tab28) }) (TabOk.con R (TabOk.cons R ((symJOkN nrec)) X28Ok)) mixed Try.call102 Try.func102 (symJConN (nrec + 1)) (by
    intro args cs K h
    unfold symJConN at h
    split at h
    · rename_i a m b L
      rw [Tree.holds_chk] at h
      obtain ⟨hp, h⟩ := h
      obtain ⟨hp, hr⟩ := of_decide_eq_true hp
      refine ⟨annOf [(3, { σ := Nat × Nat, st := fun S x => ((S.keep [0, 1, 2, 3, 4]).int 10 x.1).int 11 x.2, inv := fun _ x => m.toNat ≤ x.1 ∧ x.1 ≤ x.2 ∧ x.2 ≤ b.toNat ∧ (x.1 = m.toNat ∨ ltJ (at' (jobE.zero) L ((x.1 - 1 : Nat) : Int)) (at' (jobE.zero) L (a.toNat : Int)) = true) ∧ (x.2 = b.toNat ∨ ltJ (at' (jobE.zero) L (x.2 : Int)) (at' (jobE.zero) L (a.toNat : Int)) = false), m := fun x => x.2 - x.1 }),
        (9, { σ := Nat, st := fun S x => ((S.keep [0, 1, 4, 10]).int 13 (a.toNat + x : Nat)).at' 0 (.vec 4 (bubU (jobE.zero) a.toNat x L) 52), inv := fun S x => a.toNat + x + 1 ≤ (S.gi 10).toNat ∧ (S.gi 10).toNat ≤ b.toNat, m := fun x => b.toNat - x }),
        (15, { σ := Nat × Nat, st := fun S x => ((S.keep [0, 1, 2, 3, 4]).int 14 x.1).int 15 x.2, inv := fun _ x => a.toNat ≤ x.1 ∧ x.1 ≤ x.2 ∧ x.2 ≤ m.toNat ∧ (x.1 = a.toNat ∨ ltJ (at' (jobE.zero) L (m.toNat : Int)) (at' (jobE.zero) L ((x.1 - 1 : Nat) : Int)) = false) ∧ (x.2 = m.toNat ∨ ltJ (at' (jobE.zero) L (m.toNat : Int)) (at' (jobE.zero) L (x.2 : Int)) = true), m := fun x => x.2 - x.1 }),
        (21, { σ := Nat, st := fun S x => ((S.keep [0, 2, 4, 14]).int 17 (m.toNat - x : Nat)).at' 0 (.vec 4 (bubD (jobE.zero) m.toNat x L) 52), inv := fun S x => x + (S.gi 14).toNat ≤ m.toNat ∧ a.toNat ≤ (S.gi 14).toNat, m := fun x => m.toNat - x }),
        (33, { σ := Nat × Nat, st := fun S x => ((S.keep [0, 1, 2, 3, 4, 18, 19, 22]).int 20 x.1).int 21 x.2, inv := fun S x => (S.gi 20).toNat ≤ x.1 ∧ x.1 ≤ x.2 ∧ x.2 ≤ (S.gi 21).toNat ∧ (x.1 = (S.gi 20).toNat ∨ ltJ (at' (jobE.zero) L (((a.toNat + b.toNat) / 2 + m.toNat - x.1 : Nat) : Int)) (at' (jobE.zero) L ((x.1 - 1 : Nat) : Int)) = false) ∧ (x.2 = (S.gi 21).toNat ∨ ltJ (at' (jobE.zero) L (((a.toNat + b.toNat) / 2 + m.toNat - 1 - x.2 : Nat) : Int)) (at' (jobE.zero) L (x.2 : Int)) = true), m := fun x => x.2 - x.1 })] [], _, fun v S hv => ⟨_, h, hv⟩, ?_⟩
      rw [symJVc nrec L a m b]
      exact symJHolds nrec L a m b hp hr
    · exact h.elim)
theorem symJOk : ConOk R Try.prog 102 symJCon := by
  intro args cs K h
  unfold symJCon at h
  split at h
  · rename_i a m b L
    rw [Tree.holds_chk] at h
    refine symJOkN (b.toNat - a.toNat + 1) _ _ K ?_
    unfold symJConN
    show Tree.holds K (chk _ _)
    rw [Tree.holds_chk]
    exact ⟨decide_eq_true ⟨of_decide_eq_true h.1, Nat.lt_succ_self _⟩, h.2⟩
  · exact h.elim
noncomputable def tab29 : Tab T O := (102, symJCon) :: tab28
theorem tabOk29 : TabOk R Try.prog tab29 := TabOk.cons R symJOk <| tabOk28
noncomputable def X29 : Ctx T O := { X0 with con := conOf tab29 }
theorem X29Ok : TabOk R X29.P tab29 := tabOk29
end Go.Proofs.Ytmnnjclnldaejaa

namespace Go.Proofs.Ytmnnjclnldaejaa
open Go.Sx Go.Proofs Classical
/-! ### slices.stableCmpFunc[regatta/api.Job] -/
def stbJText (L : List Job)  (n : Int) : Prop := ((∃ x : Nat, ((((20 : Nat) * x).le L.length) ∧ ((True ∧ ((n = n) ∧ (True ∧ (((20 : Int) = (20 : Int)) ∧ (((↑((20 : Nat) * x) : Int) = (0 : Int)) ∧ (((↑((20 : Nat) * (x + (1 : Nat))) : Int) = (20 : Int)) ∧ True)))))) ∧ ((insS ltJ x L = L) ∧ True)))) ∧ (∀ x : Nat, ((((20 : Nat) * x).le L.length) → (match (decide ((↑((20 : Nat) * (x + (1 : Nat))) : Int) ≤ n)) with | true => (match (decide ((0 : Int) ≤ (↑((20 : Nat) * x) : Int) ∧ (↑((20 : Nat) * x) : Int) ≤ (↑((20 : Nat) * (x + (1 : Nat))) : Int) ∧ (↑((20 : Nat) * (x + (1 : Nat))) : Int) ≤ (↑(insS ltJ x L).length : Int) ∧ (insS ltJ x L).length ≤ (10000 : Nat) ∧ PreT ltJ ltJ (seg (↑((20 : Nat) * x) : Int).toNat (↑((20 : Nat) * (x + (1 : Nat))) : Int).toNat (insS ltJ x L)))) with | true => (∃ x' : Nat, ((((20 : Nat) * x').le L.length) ∧ ((L.length - x' < L.length - x) ∧ ((True ∧ ((n = n) ∧ (True ∧ (((20 : Int) = (20 : Int)) ∧ (((↑((20 : Nat) * x') : Int) = (↑((20 : Nat) * (x + (1 : Nat))) : Int)) ∧ (((↑((20 : Nat) * (x' + (1 : Nat))) : Int) = IntKind.i64.wrap ((↑((20 : Nat) * (x + (1 : Nat))) : Int) + (20 : Int))) ∧ True)))))) ∧ ((insS ltJ x' L = rangeS ltJ (↑((20 : Nat) * x) : Int).toNat (↑((20 : Nat) * (x + (1 : Nat))) : Int).toNat (insS ltJ x L)) ∧ True))))) | false => False) | false => (match (decide ((0 : Int) ≤ (↑((20 : Nat) * x) : Int) ∧ (↑((20 : Nat) * x) : Int) ≤ n ∧ n ≤ (↑(insS ltJ x L).length : Int) ∧ (insS ltJ x L).length ≤ (10000 : Nat) ∧ PreT ltJ ltJ (seg (↑((20 : Nat) * x) : Int).toNat n.toNat (insS ltJ x L)))) with | true => ((∃ x1 : Nat × List Job, ((((20 : Nat) ≤ x1.fst) ∧ ((x1.fst ≤ (2 : Nat) * L.length + (20 : Nat)) ∧ (x1.snd = blkA ltJ x1.fst L))) ∧ ((True ∧ ((n = n) ∧ (True ∧ (((↑x1.fst : Int) = (20 : Int)) ∧ True)))) ∧ ((x1.snd = rangeS ltJ (↑((20 : Nat) * x) : Int).toNat n.toNat (insS ltJ x L)) ∧ True)))) ∧ (∀ x1 : Nat × List Job, ((((20 : Nat) ≤ x1.fst) ∧ ((x1.fst ≤ (2 : Nat) * L.length + (20 : Nat)) ∧ (x1.snd = blkA ltJ x1.fst L))) → (match (decide ((↑x1.fst : Int) < n)) with | true => ((∃ x2 : Nat, ((((2 : Nat) * (↑x1.fst : Int).toNat * x2).le L.length) ∧ ((True ∧ ((n = n) ∧ (True ∧ (((↑x1.fst : Int) = (↑x1.fst : Int)) ∧ (((↑((2 : Nat) * (↑x1.fst : Int).toNat * x2) : Int) = (0 : Int)) ∧ (((↑((2 : Nat) * (↑x1.fst : Int).toNat * (x2 + (1 : Nat))) : Int) = IntKind.i64.wrap ((2 : Int) * (↑x1.fst : Int))) ∧ True)))))) ∧ ((mrgS ltJ (↑x1.fst : Int).toNat x2 L = x1.snd) ∧ True)))) ∧ (∀ x2 : Nat, ((((2 : Nat) * (↑x1.fst : Int).toNat * x2).le L.length) → (match (decide ((↑((2 : Nat) * (↑x1.fst : Int).toNat * (x2 + (1 : Nat))) : Int) ≤ n)) with | true => (match (decide ((0 : Int) ≤ (↑((2 : Nat) * (↑x1.fst : Int).toNat * x2) : Int) ∧ (↑((2 : Nat) * (↑x1.fst : Int).toNat * x2) : Int) < IntKind.i64.wrap ((↑((2 : Nat) * (↑x1.fst : Int).toNat * x2) : Int) + (↑x1.fst : Int)) ∧ IntKind.i64.wrap ((↑((2 : Nat) * (↑x1.fst : Int).toNat * x2) : Int) + (↑x1.fst : Int)) < (↑((2 : Nat) * (↑x1.fst : Int).toNat * (x2 + (1 : Nat))) : Int) ∧ (↑((2 : Nat) * (↑x1.fst : Int).toNat * (x2 + (1 : Nat))) : Int) ≤ (↑(mrgS ltJ (↑x1.fst : Int).toNat x2 L).length : Int) ∧ (mrgS ltJ (↑x1.fst : Int).toNat x2 L).length ≤ (10000 : Nat) ∧ AscT ltJ (seg (↑((2 : Nat) * (↑x1.fst : Int).toNat * x2) : Int).toNat (IntKind.i64.wrap ((↑((2 : Nat) * (↑x1.fst : Int).toNat * x2) : Int) + (↑x1.fst : Int))).toNat (mrgS ltJ (↑x1.fst : Int).toNat x2 L)) ∧ AscT ltJ (seg (IntKind.i64.wrap ((↑((2 : Nat) * (↑x1.fst : Int).toNat * x2) : Int) + (↑x1.fst : Int))).toNat (↑((2 : Nat) * (↑x1.fst : Int).toNat * (x2 + (1 : Nat))) : Int).toNat (mrgS ltJ (↑x1.fst : Int).toNat x2 L)) ∧ Cross ltJ ltJ (seg (↑((2 : Nat) * (↑x1.fst : Int).toNat * x2) : Int).toNat (IntKind.i64.wrap ((↑((2 : Nat) * (↑x1.fst : Int).toNat * x2) : Int) + (↑x1.fst : Int))).toNat (mrgS ltJ (↑x1.fst : Int).toNat x2 L)) (seg (IntKind.i64.wrap ((↑((2 : Nat) * (↑x1.fst : Int).toNat * x2) : Int) + (↑x1.fst : Int))).toNat (↑((2 : Nat) * (↑x1.fst : Int).toNat * (x2 + (1 : Nat))) : Int).toNat (mrgS ltJ (↑x1.fst : Int).toNat x2 L)))) with | true => (∃ x' : Nat, ((((2 : Nat) * (↑x1.fst : Int).toNat * x').le L.length) ∧ ((L.length - x' < L.length - x2) ∧ ((True ∧ ((n = n) ∧ (True ∧ (((↑x1.fst : Int) = (↑x1.fst : Int)) ∧ (((↑((2 : Nat) * (↑x1.fst : Int).toNat * x') : Int) = (↑((2 : Nat) * (↑x1.fst : Int).toNat * (x2 + (1 : Nat))) : Int)) ∧ (((↑((2 : Nat) * (↑x1.fst : Int).toNat * (x' + (1 : Nat))) : Int) = IntKind.i64.wrap ((↑((2 : Nat) * (↑x1.fst : Int).toNat * (x2 + (1 : Nat))) : Int) + IntKind.i64.wrap ((2 : Int) * (↑x1.fst : Int)))) ∧ True)))))) ∧ ((mrgS ltJ (↑x1.fst : Int).toNat x' L = rangeS ltJ (↑((2 : Nat) * (↑x1.fst : Int).toNat * x2) : Int).toNat (↑((2 : Nat) * (↑x1.fst : Int).toNat * (x2 + (1 : Nat))) : Int).toNat (mrgS ltJ (↑x1.fst : Int).toNat x2 L)) ∧ True))))) | false => False) | false => (match (decide (IntKind.i64.wrap ((↑((2 : Nat) * (↑x1.fst : Int).toNat * x2) : Int) + (↑x1.fst : Int)) < n)) with | true => (match (decide ((0 : Int) ≤ (↑((2 : Nat) * (↑x1.fst : Int).toNat * x2) : Int) ∧ (↑((2 : Nat) * (↑x1.fst : Int).toNat * x2) : Int) < IntKind.i64.wrap ((↑((2 : Nat) * (↑x1.fst : Int).toNat * x2) : Int) + (↑x1.fst : Int)) ∧ IntKind.i64.wrap ((↑((2 : Nat) * (↑x1.fst : Int).toNat * x2) : Int) + (↑x1.fst : Int)) < n ∧ n ≤ (↑(mrgS ltJ (↑x1.fst : Int).toNat x2 L).length : Int) ∧ (mrgS ltJ (↑x1.fst : Int).toNat x2 L).length ≤ (10000 : Nat) ∧ AscT ltJ (seg (↑((2 : Nat) * (↑x1.fst : Int).toNat * x2) : Int).toNat (IntKind.i64.wrap ((↑((2 : Nat) * (↑x1.fst : Int).toNat * x2) : Int) + (↑x1.fst : Int))).toNat (mrgS ltJ (↑x1.fst : Int).toNat x2 L)) ∧ AscT ltJ (seg (IntKind.i64.wrap ((↑((2 : Nat) * (↑x1.fst : Int).toNat * x2) : Int) + (↑x1.fst : Int))).toNat n.toNat (mrgS ltJ (↑x1.fst : Int).toNat x2 L)) ∧ Cross ltJ ltJ (seg (↑((2 : Nat) * (↑x1.fst : Int).toNat * x2) : Int).toNat (IntKind.i64.wrap ((↑((2 : Nat) * (↑x1.fst : Int).toNat * x2) : Int) + (↑x1.fst : Int))).toNat (mrgS ltJ (↑x1.fst : Int).toNat x2 L)) (seg (IntKind.i64.wrap ((↑((2 : Nat) * (↑x1.fst : Int).toNat * x2) : Int) + (↑x1.fst : Int))).toNat n.toNat (mrgS ltJ (↑x1.fst : Int).toNat x2 L)))) with | true => (∃ x' : Nat × List Job, ((((20 : Nat) ≤ x'.fst) ∧ ((x'.fst ≤ (2 : Nat) * L.length + (20 : Nat)) ∧ (x'.snd = blkA ltJ x'.fst L))) ∧ (((2 : Nat) * L.length + (20 : Nat) - x'.fst < (2 : Nat) * L.length + (20 : Nat) - x1.fst) ∧ ((True ∧ ((n = n) ∧ (True ∧ (((↑x'.fst : Int) = IntKind.i64.wrap ((↑x1.fst : Int) * (2 : Int))) ∧ True)))) ∧ ((x'.snd = rangeS ltJ (↑((2 : Nat) * (↑x1.fst : Int).toNat * x2) : Int).toNat n.toNat (mrgS ltJ (↑x1.fst : Int).toNat x2 L)) ∧ True))))) | false => False) | false => (∃ x' : Nat × List Job, ((((20 : Nat) ≤ x'.fst) ∧ ((x'.fst ≤ (2 : Nat) * L.length + (20 : Nat)) ∧ (x'.snd = blkA ltJ x'.fst L))) ∧ (((2 : Nat) * L.length + (20 : Nat) - x'.fst < (2 : Nat) * L.length + (20 : Nat) - x1.fst) ∧ ((True ∧ ((n = n) ∧ (True ∧ (((↑x'.fst : Int) = IntKind.i64.wrap ((↑x1.fst : Int) * (2 : Int))) ∧ True)))) ∧ ((x'.snd = mrgS ltJ (↑x1.fst : Int).toNat x2 L) ∧ True)))))))))) | false => ((True ∧ True) ∧ ((srtT ltJ L = x1.snd) ∧ True)))))) | false => False)))))
theorem stbJVc (L : List Job)  (n : Int) : fnX X29 (annOf [(2, { σ := Nat, st := fun S x => ((((S.keep [0, 1, 2]).int 6 20).int 7 (20 * x : Nat)).int 8 (20 * (x + 1) : Nat)).at' 0 (.vec 4 (insS (ltJ) x L) 52), inv := fun _ x => 20 * x ≤ L.length, m := fun x => L.length - x }),
      (7, { σ := Nat × List Job, st := fun S x => ((S.keep [0, 1, 2]).int 6 x.1).at' 0 (.vec 4 x.2 52), inv := fun _ x => 20 ≤ x.1 ∧ x.1 ≤ 2 * L.length + 20 ∧ x.2 = blkA (ltJ) x.1 L, m := fun x => 2 * L.length + 20 - x.1 }),
      (9, { σ := Nat, st := fun S x => (((S.keep [0, 1, 2, 6]).int 7 (2 * (S.gi 6).toNat * x : Nat)).int 8 (2 * (S.gi 6).toNat * (x + 1) : Nat)).at' 0 (.vec 4 (mrgS (ltJ) (S.gi 6).toNat x L) 52), inv := fun S x => 2 * (S.gi 6).toNat * x ≤ L.length, m := fun x => L.length - x })] []) Try.f83 [.own 0, .raw (.int .i64 n), .fn 51 []] [.vec 4 L 52] (ends [.vec 4 L 52] ⟨some (.tup []), [(0, some (.vec 4 (srtT (ltJ) L) 52))]⟩) = stbJText L n := by kernel_rfl
set_option maxHeartbeats 1000000 in
theorem stbJHolds (L : List Job)  (n : Int) (hp : n = L.length ∧ L.length ≤ 10000 ∧ PreT (ltJ) (ltJ) L) : stbJText L n := by
  unfold stbJText
  obtain ⟨rfl, p1, p2⟩ := hp
  refine ⟨⟨0, Nat.zero_le _, by repeat' first | trivial | rfl | apply And.intro⟩, ?_⟩
  intro x hx
  have hx : 20 * x ≤ L.length := hx
  have hl := insS_length (TL := ltJ) x L
  by_cases c : 20 * (x + 1) ≤ L.length
  · obtain ⟨k1, k2⟩ := insS_step ordJ p2 hx (show 20 * (x + 1) = min (20 * (x + 1)) L.length by omega)
    have hw : ((20 * (x + 1 + 1) : Nat) : Int) = IntKind.i64.wrap (((20 * (x + 1) : Nat) : Int) + 20) := by rw [wrap_id (by omega) (by omega)]; omega
    rw [decide_eq_true (show ((20 * (x + 1) : Nat) : Int) ≤ (L.length : Int) by omega), Int.toNat_natCast, Int.toNat_natCast, hl, decide_eq_true (⟨by omega, by omega, by omega, p1, k2⟩ : (0 : Int) ≤ ((20 * x : Nat) : Int) ∧ ((20 * x : Nat) : Int) ≤ ((20 * (x + 1) : Nat) : Int) ∧ ((20 * (x + 1) : Nat) : Int) ≤ (L.length : Int) ∧ L.length ≤ 10000 ∧ PreT (ltJ) (ltJ) (seg (20 * x) (20 * (x + 1)) (insS (ltJ) x L)))]
    refine ⟨x + 1, c, by omega, ?_⟩
    repeat' first | exact hw | exact k1.symm | trivial | rfl | apply And.intro
  · obtain ⟨k1, k2⟩ := insS_step ordJ p2 hx (show L.length = min (20 * (x + 1)) L.length by omega)
    rw [insS_end (x := x + 1) (by omega)] at k1
    rw [decide_eq_false (show ¬ ((20 * (x + 1) : Nat) : Int) ≤ (L.length : Int) by omega)]
    repeat rw [Int.toNat_natCast]
    rw [hl, decide_eq_true (⟨by omega, by omega, by omega, p1, k2⟩ : (0 : Int) ≤ ((20 * x : Nat) : Int) ∧ ((20 * x : Nat) : Int) ≤ (L.length : Int) ∧ (L.length : Int) ≤ (L.length : Int) ∧ L.length ≤ 10000 ∧ PreT (ltJ) (ltJ) (seg (20 * x) L.length (insS (ltJ) x L)))]
    refine ⟨⟨(20, blkA (ltJ) 20 L), ⟨Nat.le_refl _, by dsimp only; omega, rfl⟩, by repeat' first | exact k1.symm | trivial | rfl | apply And.intro⟩, ?_⟩
    rintro ⟨B, D⟩ ⟨g1, g2, g3⟩
    dsimp only at g1 g2 g3 ⊢
    by_cases u : B < L.length
    · have hw0 : ((2 * B * (0 + 1) : Nat) : Int) = IntKind.i64.wrap (2 * (B : Int)) := by rw [wrap_id (by omega) (by omega)]; omega
      rw [decide_eq_true (show (B : Int) < (L.length : Int) by omega)]
      repeat rw [Int.toNat_natCast]
      have e0 : mrgS (ltJ) B 0 L = D := g3.symm
      refine ⟨⟨0, Nat.zero_le _, by repeat' first | exact hw0 | exact e0 | trivial | rfl | apply And.intro⟩, ?_⟩
      intro y hy
      have hy : 2 * B * y ≤ L.length := hy
      have hm : 2 * B * (y + 1) = 2 * B * y + 2 * B := Nat.mul_succ _ _
      have hm2 : 2 * B * (y + 1 + 1) = 2 * B * (y + 1) + 2 * B := Nat.mul_succ _ _
      have hlm := mrgS_length (TL := ltJ) B y (by omega) L
      rw [show IntKind.i64.wrap (((2 * B * y : Nat) : Int) + (B : Int)) = ((2 * B * y + B : Nat) : Int) by rw [wrap_id (by omega) (by omega)]; omega]
      repeat rw [Int.toNat_natCast]
      rw [hlm]
      by_cases v : 2 * B * (y + 1) ≤ L.length
      · obtain ⟨k1, k2, k3, k4⟩ := mrgS_step ordJ (B := B) (x := y) (c := 2 * B * (y + 1)) (by omega) p2 (by omega) (by omega)
        have hyl : y + 1 ≤ 2 * B * (y + 1) := Nat.le_mul_of_pos_left _ (by omega)
        have hw : ((2 * B * (y + 1 + 1) : Nat) : Int) = IntKind.i64.wrap (((2 * B * (y + 1) : Nat) : Int) + IntKind.i64.wrap (2 * (B : Int))) := by rw [wrap_id (n := 2 * (B : Int)) (by omega) (by omega), wrap_id (by omega) (by omega)]; omega
        rw [decide_eq_true (show ((2 * B * (y + 1) : Nat) : Int) ≤ (L.length : Int) by omega), decide_eq_true (⟨by omega, by omega, by omega, by omega, p1, k2, k3, k4⟩ : ((0 : Int) ≤ ((2 * B * y : Nat) : Int) ∧ ((2 * B * y : Nat) : Int) < ((2 * B * y + B : Nat) : Int) ∧ ((2 * B * y + B : Nat) : Int) < ((2 * B * (y + 1) : Nat) : Int) ∧ ((2 * B * (y + 1) : Nat) : Int) ≤ (L.length : Int) ∧ L.length ≤ 10000 ∧ AscT (ltJ) (seg (2 * B * y) (2 * B * y + B) (mrgS (ltJ) B y L)) ∧ AscT (ltJ) (seg (2 * B * y + B) (2 * B * (y + 1)) (mrgS (ltJ) B y L)) ∧ Cross (ltJ) (ltJ) (seg (2 * B * y) (2 * B * y + B) (mrgS (ltJ) B y L)) (seg (2 * B * y + B) (2 * B * (y + 1)) (mrgS (ltJ) B y L))))]
        refine ⟨y + 1, v, by omega, ?_⟩
        repeat' first | exact hw | exact k1.symm | trivial | rfl | apply And.intro
      · rw [decide_eq_false (show ¬ ((2 * B * (y + 1) : Nat) : Int) ≤ (L.length : Int) by omega)]
        have hw : ((2 * B : Nat) : Int) = IntKind.i64.wrap ((B : Int) * 2) := by rw [wrap_id (by omega) (by omega)]; omega
        by_cases w : 2 * B * y + B < L.length
        · obtain ⟨k1, k2, k3, k4⟩ := mrgS_step ordJ (B := B) (x := y) (c := L.length) (by omega) p2 w (by omega)
          rw [mrgS_all (x := y + 1) (by omega) (by omega)] at k1
          rw [decide_eq_true (show ((2 * B * y + B : Nat) : Int) < (L.length : Int) by omega), decide_eq_true (⟨by omega, by omega, by omega, by omega, p1, k2, k3, k4⟩ : ((0 : Int) ≤ ((2 * B * y : Nat) : Int) ∧ ((2 * B * y : Nat) : Int) < ((2 * B * y + B : Nat) : Int) ∧ ((2 * B * y + B : Nat) : Int) < ((L.length : Nat) : Int) ∧ ((L.length : Nat) : Int) ≤ (L.length : Int) ∧ L.length ≤ 10000 ∧ AscT (ltJ) (seg (2 * B * y) (2 * B * y + B) (mrgS (ltJ) B y L)) ∧ AscT (ltJ) (seg (2 * B * y + B) (L.length) (mrgS (ltJ) B y L)) ∧ Cross (ltJ) (ltJ) (seg (2 * B * y) (2 * B * y + B) (mrgS (ltJ) B y L)) (seg (2 * B * y + B) (L.length) (mrgS (ltJ) B y L))))]
          refine ⟨(2 * B, blkA (ltJ) (2 * B) L), ⟨by dsimp only; omega, by dsimp only; omega, rfl⟩, by dsimp only; omega, ?_⟩
          repeat' first | exact hw | exact k1.symm | trivial | rfl | apply And.intro
        · rw [decide_eq_false (show ¬ ((2 * B * y + B : Nat) : Int) < (L.length : Int) by omega)]
          have k1 : mrgS (ltJ) B y L = blkA (ltJ) (2 * B) L := mrgS_end ordJ (by omega) (by omega)
          refine ⟨(2 * B, blkA (ltJ) (2 * B) L), ⟨by dsimp only; omega, by dsimp only; omega, rfl⟩, by dsimp only; omega, ?_⟩
          repeat' first | exact hw | exact k1.symm | trivial | rfl | apply And.intro
    · rw [decide_eq_false (show ¬ (B : Int) < (L.length : Int) by omega)]
      have e : srtT (ltJ) L = D := by rw [g3, blkA_one ordJ (by omega) (by omega)]
      repeat' first | exact e | trivial | rfl | apply And.intro
noncomputable def stbJCon : Con T O := fun args cs => match args, cs with
  | [.own 0, .raw (.int .i64 n), .fn 51 []], [.vec 4 L 52] => chk (decide (n = L.length ∧ L.length ≤ 10000 ∧ PreT (ltJ) (ltJ) L)) (.ret ⟨some (.tup []), [(0, some (.vec 4 (srtT (ltJ) L) 52))]⟩)
  | _, _ => .fail
theorem stbJOk : ConOk R Try.prog 83 stbJCon := con_of_fn R (X29) (TabOk.con R X29Ok) mixed Try.call83 Try.func83 stbJCon (by
  intro args cs K h
  unfold stbJCon at h
  split at h
  · rename_i n L
    rw [Tree.holds_chk] at h
    obtain ⟨hp, h⟩ := h
    refine ⟨annOf [(2, { σ := Nat, st := fun S x => ((((S.keep [0, 1, 2]).int 6 20).int 7 (20 * x : Nat)).int 8 (20 * (x + 1) : Nat)).at' 0 (.vec 4 (insS (ltJ) x L) 52), inv := fun _ x => 20 * x ≤ L.length, m := fun x => L.length - x }),
      (7, { σ := Nat × List Job, st := fun S x => ((S.keep [0, 1, 2]).int 6 x.1).at' 0 (.vec 4 x.2 52), inv := fun _ x => 20 ≤ x.1 ∧ x.1 ≤ 2 * L.length + 20 ∧ x.2 = blkA (ltJ) x.1 L, m := fun x => 2 * L.length + 20 - x.1 }),
      (9, { σ := Nat, st := fun S x => (((S.keep [0, 1, 2, 6]).int 7 (2 * (S.gi 6).toNat * x : Nat)).int 8 (2 * (S.gi 6).toNat * (x + 1) : Nat)).at' 0 (.vec 4 (mrgS (ltJ) (S.gi 6).toNat x L) 52), inv := fun S x => 2 * (S.gi 6).toNat * x ≤ L.length, m := fun x => L.length - x })] [], _, fun v S hv => ⟨_, h, hv⟩, ?_⟩
    rw [stbJVc L n]
    exact stbJHolds L n (of_decide_eq_true hp)
  · exact h.elim)
noncomputable def tab30 : Tab T O := (83, stbJCon) :: tab29
theorem tabOk30 : TabOk R Try.prog tab30 := TabOk.cons R stbJOk <| tabOk29
noncomputable def X30 : Ctx T O := { X0 with con := conOf tab30 }
theorem X30Ok : TabOk R X30.P tab30 := tabOk30
end Go.Proofs.Ytmnnjclnldaejaa

namespace Go.Proofs.Ytmnnjclnldaejaa
open Go.Sx Go.Proofs Classical
/-! ### slices.SortStableFunc[[]regatta/api.Job,regatta/api.Job] -/
def srtJText (L : List Job)  : Prop := (match (decide ((↑L.length : Int) = (↑L.length : Int) ∧ L.length ≤ (10000 : Nat) ∧ PreT ltJ ltJ L)) with | true => ((True ∧ True) ∧ ((srtT ltJ L = srtT ltJ L) ∧ True)) | false => False)
theorem srtJVc (L : List Job)  : fnX X30 (noAnn) Try.f56 [.own 0, .fn 51 []] [.vec 4 L 52] (ends [.vec 4 L 52] ⟨some (.tup []), [(0, some (.vec 4 (srtT (ltJ) L) 52))]⟩) = srtJText L := by kernel_rfl
theorem srtJHolds (L : List Job)  (hp : L.length ≤ 10000 ∧ PreT (ltJ) (ltJ) L) : srtJText L := by
  unfold srtJText
  obtain ⟨h1, h2⟩ := hp
  rw [decide_eq_true (⟨rfl, h1, h2⟩ : (L.length : Int) = (L.length : Int) ∧ L.length ≤ 10000 ∧ PreT (ltJ) (ltJ) L)]
  repeat' first | trivial | rfl | apply And.intro
noncomputable def srtJCon : Con T O := fun args cs => match args, cs with
  | [.own 0, .fn 51 []], [.vec 4 L 52] => chk (decide (L.length ≤ 10000 ∧ PreT (ltJ) (ltJ) L)) (.ret ⟨some (.tup []), [(0, some (.vec 4 (srtT (ltJ) L) 52))]⟩)
  | _, _ => .fail
theorem srtJOk : ConOk R Try.prog 56 srtJCon := con_of_fn R (X30) (TabOk.con R X30Ok) mixed Try.call56 Try.func56 srtJCon (by
  intro args cs K h
  unfold srtJCon at h
  split at h
  · rename_i L
    rw [Tree.holds_chk] at h
    obtain ⟨hp, h⟩ := h
    refine ⟨noAnn, _, fun v S hv => ⟨_, h, hv⟩, ?_⟩
    rw [srtJVc L]
    exact srtJHolds L (of_decide_eq_true hp)
  · exact h.elim)
noncomputable def tab31 : Tab T O := (56, srtJCon) :: tab30
theorem tabOk31 : TabOk R Try.prog tab31 := TabOk.cons R srtJOk <| tabOk30
noncomputable def X31 : Ctx T O := { X0 with con := conOf tab31 }
theorem X31Ok : TabOk R X31.P tab31 := tabOk31
end Go.Proofs.Ytmnnjclnldaejaa

namespace Go.Proofs.Ytmnnjclnldaejaa
open Go.Sx Go.Proofs Classical
theorem eachN_facts {b i t : Int} : ∀ (n : Nat) (q : Own), t ≤ 1099511627776 → PartOk b i q → (∀ x ∈ eachN n t q, x.Part = i ∧ q.JobDeadline ≤ x.Deadline ∧ x.Release ≤ t) ∧ (eachN n t q).Pairwise (fun x y => x.Deadline < y.Deadline)
  | 0, _, _, _ => ⟨fun x hx => (by cases hx), List.Pairwise.nil⟩
  | n + 1, q, ht, h => by
    simp only [eachN]
    by_cases c : q.JobRelease ≤ t
    · rw [decide_eq_true c, cond_true]
      obtain ⟨h1, h2⟩ := eachN_facts n (nextO q) ht (h.next (by omega))
      have e1 := h.e1
      have e2 := h.ep
      have hd : (nextO q).JobDeadline = q.JobDeadline + q.PartP := rfl
      refine ⟨?_, List.pairwise_cons.2 ⟨?_, h2⟩⟩
      · intro x hx
        rcases List.mem_cons.1 hx with rfl | hx
        · exact ⟨h.part, Int.le_refl _, c⟩
        · obtain ⟨a1, a2, a3⟩ := h1 x hx
          exact ⟨a1, by omega, a3⟩
      · intro x hx
        obtain ⟨a1, a2, a3⟩ := h1 x hx
        show q.JobDeadline < x.Deadline
        omega
    · rw [decide_eq_false c, cond_false]
      exact ⟨fun x hx => (by cases hx), List.Pairwise.nil⟩
theorem allJ_pre {b t : Int} {M : List Own} (h : RowOk b M) (ht : t ≤ 1099511627776) : PreT ltJ ltJ (allJ t M) := by
  unfold allJ
  refine List.pairwise_flatMap.2 ⟨?_, ?_⟩
  · intro q hq
    obtain ⟨i, hi, rfl⟩ := List.getElem_of_mem hq
    refine (eachN_facts mostJ _ ht (h.all i hi)).2.imp ?_
    intro x y hxy
    exact .inr ((ltJ_iff _ _).2 (.inl hxy))
  · rw [List.pairwise_iff_getElem]
    intro i j hi hj hij x hx y hy
    have h1 := ((eachN_facts mostJ _ ht (h.all i hi)).1 x hx).1
    have h2 := ((eachN_facts mostJ _ ht (h.all j hj)).1 y hy).1
    rw [ltJ_iff, ltJ_iff]
    omega
theorem allJ_len {b t : Int} {M : List Own} (h : RowOk b M) : (allJ t M).length ≤ 10000 := by
  have := allJ_length t M
  have := h.len
  omega

/-! ### (*regatta/super.Super).Jobs -/
def jobsCText (M : List Own) (last served idle t : Int) : Prop := (match (!slotOk last t) with | true => (match (slotOk last t) with | true => ((True ∧ True) ∧ ((True ∧ ((last = last) ∧ ((served = served) ∧ ((idle = idle) ∧ True)))) ∧ ((M = M) ∧ ((jobsL t M = []) ∧ True)))) | false => (((Value.slice none (0 : Nat) (0 : Nat) = Value.slice none (0 : Nat) (0 : Nat)) ∧ True) ∧ ((True ∧ ((last = last) ∧ ((served = served) ∧ ((idle = idle) ∧ True)))) ∧ ((M = M) ∧ True)))) | false => ((∃ x : Nat, ((x.le M.length) ∧ ((True ∧ (True ∧ (True ∧ (((↑M.length : Int) = (↑M.length : Int)) ∧ (((↑x : Int) = (0 : Int)) ∧ True))))) ∧ ((True ∧ ((last = last) ∧ ((served = served) ∧ ((idle = idle) ∧ True)))) ∧ ((M = M) ∧ (((t = t) ∧ True) ∧ ((allJ t (List.take x M) = []) ∧ True))))))) ∧ (∀ x : Nat, ((x.le M.length) → (match (decide ((↑x : Int) < (↑M.length : Int))) with | true => (match (inb (↑x : Int) M.length) with | true => (match (inb (↑x : Int) M.length) with | true => (match (decide (t ≤ (1099511627776 : Int) ∧ ∃ b k, (0 : Int) ≤ b ∧ PartOk b k (Own.mk (at' ownE.zero M (↑x : Int)).PartE (at' ownE.zero M (↑x : Int)).PartP (at' ownE.zero M (↑x : Int)).JobPart (at' ownE.zero M (↑x : Int)).JobIndex (at' ownE.zero M (↑x : Int)).JobRelease (at' ownE.zero M (↑x : Int)).JobDeadline (at' ownE.zero M (↑x : Int)).JobLeft))) with | true => (match (roomy ((allJ t (List.take x M)).length + (eachA t (at' ownE.zero M (↑x : Int))).length) (nat_lit 40)) with | true => (∃ x' : Nat, ((x'.le M.length) ∧ ((M.length - x' < M.length - x) ∧ ((True ∧ (True ∧ (True ∧ (((↑M.length : Int) = (↑M.length : Int)) ∧ (((↑x' : Int) = IntKind.i64.wrap ((↑x : Int) + (1 : Int))) ∧ True))))) ∧ ((True ∧ ((last = last) ∧ ((served = served) ∧ ((idle = idle) ∧ True)))) ∧ ((M = M) ∧ (((t = t) ∧ True) ∧ ((allJ t (List.take x' M) = allJ t (List.take x M) ++ eachA t (at' ownE.zero M (↑x : Int))) ∧ True)))))))) | false => False) | false => False) | false => False) | false => False) | false => (match (decide ((allJ t (List.take x M)).length ≤ (10000 : Nat) ∧ PreT ltJ ltJ (allJ t (List.take x M)))) with | true => (match (slotOk last t) with | true => ((True ∧ True) ∧ ((True ∧ ((last = last) ∧ ((served = served) ∧ ((idle = idle) ∧ True)))) ∧ ((M = M) ∧ ((jobsL t M = srtT ltJ (allJ t (List.take x M))) ∧ True)))) | false => ((False ∧ True) ∧ ((True ∧ ((last = last) ∧ ((served = served) ∧ ((idle = idle) ∧ True)))) ∧ ((M = M) ∧ True)))) | false => False))))))
theorem jobsCVc (M : List Own) (last served idle t : Int) : fnX X31 (oneLoop 5 { σ := Nat, st := fun S x => ((S.keep [3, 15, 16]).int 17 x).new 5 (.vec 4 (allJ t (M.take x)) 52), inv := fun _ x => x ≤ M.length, m := fun x => M.length - x }) Try.f26 [.ptr 0 0, .raw (.int .i64 t)] [.cells [.own 1, .raw (.int .i64 last), .raw (.int .i64 served), .raw (.int .i64 idle)] 82, .vec 7 M 84] (endsIf (slotOk last t) [.cells [.own 1, .raw (.int .i64 last), .raw (.int .i64 served), .raw (.int .i64 idle)] 82, .vec 7 M 84] ⟨some (.own 2), [(1, some (.vec 7 M 84)), (2, some (.vec 4 (jobsL t M) 52))]⟩ ⟨some (.raw (.slice none 0 0)), [(1, some (.vec 7 M 84))]⟩) = jobsCText M last served idle t := by kernel_rfl
theorem jobsCHolds (M : List Own) (last served idle t : Int) (hp : ∃ b, RowOk b M) : jobsCText M last served idle t := by
  unfold jobsCText
  obtain ⟨b, hR⟩ := hp
  have hl := hR.len
  cases hs : slotOk last t
  · repeat' first | apply And.intro | exact True.intro | with_reducible rfl | exact rfl
  · have ht := (slotOk_iff.1 hs).2
    refine ⟨⟨0, Nat.zero_le _, by repeat' first | apply And.intro | exact True.intro | with_reducible rfl | exact rfl⟩, ?_⟩
    intro x hx
    have hx : x ≤ M.length := hx
    by_cases h : x < M.length
    · have hwx := wrap_succ h (show M.length ≤ 140737488355328 by omega)
      have e := allJ_take (t := t) h
      have h1 := allJ_length t (M.take x)
      have h2 := eachN_length mostJ t M[x]
      rw [← eachA_def, mostJ_eq] at h2
      rw [List.length_take] at h1
      rw [dec_lt h, inb_nat h, at_nat h, decide_eq_true (⟨ht, b, x, hR.t0, hR.all x h⟩ : t ≤ 1099511627776 ∧ ∃ b k, 0 ≤ b ∧ PartOk b k ⟨M[x].PartE, M[x].PartP, M[x].JobPart, M[x].JobIndex, M[x].JobRelease, M[x].JobDeadline, M[x].JobLeft⟩), show roomy ((allJ t (List.take x M)).length + (eachA t M[x]).length) 40 = true from decide_eq_true (by omega)]
      refine ⟨x + 1, h, by omega, ?_⟩
      repeat' first | exact hwx.symm | exact e | apply And.intro | exact True.intro | with_reducible rfl | exact rfl
    · obtain rfl : x = M.length := by omega
      rw [dec_ge (Nat.le_refl _), List.take_length, decide_eq_true (⟨allJ_len hR, allJ_pre hR ht⟩ : (allJ t M).length ≤ 10000 ∧ PreT ltJ ltJ (allJ t M))]
      repeat' first | apply And.intro | exact True.intro | with_reducible rfl | exact rfl
noncomputable def jobsCCon : Con T O := fun args cs => match args, cs with
  | [.ptr 0 0, .raw (.int .i64 t)], [.cells [.own 1, .raw (.int .i64 last), .raw (.int .i64 _), .raw (.int .i64 _)] 82, .vec 7 M 84] => chk (decide (∃ b, RowOk b M)) (.ite (slotOk last t) (.ret ⟨some (.own 2), [(1, some (.vec 7 M 84)), (2, some (.vec 4 (jobsL t M) 52))]⟩) (.ret ⟨some (.raw (.slice none 0 0)), [(1, some (.vec 7 M 84))]⟩))
  | _, _ => .fail
theorem jobsCOk : ConOk R Try.prog 26 jobsCCon := con_of_fn R (X31) (TabOk.con R X31Ok) mixed Try.call26 Try.func26 jobsCCon (by
  intro args cs K h
  unfold jobsCCon at h
  split at h
  · rename_i t last served idle M
    rw [Tree.holds_chk] at h
    obtain ⟨hp, h⟩ := h
    refine ⟨oneLoop 5 { σ := Nat, st := fun S x => ((S.keep [3, 15, 16]).int 17 x).new 5 (.vec 4 (allJ t (M.take x)) 52), inv := fun _ x => x ≤ M.length, m := fun x => M.length - x }, _, fun v S hv => holds_if h v S hv, ?_⟩
    rw [jobsCVc M last served idle t]
    exact jobsCHolds M last served idle t (of_decide_eq_true hp)
  · exact h.elim)
noncomputable def tab32 : Tab T O := (26, jobsCCon) :: tab31
theorem tabOk32 : TabOk R Try.prog tab32 := TabOk.cons R jobsCOk <| tabOk31
noncomputable def X32 : Ctx T O := { X0 with con := conOf tab32 }
theorem X32Ok : TabOk R X32.P tab32 := tabOk32
end Go.Proofs.Ytmnnjclnldaejaa

namespace Go.Proofs.Ytmnnjclnldaejaa
open Go.Sx Go.Proofs Classical
/-! what a grant goes to -/
theorem ltJ_total {a b : Job} (h : a.Part ≠ b.Part) (hn : ltJ a b = false) : ltJ b a = true := by
  rw [ltJ_not] at hn
  rw [ltJ_iff]
  omega
theorem ltJ_tr {a b c : Job} (h1 : ltJ a b = true) (h2 : ltJ b c = true) : ltJ a c = true := ordJ.tr _ _ _ h1 h2
theorem bestG_min {b t : Int} {M : List Own} (hR : RowOk b M) : ∀ n : Nat, n ≤ M.length → ∀ i (hi : i < n) (hM : i < M.length), M[i].JobRelease ≤ t →
    0 ≤ bestG M t n ∧ (bestG M t n = i ∨ ltJ (ownJ (at' ownE.zero M (bestG M t n))) (ownJ M[i]) = true)
  | 0, _, i, hi, _, _ => absurd hi (Nat.not_lt_zero _)
  | x + 1, hx, i, hi, hM, hr => by
    have ih := fun i hi hM hr => bestG_min (t := t) hR x (by omega) i hi hM hr
    have hxl : x < M.length := hx
    obtain ⟨lo, hi2⟩ := bestG_lo M t x
    have eb : bestG M t (x + 1) = bif decide ((at' ownE.zero M x).JobRelease > t) || (decide (bestG M t x ≥ 0) && ltJ (ownJ (at' ownE.zero M (bestG M t x))) (ownJ (at' ownE.zero M x))) then bestG M t x else x := rfl
    rw [at_nat hxl] at eb
    by_cases c1 : M[x].JobRelease > t
    · rw [decide_eq_true c1, Bool.true_or, cond_true] at eb
      rw [eb]
      have : i ≠ x := by rintro rfl; omega
      exact ih i (by omega) hM hr
    · rw [decide_eq_false c1, Bool.false_or] at eb
      by_cases c2 : bestG M t x ≥ 0
      · rw [decide_eq_true c2, Bool.true_and] at eb
        obtain ⟨k, hk⟩ := Int.eq_ofNat_of_zero_le c2
        have hkl : k < M.length := by omega
        rw [hk, at_nat hkl] at eb
        cases c3 : ltJ (ownJ M[k]) (ownJ M[x])
        · rw [c3, cond_false] at eb
          rw [eb, at_nat hxl]
          refine ⟨by omega, ?_⟩
          by_cases ei : i = x
          · subst ei; exact .inl rfl
          · right
            have hp1 := (hR.all k hkl).part
            have hp2 := (hR.all x hxl).part
            have c4 : ltJ (ownJ M[x]) (ownJ M[k]) = true := ltJ_total (by show M[k].JobPart ≠ M[x].JobPart; omega) c3
            obtain ⟨_, h⟩ := ih i (by omega) hM hr
            rw [hk, at_nat hkl] at h
            rcases h with h | h
            · obtain rfl : k = i := by omega
              exact c4
            · exact ltJ_tr c4 h
        · rw [c3, cond_true] at eb
          rw [eb, at_nat hkl]
          by_cases ei : i = x
          · subst ei; exact ⟨by omega, .inr c3⟩
          · have h := ih i (by omega) hM hr
            rw [hk, at_nat hkl] at h
            exact h
      · rw [decide_eq_false c2, Bool.false_and, cond_false] at eb
        rw [eb, at_nat hxl]
        refine ⟨by omega, ?_⟩
        by_cases ei : i = x
        · subst ei; exact .inl rfl
        · exact absurd (ih i (by omega) hM hr).1 (by omega)
/-- a grant's part, and that it is the best -/
structure BestOk (M : List Own) (t : Int) (k : Nat) : Prop where
  lt : k < M.length
  rel : M[k].JobRelease ≤ t
  min : ∀ i (hi : i < M.length), M[i].JobRelease ≤ t → k = i ∨ ltJ (ownJ M[k]) (ownJ M[i]) = true
theorem best_some {b t : Int} {M : List Own} (hR : RowOk b M) (h : 0 ≤ bestM M t) : ∃ k : Nat, bestM M t = k ∧ BestOk M t k := by
  obtain ⟨k, hk⟩ := Int.eq_ofNat_of_zero_le h
  have hl := (bestG_lo M t M.length).2
  have hr := bestG_rel M t M.length h
  have eB : bestM M t = bestG M t M.length := rfl
  have hkl : k < M.length := by omega
  rw [← eB, hk, at_nat hkl] at hr
  refine ⟨k, hk, hkl, hr, ?_⟩
  intro i hi hir
  have hm := (bestG_min (t := t) hR M.length (Nat.le_refl _) i hi hi hir).2
  rw [← eB, hk, at_nat hkl] at hm
  rcases hm with h | h
  · exact .inl (by omega)
  · exact .inr h
theorem best_none {b t : Int} {M : List Own} (hR : RowOk b M) (h : ¬ 0 ≤ bestM M t) : ∀ i (hi : i < M.length), t < M[i].JobRelease := by
  intro i hi
  by_cases c : M[i].JobRelease ≤ t
  · exact absurd (bestG_min (t := t) hR M.length (Nat.le_refl _) i hi hi c).1 h
  · omega
theorem eachA_none {t : Int} {q : Own} (h : t < q.JobRelease) : eachA t q = [] := by
  rw [eachA_def, mostJ_eq]
  show eachN (999 + 1) t q = []
  rw [eachN, decide_eq_false (by omega), cond_false]
theorem eachA_some {b i t : Int} {q : Own} (hq : PartOk b i q) (ht : t ≤ 1099511627776) (h : q.JobRelease ≤ t) : ∃ l, eachA t q = ownJ q :: l ∧ ∀ y ∈ l, y.Part = i ∧ q.JobDeadline < y.Deadline := by
  refine ⟨eachN 999 t (nextO q), ?_, ?_⟩
  · rw [eachA_def, mostJ_eq]
    show eachN (999 + 1) t q = _
    rw [eachN, decide_eq_true h, cond_true]
  · intro y hy
    obtain ⟨a1, a2, _⟩ := (eachN_facts 999 _ ht (hq.next (by omega))).1 y hy
    have hd : (nextO q).JobDeadline = q.JobDeadline + q.PartP := rfl
    have := hq.e1
    have := hq.ep
    exact ⟨a1, by omega⟩
theorem allJ_none {t : Int} {M : List Own} (h : ∀ i (hi : i < M.length), t < M[i].JobRelease) : allJ t M = [] := by
  unfold allJ
  rw [List.flatMap_eq_nil_iff]
  intro q hq
  obtain ⟨i, hi, rfl⟩ := List.getElem_of_mem hq
  exact eachA_none (h i hi)
theorem jobs_none {t : Int} {M : List Own} (h : ∀ i (hi : i < M.length), t < M[i].JobRelease) : jobsL t M = [] := by
  unfold jobsL
  rw [allJ_none h]
  exact srtT_nil
theorem allJ_best {b t : Int} {M : List Own} {k : Nat} (hR : RowOk b M) (ht : t ≤ 1099511627776) (hk : BestOk M t k) : ownJ (M[k]'hk.lt) ∈ allJ t M ∧ ∀ y ∈ allJ t M, y = ownJ (M[k]'hk.lt) ∨ ltJ (ownJ (M[k]'hk.lt)) y = true := by
  unfold allJ
  constructor
  · obtain ⟨l, hl, _⟩ := eachA_some (hR.all k hk.lt) ht hk.rel
    refine List.mem_flatMap.2 ⟨M[k]'hk.lt, List.getElem_mem hk.lt, ?_⟩
    rw [hl]; exact List.mem_cons_self ..
  · intro y hy
    obtain ⟨q, hq, hy⟩ := List.mem_flatMap.1 hy
    obtain ⟨i, hi, rfl⟩ := List.getElem_of_mem hq
    by_cases c : M[i].JobRelease ≤ t
    · obtain ⟨l, hl, hl2⟩ := eachA_some (hR.all i hi) ht c
      rw [hl] at hy
      have hm := hk.min i hi c
      rcases List.mem_cons.1 hy with rfl | hy
      · rcases hm with h | h
        · subst h; exact .inl rfl
        · exact .inr h
      · obtain ⟨p1, p2⟩ := hl2 y hy
        have hpi := (hR.all i hi).part
        have h2 : ltJ (ownJ M[i]) y = true := (ltJ_iff _ _).2 (.inl p2)
        rcases hm with h | h
        · subst h; exact .inr h2
        · exact .inr (ltJ_tr h h2)
    · rw [eachA_none (by omega)] at hy; cases hy
theorem srtT_head {L : List Job} {m : Job} (hp : PreT ltJ ltJ L) (h1 : m ∈ L) (h2 : ∀ y ∈ L, y = m ∨ ltJ m y = true) : ∃ l, srtT ltJ L = m :: l := by
  have hperm : (srtT ltJ L).Perm L := srtT_perm L
  have hasc : AscT ltJ (srtT ltJ L) := srtT_asc ordJ (PreT.comp ordJ hp)
  cases hs : srtT ltJ L with
  | nil =>
    rw [hs] at hperm
    rw [hperm.symm.eq_nil] at h1
    cases h1
  | cons x l =>
    rw [hs] at hperm hasc
    have hx : x ∈ L := hperm.mem_iff.1 (List.mem_cons_self ..)
    have hm : m ∈ x :: l := hperm.mem_iff.2 h1
    rcases List.mem_cons.1 hm with rfl | hm
    · exact ⟨l, rfl⟩
    · have h3 := (List.pairwise_cons.1 hasc).1 m hm
      rcases h2 x hx with rfl | h4
      · exact ⟨l, rfl⟩
      · rw [ordJ.asymm h3] at h4; cases h4
theorem jobs_best {b t : Int} {M : List Own} {k : Nat} (hR : RowOk b M) (ht : t ≤ 1099511627776) (hk : BestOk M t k) : ∃ l, jobsL t M = ownJ (M[k]'hk.lt) :: l := by
  obtain ⟨h1, h2⟩ := allJ_best hR ht hk
  exact srtT_head (allJ_pre hR ht) h1 h2
theorem RowOk.set {b t : Int} {M : List Own} {k : Nat} (hR : RowOk b M) (ht : t ≤ 1099511627776) (hk : k < M.length) (hr : M[k].JobRelease ≤ t) : RowOk b (M.set k (afterO M[k])) := by
  refine ⟨hR.t0, hR.t1, by rw [List.length_set]; exact hR.len, ?_⟩
  intro i hi
  rw [List.length_set] at hi
  rw [List.getElem_set]
  split
  · rename_i e
    subst e
    exact (hR.all k hk).after (by omega)
  · exact hR.all i hi
theorem grantM_some {M : List Own} {last t : Int} {k : Nat} (hs : slotOk last t = true) (hb : bestM M t = k) (hk : k < M.length) :
    grantM M last t = M.set k (afterO M[k]) ∧ grantJ M last t = ownJ (decO M[k]) ∧ grantIs M last t = true ∧ (∀ s, grantServed M last s t = s + 1) ∧ (∀ s, grantIdle M last s t = s) := by
  have d : decide (bestM M t ≥ 0) = true := decide_eq_true (by omega)
  unfold grantM grantJ grantIs grantServed grantIdle
  rw [hs, d, hb, Int.toNat_natCast, at_nat hk]
  exact ⟨rfl, rfl, rfl, fun _ => rfl, fun _ => rfl⟩
theorem grantM_none {M : List Own} {last t : Int} (hs : slotOk last t = true) (hb : ¬ 0 ≤ bestM M t) :
    grantM M last t = M ∧ grantJ M last t = ⟨0, 0, 0, 0, 0⟩ ∧ grantIs M last t = false ∧ (∀ s, grantServed M last s t = s) ∧ (∀ s, grantIdle M last s t = s + 1) := by
  have d : decide (bestM M t ≥ 0) = false := decide_eq_false (by omega)
  unfold grantM grantJ grantIs grantServed grantIdle
  rw [hs, d]
  exact ⟨rfl, rfl, rfl, fun _ => rfl, fun _ => rfl⟩
theorem grantM_off {M : List Own} {last t : Int} (hs : slotOk last t = false) :
    grantM M last t = M ∧ grantJ M last t = ⟨0, 0, 0, 0, 0⟩ ∧ grantIs M last t = false ∧ (∀ s, grantServed M last s t = s) ∧ (∀ s, grantIdle M last s t = s) := by
  unfold grantM grantJ grantIs grantServed grantIdle
  rw [hs]
  exact ⟨rfl, rfl, rfl, fun _ => rfl, fun _ => rfl⟩
theorem grantLast_on {last t : Int} (hs : slotOk last t = true) : grantLast last t = t := by unfold grantLast; rw [hs]; rfl
theorem RowOk.grant {b last t : Int} {M : List Own} (hR : RowOk b M) : RowOk b (grantM M last t) := by
  cases hs : slotOk last t
  · rw [(grantM_off hs).1]; exact hR
  · by_cases hb : 0 ≤ bestM M t
    · obtain ⟨k, hk, ho⟩ := best_some hR hb
      rw [(grantM_some hs hk ho.lt).1]
      exact hR.set (slotOk_iff.1 hs).2 ho.lt ho.rel
    · rw [(grantM_none hs hb).1]; exact hR
theorem startL_ok {L : List Part} {t : Int} (hP : PartsOk L) (h0 : 0 ≤ t) (h1 : t ≤ 1099511627776) : RowOk t (startL t L L.length) := by
  refine ⟨h0, h1, by rw [startL_length]; exact hP.1.2, ?_⟩
  intro i hi
  rw [startL_length] at hi
  have e : (startL t L L.length)[i]'(by rw [startL_length]; exact hi) = startO t i L[i] := by
    simp only [startL, List.getElem_map, List.getElem_range, at_nat hi]
  rw [e]
  obtain ⟨o1, o2, o3⟩ := hP.2 _ (List.getElem_mem hi)
  exact ⟨o1, o2, o3, rfl, Int.le_refl _, by show t = t + 0 * L[i].P; omega, rfl, o1, Int.le_refl _, by show t ≤ _; omega⟩
theorem grantM_length (M : List Own) (last t : Int) : (grantM M last t).length = M.length := by
  unfold grantM
  cases slotOk last t && decide (bestM M t ≥ 0)
  · rfl
  · rw [cond_true, List.length_set]
/-- SuperOrder's loop -/
structure orderI (L : List Part) (M : List Own) (served idle now : Int) (N : List Int) (i : Nat) : Prop where
  le : i ≤ 60
  now0 : 0 ≤ now
  now1 : now ≤ 7 * i
  s0 : 0 ≤ served
  s1 : served ≤ i
  d0 : 0 ≤ idle
  d1 : idle ≤ i
  row : RowOk 0 M
  len : M.length = L.length
  nlen : N.length = 8
  next : ∀ k (hk : k < M.length), N[k]? = some M[k].JobIndex
theorem newOk_parts {L : List Part} {t : Int} (h : newOk L t = true) : PartsOk L ∧ 0 ≤ t ∧ t ≤ 1099511627776 := by
  unfold newOk at h
  simp only [Bool.and_eq_true, beq_iff_eq, decide_eq_true_eq] at h
  exact ⟨weightR_parts h.1, h.2⟩
theorem orderI.init {L : List Part} (hP : PartsOk L) : orderI L (startL 0 L L.length) 0 0 0 [0, 0, 0, 0, 0, 0, 0, 0] 0 := by
  refine ⟨by decide, by decide, by decide, by decide, by decide, by decide, by decide, startL_ok hP (by decide) (by decide), startL_length _ _ _, rfl, ?_⟩
  intro k hk
  have e : ((startL 0 L L.length)[k]'hk).JobIndex = 0 := by simp [startL, startO]
  rw [e]
  rw [startL_length] at hk
  have hn : k < 8 := by have := hP.1.2; omega
  match k, hn with
  | 0, _ => rfl
  | 1, _ => rfl
  | 2, _ => rfl
  | 3, _ => rfl
  | 4, _ => rfl
  | 5, _ => rfl
  | 6, _ => rfl
  | 7, _ => rfl
theorem orderI.none {L : List Part} {M : List Own} {s d now t : Int} {N : List Int} {i : Nat} (h : orderI L M s d now N i) (hi : i < 60) (h0 : now ≤ t) (h1 : t ≤ now + 7) : orderI L M s (d + 1) t N (i + 1) := by
  have := h.now0; have := h.now1; have := h.s0; have := h.s1; have := h.d0; have := h.d1
  exact ⟨hi, by omega, by omega, by omega, by omega, by omega, by omega, h.row, h.len, h.nlen, h.next⟩
theorem afterO_index (q : Own) : (afterO q).JobIndex = bif q.JobLeft - 1 == 0 then q.JobIndex + 1 else q.JobIndex := by
  unfold afterO
  cases q.JobLeft - 1 == 0 <;> rfl
theorem orderI.some {L : List Part} {M : List Own} {s d now t : Int} {N : List Int} {i k : Nat} (h : orderI L M s d now N i) (hi : i < 60) (h0 : now ≤ t) (h1 : t ≤ now + 7) (ht : t ≤ 1099511627776) (ho : BestOk M t k) (hk : k < N.length) :
    orderI L (M.set k (afterO (M[k]'ho.lt))) (s + 1) d t (bif (M[k]'ho.lt).JobLeft - 1 == 0 then N.set k (N[k] + 1) else N) (i + 1) := by
  have := h.now0; have := h.now1; have := h.s0; have := h.s1; have := h.d0; have := h.d1
  refine ⟨hi, by omega, by omega, by omega, by omega, by omega, by omega, h.row.set ht ho.lt ho.rel, by rw [List.length_set]; exact h.len, ?_, ?_⟩
  · cases (M[k]'ho.lt).JobLeft - 1 == 0
    · exact h.nlen
    · rw [cond_true, List.length_set]; exact h.nlen
  · intro j hj
    have hj' : j < M.length := by rw [List.length_set] at hj; exact hj
    have hk2 := h.next k ho.lt
    have hj2 := h.next j hj'
    have hax := afterO_index (M[k]'ho.lt)
    rw [List.getElem?_eq_getElem hk] at hk2
    have hk2 := Option.some.inj hk2
    rw [List.getElem_set]
    by_cases e : k = j
    · subst e
      rw [if_pos rfl, hax]
      cases hc : (M[k]'ho.lt).JobLeft - 1 == 0
      · rw [cond_false, cond_false]; exact hj2
      · rw [cond_true, cond_true, List.getElem?_set_self hk, hk2]
    · rw [if_neg e]
      cases hc : (M[k]'ho.lt).JobLeft - 1 == 0
      · rw [cond_false]; exact hj2
      · rw [cond_true, List.getElem?_set_ne e]; exact hj2
theorem mask7 (n : Int) : bits .and .i64 n 7 = n % 8 := by simpa using mask_nat 3 (by omega) n

noncomputable def tab33 : Tab T O := tab32
theorem tabOk33 : TabOk R Try.prog tab33 := tabOk32
noncomputable def X33 : Ctx T O := { X0 with con := conOf tab33 }
theorem X33Ok : TabOk R X33.P tab33 := tabOk33
end Go.Proofs.Ytmnnjclnldaejaa
