/-
  Part of a proof over the seat Ytjhkokdcjikkiaa: printed by a small program or typed by hand.
-/
import Derived.Test.YtjhkokdcjikkiaaPrioS19
import Derived.KernelRfl
namespace Go.Proofs.Ytjhkokdcjikkiaa
open Go.Sx Go.Proofs Classical

theorem marks_snoc (l : List Ent) (e : Ent) : marks (l ++ [e]) = (marks l).set e.ID.toNat true := by simp [marks]
theorem marks_length (l : List Ent) : (marks l).length = 20 := by
  have : ∀ (l : List Ent) (b : List Bool), (l.foldl (fun b e => b.set e.ID.toNat true) b).length = b.length := by
    intro l
    induction l with
    | nil => intro b; rfl
    | cons e l ih => intro b; rw [List.foldl_cons, ih, List.length_set]
  rw [marks, this, List.length_replicate]
theorem marks_get (l : List Ent) (hl : ∀ e ∈ l, e.ID.toNat < 20) : ∀ i : Nat, i < 20 → (at' false (marks l) (i : Int) = true ↔ ∃ e ∈ l, e.ID.toNat = i) := by
  have key : ∀ (l : List Ent) (b : List Bool), b.length = 20 → (∀ e ∈ l, e.ID.toNat < 20) → ∀ i : Nat, i < 20 → (at' false (l.foldl (fun b e => b.set e.ID.toNat true) b) (i : Int) = true ↔ at' false b (i : Int) = true ∨ ∃ e ∈ l, e.ID.toNat = i) := by
    intro l
    induction l with
    | nil => intro b _ _ i _; simp
    | cons e l ih =>
      intro b hb hl i hi
      rw [List.foldl_cons, ih _ (by rw [List.length_set]; exact hb) (fun e he => hl e (List.mem_cons_of_mem _ he)) i hi]
      have he := hl e (by simp)
      have hset : at' false (b.set e.ID.toNat true) (i : Int) = true ↔ at' false b (i : Int) = true ∨ e.ID.toNat = i := by
        rw [at_nat (show i < (b.set e.ID.toNat true).length by rw [List.length_set]; omega), at_nat (show i < b.length by omega), List.getElem_set]
        by_cases h : e.ID.toNat = i
        · simp [h]
        · simp [h]
      rw [hset]
      constructor
      · rintro ((h | h) | ⟨e', he', h⟩)
        · exact .inl h
        · exact .inr ⟨e, by simp, h⟩
        · exact .inr ⟨e', List.mem_cons_of_mem _ he', h⟩
      · rintro (h | ⟨e', he', h⟩)
        · exact .inl (.inl h)
        · rcases List.mem_cons.1 he' with rfl | he'
          · exact .inl (.inr h)
          · exact .inr ⟨e', he', h⟩
  intro i hi
  rw [marks, key l _ (by simp) hl i hi]
  constructor
  · rintro (h | h)
    · rw [at_nat (show i < (List.replicate 20 false).length by simpa using hi), List.getElem_replicate] at h
      cases h
    · exact h
  · exact .inr
theorem mod26 (n : Int) : ∃ K : Nat, K ≤ 25 ∧ (IntKind.i64.wrap (n.tmod 26 + 26)).tmod 26 = (K : Int) := by
  have m1 := Int.tmod_lt_of_pos n (b := 26) (by omega)
  have m2 := Int.lt_tmod_of_pos n (b := 26) (by omega)
  have m3 := Int.tmod_nonneg (26 : Int) (a := n.tmod 26 + 26) (by omega)
  have m4 := Int.tmod_lt_of_pos (n.tmod 26 + 26) (b := 26) (by omega)
  rw [wrap_id (n := n.tmod 26 + 26) (by omega) (by omega)]
  obtain ⟨K, hK⟩ := Int.eq_ofNat_of_zero_le m3
  exact ⟨K, by omega, hK⟩

/-! ### regatta/regattalaw06.PrioPicks -/
def prioPicksText (L : List Ent) (n : Int) : Prop := (match (roomy ((0 : Nat) + (List.take (20 : Nat) L).length) (nat_lit 48)) with | true => ((∃ x : Nat, ((x.le (List.take (20 : Nat) L).length) ∧ ((True ∧ ((n = n) ∧ ((true = true) ∧ (True ∧ (((↑x : Int) = (0 : Int)) ∧ (True ∧ True)))))) ∧ ((L = L) ∧ ((List.take (20 : Nat) L = List.take (20 : Nat) L) ∧ ((reTo (fun i => (↑i : Int)) (List.take (20 : Nat) L) x = [] ++ List.take (20 : Nat) L) ∧ True)))))) ∧ (∀ x : Nat, ((x.le (List.take (20 : Nat) L).length) → (match (decide ((↑x : Int) < (↑(reTo (fun i => (↑i : Int)) (List.take (20 : Nat) L) x).length : Int))) with | true => (match (inb (↑x : Int) (reTo (fun i => (↑i : Int)) (List.take (20 : Nat) L) x).length) with | true => (match (inb (↑x : Int) (reTo (fun i => (↑i : Int)) (List.take (20 : Nat) L) x).length) with | true => (∃ x' : Nat, ((x'.le (List.take (20 : Nat) L).length) ∧ (((List.take (20 : Nat) L).length - x' < (List.take (20 : Nat) L).length - x) ∧ ((True ∧ ((n = n) ∧ ((true = true) ∧ (True ∧ (((↑x' : Int) = IntKind.i64.wrap ((↑x : Int) + (1 : Int))) ∧ (True ∧ True)))))) ∧ ((L = L) ∧ ((List.take (20 : Nat) L = List.take (20 : Nat) L) ∧ ((reTo (fun i => (↑i : Int)) (List.take (20 : Nat) L) x' = (reTo (fun i => (↑i : Int)) (List.take (20 : Nat) L) x).set (↑x : Int).toNat (Ent.mk (↑x : Int) (at' entE.zero (reTo (fun i => (↑i : Int)) (List.take (20 : Nat) L) x) (↑x : Int)).SubIndex (at' entE.zero (reTo (fun i => (↑i : Int)) (List.take (20 : Nat) L) x) (↑x : Int)).SubRelease (at' entE.zero (reTo (fun i => (↑i : Int)) (List.take (20 : Nat) L) x) (↑x : Int)).SubDeadline (at' entE.zero (reTo (fun i => (↑i : Int)) (List.take (20 : Nat) L) x) (↑x : Int)).SubBit (at' entE.zero (reTo (fun i => (↑i : Int)) (List.take (20 : Nat) L) x) (↑x : Int)).SubGroup)) ∧ True))))))) | false => False) | false => False) | false => (match (decide ((reTo (fun i => (↑i : Int)) (List.take (20 : Nat) L) x).length ≤ (20 : Nat))) with | true => ((match (decide ((IntKind.i64.wrap (n.tmod (26 : Int) + (26 : Int))).tmod (26 : Int) > (↑(reTo (fun i => (↑i : Int)) (List.take (20 : Nat) L) x).length : Int))) with | true => (∃ x1 : Unit, (True ∧ ((True ∧ ((true = true) ∧ (True ∧ (((IntKind.i64.wrap (n.tmod (26 : Int) + (26 : Int))).tmod (26 : Int) = (IntKind.i64.wrap (n.tmod (26 : Int) + (26 : Int))).tmod (26 : Int)) ∧ (True ∧ (((bif decide ((IntKind.i64.wrap (n.tmod (26 : Int) + (26 : Int))).tmod (26 : Int) ≤ (↑(reTo (fun i => (↑i : Int)) (List.take (20 : Nat) L) x).length : Int)) then (IntKind.i64.wrap (n.tmod (26 : Int) + (26 : Int))).tmod (26 : Int) else (↑(reTo (fun i => (↑i : Int)) (List.take (20 : Nat) L) x).length : Int)) = (↑(reTo (fun i => (↑i : Int)) (List.take (20 : Nat) L) x).length : Int)) ∧ (True ∧ True))))))) ∧ ((L = L) ∧ ((List.take (20 : Nat) L = List.take (20 : Nat) L) ∧ ((reTo (fun i => (↑i : Int)) (List.take (20 : Nat) L) x = reTo (fun i => (↑i : Int)) (List.take (20 : Nat) L) x) ∧ ((List.take ((IntKind.i64.wrap (n.tmod (26 : Int) + (26 : Int))).tmod (26 : Int)).toNat (srt (reTo (fun i => (↑i : Int)) (List.take (20 : Nat) L) x)) = List.take ((IntKind.i64.wrap (n.tmod (26 : Int) + (26 : Int))).tmod (26 : Int)).toNat (srt (reTo (fun i => (↑i : Int)) (List.take (20 : Nat) L) x))) ∧ True))))))) | false => (∃ x1 : Unit, (True ∧ ((True ∧ ((true = true) ∧ (True ∧ (((IntKind.i64.wrap (n.tmod (26 : Int) + (26 : Int))).tmod (26 : Int) = (IntKind.i64.wrap (n.tmod (26 : Int) + (26 : Int))).tmod (26 : Int)) ∧ (True ∧ (((bif decide ((IntKind.i64.wrap (n.tmod (26 : Int) + (26 : Int))).tmod (26 : Int) ≤ (↑(reTo (fun i => (↑i : Int)) (List.take (20 : Nat) L) x).length : Int)) then (IntKind.i64.wrap (n.tmod (26 : Int) + (26 : Int))).tmod (26 : Int) else (↑(reTo (fun i => (↑i : Int)) (List.take (20 : Nat) L) x).length : Int)) = (IntKind.i64.wrap (n.tmod (26 : Int) + (26 : Int))).tmod (26 : Int)) ∧ (True ∧ True))))))) ∧ ((L = L) ∧ ((List.take (20 : Nat) L = List.take (20 : Nat) L) ∧ ((reTo (fun i => (↑i : Int)) (List.take (20 : Nat) L) x = reTo (fun i => (↑i : Int)) (List.take (20 : Nat) L) x) ∧ ((List.take ((IntKind.i64.wrap (n.tmod (26 : Int) + (26 : Int))).tmod (26 : Int)).toNat (srt (reTo (fun i => (↑i : Int)) (List.take (20 : Nat) L) x)) = List.take ((IntKind.i64.wrap (n.tmod (26 : Int) + (26 : Int))).tmod (26 : Int)).toNat (srt (reTo (fun i => (↑i : Int)) (List.take (20 : Nat) L) x))) ∧ True)))))))) ∧ (∀ x1 : Unit, (True → (match ((↑(List.take ((IntKind.i64.wrap (n.tmod (26 : Int) + (26 : Int))).tmod (26 : Int)).toNat (srt (reTo (fun i => (↑i : Int)) (List.take (20 : Nat) L) x))).length : Int) != bif decide ((IntKind.i64.wrap (n.tmod (26 : Int) + (26 : Int))).tmod (26 : Int) ≤ (↑(reTo (fun i => (↑i : Int)) (List.take (20 : Nat) L) x).length : Int)) then (IntKind.i64.wrap (n.tmod (26 : Int) + (26 : Int))).tmod (26 : Int) else (↑(reTo (fun i => (↑i : Int)) (List.take (20 : Nat) L) x).length : Int)) with | true => (((true = false) ∧ True) ∧ ((L = L) ∧ True)) | false => ((∃ x2 : Nat, ((x2.le (List.take ((IntKind.i64.wrap (n.tmod (26 : Int) + (26 : Int))).tmod (26 : Int)).toNat (srt (reTo (fun i => (↑i : Int)) (List.take (20 : Nat) L) x))).length) ∧ ((True ∧ ((true = true) ∧ (True ∧ (True ∧ (True ∧ (((↑x2 : Int) = (0 : Int)) ∧ (True ∧ True))))))) ∧ ((L = L) ∧ ((List.take (20 : Nat) L = List.take (20 : Nat) L) ∧ ((reTo (fun i => (↑i : Int)) (List.take (20 : Nat) L) x = reTo (fun i => (↑i : Int)) (List.take (20 : Nat) L) x) ∧ ((List.take ((IntKind.i64.wrap (n.tmod (26 : Int) + (26 : Int))).tmod (26 : Int)).toNat (srt (reTo (fun i => (↑i : Int)) (List.take (20 : Nat) L) x)) = List.take ((IntKind.i64.wrap (n.tmod (26 : Int) + (26 : Int))).tmod (26 : Int)).toNat (srt (reTo (fun i => (↑i : Int)) (List.take (20 : Nat) L) x))) ∧ ((marks (List.take x2 (List.take ((IntKind.i64.wrap (n.tmod (26 : Int) + (26 : Int))).tmod (26 : Int)).toNat (srt (reTo (fun i => (↑i : Int)) (List.take (20 : Nat) L) x)))) = [false, false, false, false, false, false, false, false, false, false, false, false, false, false, false, false, false, false, false, false]) ∧ True)))))))) ∧ (∀ x2 : Nat, ((x2.le (List.take ((IntKind.i64.wrap (n.tmod (26 : Int) + (26 : Int))).tmod (26 : Int)).toNat (srt (reTo (fun i => (↑i : Int)) (List.take (20 : Nat) L) x))).length) → (match (decide ((↑x2 : Int) < (↑(List.take ((IntKind.i64.wrap (n.tmod (26 : Int) + (26 : Int))).tmod (26 : Int)).toNat (srt (reTo (fun i => (↑i : Int)) (List.take (20 : Nat) L) x))).length : Int))) with | true => (match (inb (↑x2 : Int) (List.take ((IntKind.i64.wrap (n.tmod (26 : Int) + (26 : Int))).tmod (26 : Int)).toNat (srt (reTo (fun i => (↑i : Int)) (List.take (20 : Nat) L) x))).length) with | true => (match (inb (↑x2 : Int) (List.take ((IntKind.i64.wrap (n.tmod (26 : Int) + (26 : Int))).tmod (26 : Int)).toNat (srt (reTo (fun i => (↑i : Int)) (List.take (20 : Nat) L) x))).length) with | true => (match (decide ((at' entE.zero (List.take ((IntKind.i64.wrap (n.tmod (26 : Int) + (26 : Int))).tmod (26 : Int)).toNat (srt (reTo (fun i => (↑i : Int)) (List.take (20 : Nat) L) x))) (↑x2 : Int)).ID < (0 : Int))) with | true => (((true = false) ∧ True) ∧ ((L = L) ∧ True)) | false => (match (inb (↑x2 : Int) (List.take ((IntKind.i64.wrap (n.tmod (26 : Int) + (26 : Int))).tmod (26 : Int)).toNat (srt (reTo (fun i => (↑i : Int)) (List.take (20 : Nat) L) x))).length) with | true => (match (inb (↑x2 : Int) (List.take ((IntKind.i64.wrap (n.tmod (26 : Int) + (26 : Int))).tmod (26 : Int)).toNat (srt (reTo (fun i => (↑i : Int)) (List.take (20 : Nat) L) x))).length) with | true => (match (decide ((at' entE.zero (List.take ((IntKind.i64.wrap (n.tmod (26 : Int) + (26 : Int))).tmod (26 : Int)).toNat (srt (reTo (fun i => (↑i : Int)) (List.take (20 : Nat) L) x))) (↑x2 : Int)).ID > (19 : Int))) with | true => (((true = false) ∧ True) ∧ ((L = L) ∧ True)) | false => (match (inb (↑x2 : Int) (List.take ((IntKind.i64.wrap (n.tmod (26 : Int) + (26 : Int))).tmod (26 : Int)).toNat (srt (reTo (fun i => (↑i : Int)) (List.take (20 : Nat) L) x))).length) with | true => (match (inb (↑x2 : Int) (List.take ((IntKind.i64.wrap (n.tmod (26 : Int) + (26 : Int))).tmod (26 : Int)).toNat (srt (reTo (fun i => (↑i : Int)) (List.take (20 : Nat) L) x))).length) with | true => (match ((marks (List.take x2 (List.take ((IntKind.i64.wrap (n.tmod (26 : Int) + (26 : Int))).tmod (26 : Int)).toNat (srt (reTo (fun i => (↑i : Int)) (List.take (20 : Nat) L) x))))).length == (20 : Nat)) with | true => (match (inb (at' entE.zero (List.take ((IntKind.i64.wrap (n.tmod (26 : Int) + (26 : Int))).tmod (26 : Int)).toNat (srt (reTo (fun i => (↑i : Int)) (List.take (20 : Nat) L) x))) (↑x2 : Int)).ID (20 : Nat)) with | true => (match (inb (at' entE.zero (List.take ((IntKind.i64.wrap (n.tmod (26 : Int) + (26 : Int))).tmod (26 : Int)).toNat (srt (reTo (fun i => (↑i : Int)) (List.take (20 : Nat) L) x))) (↑x2 : Int)).ID (marks (List.take x2 (List.take ((IntKind.i64.wrap (n.tmod (26 : Int) + (26 : Int))).tmod (26 : Int)).toNat (srt (reTo (fun i => (↑i : Int)) (List.take (20 : Nat) L) x))))).length) with | true => (∃ x' : Nat, ((x'.le (List.take ((IntKind.i64.wrap (n.tmod (26 : Int) + (26 : Int))).tmod (26 : Int)).toNat (srt (reTo (fun i => (↑i : Int)) (List.take (20 : Nat) L) x))).length) ∧ (((20 : Nat) - x' < (20 : Nat) - x2) ∧ ((True ∧ ((true = true) ∧ (True ∧ (True ∧ (True ∧ (((↑x' : Int) = IntKind.i64.wrap ((↑x2 : Int) + (1 : Int))) ∧ (True ∧ True))))))) ∧ ((L = L) ∧ ((List.take (20 : Nat) L = List.take (20 : Nat) L) ∧ ((reTo (fun i => (↑i : Int)) (List.take (20 : Nat) L) x = reTo (fun i => (↑i : Int)) (List.take (20 : Nat) L) x) ∧ ((List.take ((IntKind.i64.wrap (n.tmod (26 : Int) + (26 : Int))).tmod (26 : Int)).toNat (srt (reTo (fun i => (↑i : Int)) (List.take (20 : Nat) L) x)) = List.take ((IntKind.i64.wrap (n.tmod (26 : Int) + (26 : Int))).tmod (26 : Int)).toNat (srt (reTo (fun i => (↑i : Int)) (List.take (20 : Nat) L) x))) ∧ ((marks (List.take x' (List.take ((IntKind.i64.wrap (n.tmod (26 : Int) + (26 : Int))).tmod (26 : Int)).toNat (srt (reTo (fun i => (↑i : Int)) (List.take (20 : Nat) L) x)))) = (marks (List.take x2 (List.take ((IntKind.i64.wrap (n.tmod (26 : Int) + (26 : Int))).tmod (26 : Int)).toNat (srt (reTo (fun i => (↑i : Int)) (List.take (20 : Nat) L) x))))).set (at' entE.zero (List.take ((IntKind.i64.wrap (n.tmod (26 : Int) + (26 : Int))).tmod (26 : Int)).toNat (srt (reTo (fun i => (↑i : Int)) (List.take (20 : Nat) L) x))) (↑x2 : Int)).ID.toNat true) ∧ True))))))))) | false => False) | false => False) | false => False) | false => False) | false => False)) | false => False) | false => False)) | false => False) | false => False) | false => ((∃ x3 : Nat, ((x3.le (reTo (fun i => (↑i : Int)) (List.take (20 : Nat) L) x).length) ∧ ((True ∧ ((true = true) ∧ (True ∧ (True ∧ (True ∧ (((↑x3 : Int) = (0 : Int)) ∧ (True ∧ True))))))) ∧ ((L = L) ∧ ((List.take (20 : Nat) L = List.take (20 : Nat) L) ∧ ((reTo (fun i => (↑i : Int)) (List.take (20 : Nat) L) x = reTo (fun i => (↑i : Int)) (List.take (20 : Nat) L) x) ∧ ((List.take ((IntKind.i64.wrap (n.tmod (26 : Int) + (26 : Int))).tmod (26 : Int)).toNat (srt (reTo (fun i => (↑i : Int)) (List.take (20 : Nat) L) x)) = List.take ((IntKind.i64.wrap (n.tmod (26 : Int) + (26 : Int))).tmod (26 : Int)).toNat (srt (reTo (fun i => (↑i : Int)) (List.take (20 : Nat) L) x))) ∧ ((marks (List.take x2 (List.take ((IntKind.i64.wrap (n.tmod (26 : Int) + (26 : Int))).tmod (26 : Int)).toNat (srt (reTo (fun i => (↑i : Int)) (List.take (20 : Nat) L) x)))) = marks (List.take x2 (List.take ((IntKind.i64.wrap (n.tmod (26 : Int) + (26 : Int))).tmod (26 : Int)).toNat (srt (reTo (fun i => (↑i : Int)) (List.take (20 : Nat) L) x))))) ∧ True)))))))) ∧ (∀ x3 : Nat, ((x3.le (reTo (fun i => (↑i : Int)) (List.take (20 : Nat) L) x).length) → (match (decide ((↑x3 : Int) < (↑(reTo (fun i => (↑i : Int)) (List.take (20 : Nat) L) x).length : Int))) with | true => ((∃ x4 : Nat, ((x4.le (List.take ((IntKind.i64.wrap (n.tmod (26 : Int) + (26 : Int))).tmod (26 : Int)).toNat (srt (reTo (fun i => (↑i : Int)) (List.take (20 : Nat) L) x))).length) ∧ ((True ∧ ((true = true) ∧ (True ∧ (True ∧ (True ∧ (((↑x3 : Int) = (↑x3 : Int)) ∧ (((↑x4 : Int) = (0 : Int)) ∧ (True ∧ True)))))))) ∧ ((L = L) ∧ ((List.take (20 : Nat) L = List.take (20 : Nat) L) ∧ ((reTo (fun i => (↑i : Int)) (List.take (20 : Nat) L) x = reTo (fun i => (↑i : Int)) (List.take (20 : Nat) L) x) ∧ ((List.take ((IntKind.i64.wrap (n.tmod (26 : Int) + (26 : Int))).tmod (26 : Int)).toNat (srt (reTo (fun i => (↑i : Int)) (List.take (20 : Nat) L) x)) = List.take ((IntKind.i64.wrap (n.tmod (26 : Int) + (26 : Int))).tmod (26 : Int)).toNat (srt (reTo (fun i => (↑i : Int)) (List.take (20 : Nat) L) x))) ∧ ((marks (List.take x2 (List.take ((IntKind.i64.wrap (n.tmod (26 : Int) + (26 : Int))).tmod (26 : Int)).toNat (srt (reTo (fun i => (↑i : Int)) (List.take (20 : Nat) L) x)))) = marks (List.take x2 (List.take ((IntKind.i64.wrap (n.tmod (26 : Int) + (26 : Int))).tmod (26 : Int)).toNat (srt (reTo (fun i => (↑i : Int)) (List.take (20 : Nat) L) x))))) ∧ True)))))))) ∧ (∀ x4 : Nat, ((x4.le (List.take ((IntKind.i64.wrap (n.tmod (26 : Int) + (26 : Int))).tmod (26 : Int)).toNat (srt (reTo (fun i => (↑i : Int)) (List.take (20 : Nat) L) x))).length) → (match (decide ((↑x4 : Int) < (↑(List.take ((IntKind.i64.wrap (n.tmod (26 : Int) + (26 : Int))).tmod (26 : Int)).toNat (srt (reTo (fun i => (↑i : Int)) (List.take (20 : Nat) L) x))).length : Int))) with | true => (match ((marks (List.take x2 (List.take ((IntKind.i64.wrap (n.tmod (26 : Int) + (26 : Int))).tmod (26 : Int)).toNat (srt (reTo (fun i => (↑i : Int)) (List.take (20 : Nat) L) x))))).length == (20 : Nat)) with | true => (match (inb (↑x3 : Int) (20 : Nat)) with | true => (match (inb (↑x3 : Int) (marks (List.take x2 (List.take ((IntKind.i64.wrap (n.tmod (26 : Int) + (26 : Int))).tmod (26 : Int)).toNat (srt (reTo (fun i => (↑i : Int)) (List.take (20 : Nat) L) x))))).length) with | true => (match (!at' false (marks (List.take x2 (List.take ((IntKind.i64.wrap (n.tmod (26 : Int) + (26 : Int))).tmod (26 : Int)).toNat (srt (reTo (fun i => (↑i : Int)) (List.take (20 : Nat) L) x))))) (↑x3 : Int)) with | true => (match (inb (↑x3 : Int) (reTo (fun i => (↑i : Int)) (List.take (20 : Nat) L) x).length) with | true => (match (inb (↑x3 : Int) (reTo (fun i => (↑i : Int)) (List.take (20 : Nat) L) x).length) with | true => (match (inb (↑x4 : Int) (List.take ((IntKind.i64.wrap (n.tmod (26 : Int) + (26 : Int))).tmod (26 : Int)).toNat (srt (reTo (fun i => (↑i : Int)) (List.take (20 : Nat) L) x))).length) with | true => (match (inb (↑x4 : Int) (List.take ((IntKind.i64.wrap (n.tmod (26 : Int) + (26 : Int))).tmod (26 : Int)).toNat (srt (reTo (fun i => (↑i : Int)) (List.take (20 : Nat) L) x))).length) with | true => (match (prioLess (at' entE.zero (reTo (fun i => (↑i : Int)) (List.take (20 : Nat) L) x) (↑x3 : Int)) (at' entE.zero (List.take ((IntKind.i64.wrap (n.tmod (26 : Int) + (26 : Int))).tmod (26 : Int)).toNat (srt (reTo (fun i => (↑i : Int)) (List.take (20 : Nat) L) x))) (↑x4 : Int))) with | true => (((true = false) ∧ True) ∧ ((L = L) ∧ True)) | false => (∃ x' : Nat, ((x'.le (List.take ((IntKind.i64.wrap (n.tmod (26 : Int) + (26 : Int))).tmod (26 : Int)).toNat (srt (reTo (fun i => (↑i : Int)) (List.take (20 : Nat) L) x))).length) ∧ (((20 : Nat) - x' < (20 : Nat) - x4) ∧ ((True ∧ ((true = true) ∧ (True ∧ (True ∧ (True ∧ (((↑x3 : Int) = (↑x3 : Int)) ∧ (((↑x' : Int) = IntKind.i64.wrap ((↑x4 : Int) + (1 : Int))) ∧ (True ∧ True)))))))) ∧ ((L = L) ∧ ((List.take (20 : Nat) L = List.take (20 : Nat) L) ∧ ((reTo (fun i => (↑i : Int)) (List.take (20 : Nat) L) x = reTo (fun i => (↑i : Int)) (List.take (20 : Nat) L) x) ∧ ((List.take ((IntKind.i64.wrap (n.tmod (26 : Int) + (26 : Int))).tmod (26 : Int)).toNat (srt (reTo (fun i => (↑i : Int)) (List.take (20 : Nat) L) x)) = List.take ((IntKind.i64.wrap (n.tmod (26 : Int) + (26 : Int))).tmod (26 : Int)).toNat (srt (reTo (fun i => (↑i : Int)) (List.take (20 : Nat) L) x))) ∧ ((marks (List.take x2 (List.take ((IntKind.i64.wrap (n.tmod (26 : Int) + (26 : Int))).tmod (26 : Int)).toNat (srt (reTo (fun i => (↑i : Int)) (List.take (20 : Nat) L) x)))) = marks (List.take x2 (List.take ((IntKind.i64.wrap (n.tmod (26 : Int) + (26 : Int))).tmod (26 : Int)).toNat (srt (reTo (fun i => (↑i : Int)) (List.take (20 : Nat) L) x))))) ∧ True)))))))))) | false => False) | false => False) | false => False) | false => False) | false => (∃ x' : Nat, ((x'.le (List.take ((IntKind.i64.wrap (n.tmod (26 : Int) + (26 : Int))).tmod (26 : Int)).toNat (srt (reTo (fun i => (↑i : Int)) (List.take (20 : Nat) L) x))).length) ∧ (((20 : Nat) - x' < (20 : Nat) - x4) ∧ ((True ∧ ((true = true) ∧ (True ∧ (True ∧ (True ∧ (((↑x3 : Int) = (↑x3 : Int)) ∧ (((↑x' : Int) = IntKind.i64.wrap ((↑x4 : Int) + (1 : Int))) ∧ (True ∧ True)))))))) ∧ ((L = L) ∧ ((List.take (20 : Nat) L = List.take (20 : Nat) L) ∧ ((reTo (fun i => (↑i : Int)) (List.take (20 : Nat) L) x = reTo (fun i => (↑i : Int)) (List.take (20 : Nat) L) x) ∧ ((List.take ((IntKind.i64.wrap (n.tmod (26 : Int) + (26 : Int))).tmod (26 : Int)).toNat (srt (reTo (fun i => (↑i : Int)) (List.take (20 : Nat) L) x)) = List.take ((IntKind.i64.wrap (n.tmod (26 : Int) + (26 : Int))).tmod (26 : Int)).toNat (srt (reTo (fun i => (↑i : Int)) (List.take (20 : Nat) L) x))) ∧ ((marks (List.take x2 (List.take ((IntKind.i64.wrap (n.tmod (26 : Int) + (26 : Int))).tmod (26 : Int)).toNat (srt (reTo (fun i => (↑i : Int)) (List.take (20 : Nat) L) x)))) = marks (List.take x2 (List.take ((IntKind.i64.wrap (n.tmod (26 : Int) + (26 : Int))).tmod (26 : Int)).toNat (srt (reTo (fun i => (↑i : Int)) (List.take (20 : Nat) L) x))))) ∧ True)))))))))) | false => False) | false => False) | false => False) | false => (∃ x' : Nat, ((x'.le (reTo (fun i => (↑i : Int)) (List.take (20 : Nat) L) x).length) ∧ (((20 : Nat) - x' < (20 : Nat) - x3) ∧ ((True ∧ ((true = true) ∧ (True ∧ (True ∧ (True ∧ (((↑x' : Int) = IntKind.i64.wrap ((↑x3 : Int) + (1 : Int))) ∧ (True ∧ True))))))) ∧ ((L = L) ∧ ((List.take (20 : Nat) L = List.take (20 : Nat) L) ∧ ((reTo (fun i => (↑i : Int)) (List.take (20 : Nat) L) x = reTo (fun i => (↑i : Int)) (List.take (20 : Nat) L) x) ∧ ((List.take ((IntKind.i64.wrap (n.tmod (26 : Int) + (26 : Int))).tmod (26 : Int)).toNat (srt (reTo (fun i => (↑i : Int)) (List.take (20 : Nat) L) x)) = List.take ((IntKind.i64.wrap (n.tmod (26 : Int) + (26 : Int))).tmod (26 : Int)).toNat (srt (reTo (fun i => (↑i : Int)) (List.take (20 : Nat) L) x))) ∧ ((marks (List.take x2 (List.take ((IntKind.i64.wrap (n.tmod (26 : Int) + (26 : Int))).tmod (26 : Int)).toNat (srt (reTo (fun i => (↑i : Int)) (List.take (20 : Nat) L) x)))) = marks (List.take x2 (List.take ((IntKind.i64.wrap (n.tmod (26 : Int) + (26 : Int))).tmod (26 : Int)).toNat (srt (reTo (fun i => (↑i : Int)) (List.take (20 : Nat) L) x))))) ∧ True))))))))))))) | false => (((true = true) ∧ True) ∧ ((L = L) ∧ True)))))))))))))) | false => False))))) | false => False)
theorem prioPicksVc (L : List Ent) (n : Int) : fnX X19 ({ annOf [(4, { σ := Nat, st := fun S x => ((S.keep [0, 1, 5, 6, 18]).int 7 x).at' 6 (.vec 2 (reTo (fun i => (i : Int)) (L.take 20) x) 25), inv := fun _ x => x ≤ (L.take 20).length, m := fun x => (L.take 20).length - x }), (16, { σ := Nat, st := fun S x => ((S.keep [0, 5, 6, 9, 11, 18]).int 12 x).at' 11 (.arr 1 (marks ((S.gv 9 2).take x)) 40), inv := fun S x => x ≤ (S.gv 9 2).length, m := fun x => 20 - x }), (22, { σ := Nat, st := fun S x => ((S.keep [0, 5, 6, 9, 11, 18]).int 13 x), inv := fun S x => x ≤ (S.gv 6 2).length, m := fun x => 20 - x }), (25, { σ := Nat, st := fun S x => ((S.keep [0, 5, 6, 9, 11, 13, 18]).int 14 x), inv := fun S x => x ≤ (S.gv 9 2).length, m := fun x => 20 - x })] [] with join := fun i => match decide (i = 12) with | true => some { σ := Unit, st := fun S _ => (S.keep [0, 5, 6, 8, 9, 18]).int 10 (bif decide (S.gi 8 ≤ ((S.gv 6 2).length : Int)) then S.gi 8 else ((S.gv 6 2).length : Int)), inv := fun _ _ => True } | false => none }) Try.f5 [.own 0, .raw (.int .i64 n)] [.ro 2 L] (ends [.ro 2 L] ⟨some (.raw (.bool true)), []⟩) = prioPicksText L n := by kernel_rfl
theorem prioPicksHolds (L : List Ent) (n : Int) : prioPicksText L n := by
  unfold prioPicksText
  have hM : (L.take 20).length ≤ 20 := by rw [List.length_take]; omega
  generalize L.take 20 = M at hM ⊢
  obtain ⟨K, hK, hKe⟩ := mod26 n
  rw [hKe, Int.toNat_natCast]
  rw [show roomy (0 + M.length) 48 = true from decide_eq_true (by omega)]
  refine ⟨⟨0, Nat.zero_le _, by repeat' first | exact reTo_zero _ _ | trivial | rfl | apply And.intro⟩, ?_⟩
  rintro x hx
  by_cases h : x < M.length
  · have hwx := wrap_succ h (show M.length ≤ 140737488355328 by omega)
    have hs := reTo_set (fun i => (i : Int)) M x h
    simp only [reTo_length _ _ _ hx, dec_lt h, inb_nat h, reTo_at _ _ _ h]
    refine ⟨x + 1, h, by omega, ?_⟩
    repeat' first | exact hwx.symm | exact hs.symm | trivial | rfl | apply And.intro
  · obtain rfl : x = M.length := Nat.le_antisymm hx (by omega)
    rw [reTo_all]
    have hN : Nums (fun i => (i : Int)) (reId (fun i => (i : Int)) M) := reId_nums (fun i j e => Int.ofNat.inj e) M
    have hl := reId_length (fun i => (i : Int)) M
    generalize reId (fun i => (i : Int)) M = N at hN hl ⊢
    rw [← hl] at hM ⊢
    rw [dec_ge (Nat.le_refl _), decide_eq_true hM]
    have hp : ((srt N).take K).length = min K N.length := by rw [List.length_take, srt_length]
    have hpk : ∀ k, k < ((srt N).take K).length → ∃ j, ∃ hj : j < N.length, at' ez ((srt N).take K) (k : Int) = N[j] ∧ ahead N N[j] = k ∧ N[j].ID = (j : Int) := by
      intro k hk
      obtain ⟨j, hj, e1, e2⟩ := hN.place k (by omega)
      refine ⟨j, hj, ?_, e2, hN.1 j hj⟩
      rw [at_nat hk, List.getElem_take]
      rwa [at_nat (show k < (srt N).length by rw [srt_length]; omega)] at e1
    have hcore : ∀ i (hi : i < N.length) k, k < ((srt N).take K).length → at' false (marks ((srt N).take K)) (i : Int) = false → prioLess N[i] (at' ez ((srt N).take K) (k : Int)) = false := by
      intro i hi k hk hmk
      have hid : ∀ e ∈ (srt N).take K, e.ID.toNat < 20 := by
        intro e he
        obtain ⟨t, ht, rfl⟩ := List.getElem_of_mem he
        obtain ⟨j, hj, e1, _, e3⟩ := hpk t ht
        rw [at_nat ht] at e1
        rw [e1, e3]
        simp only [Int.toNat_natCast]
        omega
      have hnot : N[i] ∉ (srt N).take K := by
        intro hmem
        have := (marks_get _ hid i (by omega)).2 ⟨N[i], hmem, by rw [show N[i].ID = (i : Int) from hN.1 i hi]; rfl⟩
        rw [hmk] at this
        cases this
      have hin : N[i] ∈ srt N := (srt_perm N).mem_iff.2 (List.getElem_mem _)
      obtain ⟨t, ht, he⟩ := List.getElem_of_mem hin
      have hKt : k ≤ t := by
        rcases Nat.lt_or_ge t K with hlt | hge
        · exfalso
          refine hnot ?_
          rw [← he]
          exact List.mem_take_iff_getElem.2 ⟨t, by omega, rfl⟩
        · omega
      have := hN.next k t hKt (by rw [srt_length] at ht; exact ht)
      rw [at_nat ht, he] at this
      rw [at_nat hk, List.getElem_take]
      rwa [at_nat (show k < (srt N).length by omega)] at this
    generalize hP : (srt N).take K = P at hp hpk hcore ⊢
    clear hP
    have hbif : (bif decide ((K : Int) ≤ (N.length : Int)) then (K : Int) else (N.length : Int)) = (P.length : Int) := by
      by_cases c : K ≤ N.length
      · rw [decide_eq_true (by omega), cond_true, hp]; omega
      · rw [decide_eq_false (by omega), cond_false, hp]; omega
    rw [hbif]
    refine ⟨?_, ?_⟩
    · by_cases c : K > N.length
      · have e : (P.length : Int) = (N.length : Int) := by omega
        rw [show decide ((K : Int) > (N.length : Int)) = true from decide_eq_true (by omega)]
        refine ⟨(), trivial, ?_⟩
        repeat' first | exact e | trivial | rfl | apply And.intro
      · have e : (P.length : Int) = (K : Int) := by omega
        rw [show decide ((K : Int) > (N.length : Int)) = false from decide_eq_false (by omega)]
        refine ⟨(), trivial, ?_⟩
        repeat' first | exact e | trivial | rfl | apply And.intro
    intro _ _
    rw [show ((P.length : Int) != (P.length : Int)) = false by simp]
    refine ⟨⟨0, Nat.zero_le _, by repeat' first | trivial | rfl | apply And.intro⟩, ?_⟩
    rintro x hx'
    by_cases g : x < P.length
    · have hwx := wrap_succ g (show P.length ≤ 140737488355328 by omega)
      obtain ⟨j, hj, e1, _, e3⟩ := hpk x g
      have hm : marks (P.take (x + 1)) = (marks (P.take x)).set (j : Int).toNat true := by
        rw [take_snoc g, marks_snoc]
        rw [at_nat g] at e1
        rw [e1, e3]
      rw [dec_lt g, inb_nat g, e1, e3, marks_length, show decide ((j : Int) < 0) = false from decide_eq_false (by omega), show decide ((j : Int) > 19) = false from decide_eq_false (by omega), show inb (j : Int) 20 = true from inb_nat (b := 20) (by omega)]
      refine ⟨x + 1, g, by omega, ?_⟩
      repeat' first | exact hwx.symm | exact hm | trivial | rfl | apply And.intro
    · obtain rfl : x = P.length := Nat.le_antisymm hx' (by omega)
      rw [dec_ge (Nat.le_refl _), List.take_length, marks_length]
      refine ⟨⟨0, Nat.zero_le _, by repeat' first | trivial | rfl | apply And.intro⟩, ?_⟩
      rintro i hi
      by_cases gi : i < N.length
      · have hwi := wrap_succ gi (show N.length ≤ 140737488355328 by omega)
        rw [dec_lt gi]
        refine ⟨⟨0, Nat.zero_le _, by repeat' first | trivial | rfl | apply And.intro⟩, ?_⟩
        rintro k hk
        by_cases gk : k < P.length
        · have hwk := wrap_succ gk (show P.length ≤ 140737488355328 by omega)
          rw [dec_lt gk, show inb (i : Int) 20 = true from inb_nat (b := 20) (by omega), inb_nat gi, inb_nat gk]
          have hc := hcore i gi k gk
          rw [← at_nat (z := ez) gi] at hc
          cases hmk : at' false (marks P) (i : Int)
          · rw [hc hmk]
            refine ⟨k + 1, gk, by omega, ?_⟩
            repeat' first | exact hwk.symm | trivial | rfl | apply And.intro
          · refine ⟨k + 1, gk, by omega, ?_⟩
            repeat' first | exact hwk.symm | trivial | rfl | apply And.intro
        · rw [dec_ge (by omega)]
          refine ⟨i + 1, gi, by omega, ?_⟩
          repeat' first | exact hwi.symm | trivial | rfl | apply And.intro
      · rw [dec_ge (by omega)]
        repeat' first | trivial | rfl | apply And.intro
noncomputable def prioPicksCon : Con T O := fun args cs => match args, cs with
  | [.own 0, .raw (.int .i64 _)], [.ro 2 _] => .ret ⟨some (.raw (.bool true)), []⟩
  | _, _ => .fail
theorem prioPicksOk : ConOk R Try.prog 5 prioPicksCon := con_of_fn R (X19) (TabOk.con R X19Ok) mixed Try.call5 Try.func5 prioPicksCon (by
  intro args cs K h
  unfold prioPicksCon at h
  split at h
  · rename_i n L
    refine ⟨{ annOf [(4, { σ := Nat, st := fun S x => ((S.keep [0, 1, 5, 6, 18]).int 7 x).at' 6 (.vec 2 (reTo (fun i => (i : Int)) (L.take 20) x) 25), inv := fun _ x => x ≤ (L.take 20).length, m := fun x => (L.take 20).length - x }), (16, { σ := Nat, st := fun S x => ((S.keep [0, 5, 6, 9, 11, 18]).int 12 x).at' 11 (.arr 1 (marks ((S.gv 9 2).take x)) 40), inv := fun S x => x ≤ (S.gv 9 2).length, m := fun x => 20 - x }), (22, { σ := Nat, st := fun S x => ((S.keep [0, 5, 6, 9, 11, 18]).int 13 x), inv := fun S x => x ≤ (S.gv 6 2).length, m := fun x => 20 - x }), (25, { σ := Nat, st := fun S x => ((S.keep [0, 5, 6, 9, 11, 13, 18]).int 14 x), inv := fun S x => x ≤ (S.gv 9 2).length, m := fun x => 20 - x })] [] with join := fun i => match decide (i = 12) with | true => some { σ := Unit, st := fun S _ => (S.keep [0, 5, 6, 8, 9, 18]).int 10 (bif decide (S.gi 8 ≤ ((S.gv 6 2).length : Int)) then S.gi 8 else ((S.gv 6 2).length : Int)), inv := fun _ _ => True } | false => none }, _, fun v S hv => ⟨_, h, hv⟩, ?_⟩
    rw [prioPicksVc L n]
    exact prioPicksHolds L n
  · exact h.elim)
noncomputable def tab20 : Tab T O := (5, prioPicksCon) :: tab19
theorem tabOk20 : TabOk R Try.prog tab20 := TabOk.cons R prioPicksOk <| tabOk19
noncomputable def X20 : Ctx T O := { X0 with con := conOf tab20 }
theorem X20Ok : TabOk R X20.P tab20 := tabOk20
end Go.Proofs.Ytjhkokdcjikkiaa
