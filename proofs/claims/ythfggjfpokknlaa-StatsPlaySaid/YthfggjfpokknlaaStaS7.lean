/-
  Part of a proof over the seat Ythfggjfpokknlaa: printed by a small program or typed by hand.
-/
import Derived.Test.YthfggjfpokknlaaStaS6
import Derived.KernelRfl
namespace Go.Proofs.Ythfggjfpokknlaa
open Go.Sx Go.Proofs Classical
/-! ### slices.stableCmpFunc[int] -/
def stbIK0Text (L : List Int) (M : CM) (n : Int) : Prop := ((∃ x : Nat, ((((20 : Nat) * x).le L.length) ∧ ((True ∧ ((n = n) ∧ ((True ∧ True) ∧ (((20 : Int) = (20 : Int)) ∧ (((↑((20 : Nat) * x) : Int) = (0 : Int)) ∧ (((↑((20 : Nat) * (x + (1 : Nat))) : Int) = (20 : Int)) ∧ True)))))) ∧ ((insS (tlI M) x L = L) ∧ ((True ∧ True) ∧ ((True ∧ True) ∧ ((M = M) ∧ True))))))) ∧ (∀ x : Nat, ((((20 : Nat) * x).le L.length) → (match (decide ((↑((20 : Nat) * (x + (1 : Nat))) : Int) ≤ n)) with | true => (match (decide ((0 : Int) ≤ (↑((20 : Nat) * x) : Int) ∧ (↑((20 : Nat) * x) : Int) ≤ (↑((20 : Nat) * (x + (1 : Nat))) : Int) ∧ (↑((20 : Nat) * (x + (1 : Nat))) : Int) ≤ (↑(insS (tlI M) x L).length : Int) ∧ (insS (tlI M) x L).length ≤ (1000 : Nat) ∧ PreT (ltI M) (tlI M) (seg (↑((20 : Nat) * x) : Int).toNat (↑((20 : Nat) * (x + (1 : Nat))) : Int).toNat (insS (tlI M) x L)))) with | true => (∃ x' : Nat, ((((20 : Nat) * x').le L.length) ∧ ((L.length - x' < L.length - x) ∧ ((True ∧ ((n = n) ∧ ((True ∧ True) ∧ (((20 : Int) = (20 : Int)) ∧ (((↑((20 : Nat) * x') : Int) = (↑((20 : Nat) * (x + (1 : Nat))) : Int)) ∧ (((↑((20 : Nat) * (x' + (1 : Nat))) : Int) = IntKind.i64.wrap ((↑((20 : Nat) * (x + (1 : Nat))) : Int) + (20 : Int))) ∧ True)))))) ∧ ((insS (tlI M) x' L = rangeS (tlI M) (↑((20 : Nat) * x) : Int).toNat (↑((20 : Nat) * (x + (1 : Nat))) : Int).toNat (insS (tlI M) x L)) ∧ ((True ∧ True) ∧ ((True ∧ True) ∧ ((M = M) ∧ True)))))))) | false => False) | false => (match (decide ((0 : Int) ≤ (↑((20 : Nat) * x) : Int) ∧ (↑((20 : Nat) * x) : Int) ≤ n ∧ n ≤ (↑(insS (tlI M) x L).length : Int) ∧ (insS (tlI M) x L).length ≤ (1000 : Nat) ∧ PreT (ltI M) (tlI M) (seg (↑((20 : Nat) * x) : Int).toNat n.toNat (insS (tlI M) x L)))) with | true => ((∃ x1 : Nat × List Int, ((((20 : Nat) ≤ x1.fst) ∧ ((x1.fst ≤ (2 : Nat) * L.length + (20 : Nat)) ∧ (x1.snd = blkA (tlI M) x1.fst L))) ∧ ((True ∧ ((n = n) ∧ ((True ∧ True) ∧ (((↑x1.fst : Int) = (20 : Int)) ∧ True)))) ∧ ((x1.snd = rangeS (tlI M) (↑((20 : Nat) * x) : Int).toNat n.toNat (insS (tlI M) x L)) ∧ ((True ∧ True) ∧ ((True ∧ True) ∧ ((M = M) ∧ True))))))) ∧ (∀ x1 : Nat × List Int, ((((20 : Nat) ≤ x1.fst) ∧ ((x1.fst ≤ (2 : Nat) * L.length + (20 : Nat)) ∧ (x1.snd = blkA (tlI M) x1.fst L))) → (match (decide ((↑x1.fst : Int) < n)) with | true => ((∃ x2 : Nat, ((((2 : Nat) * (↑x1.fst : Int).toNat * x2).le L.length) ∧ ((True ∧ ((n = n) ∧ ((True ∧ True) ∧ (((↑x1.fst : Int) = (↑x1.fst : Int)) ∧ (((↑((2 : Nat) * (↑x1.fst : Int).toNat * x2) : Int) = (0 : Int)) ∧ (((↑((2 : Nat) * (↑x1.fst : Int).toNat * (x2 + (1 : Nat))) : Int) = IntKind.i64.wrap ((2 : Int) * (↑x1.fst : Int))) ∧ True)))))) ∧ ((mrgS (tlI M) (↑x1.fst : Int).toNat x2 L = x1.snd) ∧ ((True ∧ True) ∧ ((True ∧ True) ∧ ((M = M) ∧ True))))))) ∧ (∀ x2 : Nat, ((((2 : Nat) * (↑x1.fst : Int).toNat * x2).le L.length) → (match (decide ((↑((2 : Nat) * (↑x1.fst : Int).toNat * (x2 + (1 : Nat))) : Int) ≤ n)) with | true => (match (decide ((0 : Int) ≤ (↑((2 : Nat) * (↑x1.fst : Int).toNat * x2) : Int) ∧ (↑((2 : Nat) * (↑x1.fst : Int).toNat * x2) : Int) < IntKind.i64.wrap ((↑((2 : Nat) * (↑x1.fst : Int).toNat * x2) : Int) + (↑x1.fst : Int)) ∧ IntKind.i64.wrap ((↑((2 : Nat) * (↑x1.fst : Int).toNat * x2) : Int) + (↑x1.fst : Int)) < (↑((2 : Nat) * (↑x1.fst : Int).toNat * (x2 + (1 : Nat))) : Int) ∧ (↑((2 : Nat) * (↑x1.fst : Int).toNat * (x2 + (1 : Nat))) : Int) ≤ (↑(mrgS (tlI M) (↑x1.fst : Int).toNat x2 L).length : Int) ∧ (mrgS (tlI M) (↑x1.fst : Int).toNat x2 L).length ≤ (1000 : Nat) ∧ AscT (tlI M) (seg (↑((2 : Nat) * (↑x1.fst : Int).toNat * x2) : Int).toNat (IntKind.i64.wrap ((↑((2 : Nat) * (↑x1.fst : Int).toNat * x2) : Int) + (↑x1.fst : Int))).toNat (mrgS (tlI M) (↑x1.fst : Int).toNat x2 L)) ∧ AscT (tlI M) (seg (IntKind.i64.wrap ((↑((2 : Nat) * (↑x1.fst : Int).toNat * x2) : Int) + (↑x1.fst : Int))).toNat (↑((2 : Nat) * (↑x1.fst : Int).toNat * (x2 + (1 : Nat))) : Int).toNat (mrgS (tlI M) (↑x1.fst : Int).toNat x2 L)) ∧ Cross (ltI M) (tlI M) (seg (↑((2 : Nat) * (↑x1.fst : Int).toNat * x2) : Int).toNat (IntKind.i64.wrap ((↑((2 : Nat) * (↑x1.fst : Int).toNat * x2) : Int) + (↑x1.fst : Int))).toNat (mrgS (tlI M) (↑x1.fst : Int).toNat x2 L)) (seg (IntKind.i64.wrap ((↑((2 : Nat) * (↑x1.fst : Int).toNat * x2) : Int) + (↑x1.fst : Int))).toNat (↑((2 : Nat) * (↑x1.fst : Int).toNat * (x2 + (1 : Nat))) : Int).toNat (mrgS (tlI M) (↑x1.fst : Int).toNat x2 L)))) with | true => (∃ x' : Nat, ((((2 : Nat) * (↑x1.fst : Int).toNat * x').le L.length) ∧ ((L.length - x' < L.length - x2) ∧ ((True ∧ ((n = n) ∧ ((True ∧ True) ∧ (((↑x1.fst : Int) = (↑x1.fst : Int)) ∧ (((↑((2 : Nat) * (↑x1.fst : Int).toNat * x') : Int) = (↑((2 : Nat) * (↑x1.fst : Int).toNat * (x2 + (1 : Nat))) : Int)) ∧ (((↑((2 : Nat) * (↑x1.fst : Int).toNat * (x' + (1 : Nat))) : Int) = IntKind.i64.wrap ((↑((2 : Nat) * (↑x1.fst : Int).toNat * (x2 + (1 : Nat))) : Int) + IntKind.i64.wrap ((2 : Int) * (↑x1.fst : Int)))) ∧ True)))))) ∧ ((mrgS (tlI M) (↑x1.fst : Int).toNat x' L = rangeS (tlI M) (↑((2 : Nat) * (↑x1.fst : Int).toNat * x2) : Int).toNat (↑((2 : Nat) * (↑x1.fst : Int).toNat * (x2 + (1 : Nat))) : Int).toNat (mrgS (tlI M) (↑x1.fst : Int).toNat x2 L)) ∧ ((True ∧ True) ∧ ((True ∧ True) ∧ ((M = M) ∧ True)))))))) | false => False) | false => (match (decide (IntKind.i64.wrap ((↑((2 : Nat) * (↑x1.fst : Int).toNat * x2) : Int) + (↑x1.fst : Int)) < n)) with | true => (match (decide ((0 : Int) ≤ (↑((2 : Nat) * (↑x1.fst : Int).toNat * x2) : Int) ∧ (↑((2 : Nat) * (↑x1.fst : Int).toNat * x2) : Int) < IntKind.i64.wrap ((↑((2 : Nat) * (↑x1.fst : Int).toNat * x2) : Int) + (↑x1.fst : Int)) ∧ IntKind.i64.wrap ((↑((2 : Nat) * (↑x1.fst : Int).toNat * x2) : Int) + (↑x1.fst : Int)) < n ∧ n ≤ (↑(mrgS (tlI M) (↑x1.fst : Int).toNat x2 L).length : Int) ∧ (mrgS (tlI M) (↑x1.fst : Int).toNat x2 L).length ≤ (1000 : Nat) ∧ AscT (tlI M) (seg (↑((2 : Nat) * (↑x1.fst : Int).toNat * x2) : Int).toNat (IntKind.i64.wrap ((↑((2 : Nat) * (↑x1.fst : Int).toNat * x2) : Int) + (↑x1.fst : Int))).toNat (mrgS (tlI M) (↑x1.fst : Int).toNat x2 L)) ∧ AscT (tlI M) (seg (IntKind.i64.wrap ((↑((2 : Nat) * (↑x1.fst : Int).toNat * x2) : Int) + (↑x1.fst : Int))).toNat n.toNat (mrgS (tlI M) (↑x1.fst : Int).toNat x2 L)) ∧ Cross (ltI M) (tlI M) (seg (↑((2 : Nat) * (↑x1.fst : Int).toNat * x2) : Int).toNat (IntKind.i64.wrap ((↑((2 : Nat) * (↑x1.fst : Int).toNat * x2) : Int) + (↑x1.fst : Int))).toNat (mrgS (tlI M) (↑x1.fst : Int).toNat x2 L)) (seg (IntKind.i64.wrap ((↑((2 : Nat) * (↑x1.fst : Int).toNat * x2) : Int) + (↑x1.fst : Int))).toNat n.toNat (mrgS (tlI M) (↑x1.fst : Int).toNat x2 L)))) with | true => (∃ x' : Nat × List Int, ((((20 : Nat) ≤ x'.fst) ∧ ((x'.fst ≤ (2 : Nat) * L.length + (20 : Nat)) ∧ (x'.snd = blkA (tlI M) x'.fst L))) ∧ (((2 : Nat) * L.length + (20 : Nat) - x'.fst < (2 : Nat) * L.length + (20 : Nat) - x1.fst) ∧ ((True ∧ ((n = n) ∧ ((True ∧ True) ∧ (((↑x'.fst : Int) = IntKind.i64.wrap ((↑x1.fst : Int) * (2 : Int))) ∧ True)))) ∧ ((x'.snd = rangeS (tlI M) (↑((2 : Nat) * (↑x1.fst : Int).toNat * x2) : Int).toNat n.toNat (mrgS (tlI M) (↑x1.fst : Int).toNat x2 L)) ∧ ((True ∧ True) ∧ ((True ∧ True) ∧ ((M = M) ∧ True)))))))) | false => False) | false => (∃ x' : Nat × List Int, ((((20 : Nat) ≤ x'.fst) ∧ ((x'.fst ≤ (2 : Nat) * L.length + (20 : Nat)) ∧ (x'.snd = blkA (tlI M) x'.fst L))) ∧ (((2 : Nat) * L.length + (20 : Nat) - x'.fst < (2 : Nat) * L.length + (20 : Nat) - x1.fst) ∧ ((True ∧ ((n = n) ∧ ((True ∧ True) ∧ (((↑x'.fst : Int) = IntKind.i64.wrap ((↑x1.fst : Int) * (2 : Int))) ∧ True)))) ∧ ((x'.snd = mrgS (tlI M) (↑x1.fst : Int).toNat x2 L) ∧ ((True ∧ True) ∧ ((True ∧ True) ∧ ((M = M) ∧ True))))))))))))) | false => ((True ∧ True) ∧ ((srtT (tlI M) L = x1.snd) ∧ ((True ∧ True) ∧ ((True ∧ True) ∧ ((M = M) ∧ True))))))))) | false => False)))))
theorem stbIK0Vc (L : List Int) (M : CM) (n : Int) : fnX X6 (annOf [(2, { σ := Nat, st := fun S x => ((((S.keep [0, 1, 2]).int 6 20).int 7 (20 * x : Nat)).int 8 (20 * (x + 1) : Nat)).at' 0 (.vec 0 (insS (tlI M) x L) 3), inv := fun _ x => 20 * x ≤ L.length, m := fun x => L.length - x }),
      (7, { σ := Nat × List Int, st := fun S x => ((S.keep [0, 1, 2]).int 6 x.1).at' 0 (.vec 0 x.2 3), inv := fun _ x => 20 ≤ x.1 ∧ x.1 ≤ 2 * L.length + 20 ∧ x.2 = blkA (tlI M) x.1 L, m := fun x => 2 * L.length + 20 - x.1 }),
      (9, { σ := Nat, st := fun S x => (((S.keep [0, 1, 2, 6]).int 7 (2 * (S.gi 6).toNat * x : Nat)).int 8 (2 * (S.gi 6).toNat * (x + 1) : Nat)).at' 0 (.vec 0 (mrgS (tlI M) (S.gi 6).toNat x L) 3), inv := fun S x => 2 * (S.gi 6).toNat * x ≤ L.length, m := fun x => L.length - x })] []) Try.f51 [.own 0, .raw (.int .i64 n), .fn 38 [.ptr 1 0]] [.vec 0 L 3, .cells [.ptr 2 0] 24, .cells [.own 3] 51, .map 0 M] (ends [.vec 0 L 3, .cells [.ptr 2 0] 24, .cells [.own 3] 51, .map 0 M] ⟨some (.tup []), [(0, some (.vec 0 (srtT (tlI M) L) 3)), (3, some (.map 0 M))]⟩) = stbIK0Text L M n := by kernel_rfl
set_option maxHeartbeats 1000000 in
theorem stbIK0Holds (L : List Int) (M : CM) (n : Int) (hp : n = L.length ∧ L.length ≤ 1000 ∧ PreT (ltI M) (tlI M) L) : stbIK0Text L M n := by
  unfold stbIK0Text
  obtain ⟨rfl, p1, p2⟩ := hp
  refine ⟨⟨0, Nat.zero_le _, by repeat' first | trivial | rfl | apply And.intro⟩, ?_⟩
  intro x hx
  have hx : 20 * x ≤ L.length := hx
  have hl := insS_length (TL := tlI M) x L
  by_cases c : 20 * (x + 1) ≤ L.length
  · obtain ⟨k1, k2⟩ := insS_step (ordI M) p2 hx (show 20 * (x + 1) = min (20 * (x + 1)) L.length by omega)
    have hw : ((20 * (x + 1 + 1) : Nat) : Int) = IntKind.i64.wrap (((20 * (x + 1) : Nat) : Int) + 20) := by rw [wrap_id (by omega) (by omega)]; omega
    rw [decide_eq_true (show ((20 * (x + 1) : Nat) : Int) ≤ (L.length : Int) by omega), Int.toNat_natCast, Int.toNat_natCast, hl, decide_eq_true (⟨by omega, by omega, by omega, p1, k2⟩ : (0 : Int) ≤ ((20 * x : Nat) : Int) ∧ ((20 * x : Nat) : Int) ≤ ((20 * (x + 1) : Nat) : Int) ∧ ((20 * (x + 1) : Nat) : Int) ≤ (L.length : Int) ∧ L.length ≤ 1000 ∧ PreT (ltI M) (tlI M) (seg (20 * x) (20 * (x + 1)) (insS (tlI M) x L)))]
    refine ⟨x + 1, c, by omega, ?_⟩
    repeat' first | exact hw | exact k1.symm | trivial | rfl | apply And.intro
  · obtain ⟨k1, k2⟩ := insS_step (ordI M) p2 hx (show L.length = min (20 * (x + 1)) L.length by omega)
    rw [insS_end (x := x + 1) (by omega)] at k1
    rw [decide_eq_false (show ¬ ((20 * (x + 1) : Nat) : Int) ≤ (L.length : Int) by omega)]
    repeat rw [Int.toNat_natCast]
    rw [hl, decide_eq_true (⟨by omega, by omega, by omega, p1, k2⟩ : (0 : Int) ≤ ((20 * x : Nat) : Int) ∧ ((20 * x : Nat) : Int) ≤ (L.length : Int) ∧ (L.length : Int) ≤ (L.length : Int) ∧ L.length ≤ 1000 ∧ PreT (ltI M) (tlI M) (seg (20 * x) L.length (insS (tlI M) x L)))]
    refine ⟨⟨(20, blkA (tlI M) 20 L), ⟨Nat.le_refl _, by dsimp only; omega, rfl⟩, by repeat' first | exact k1.symm | trivial | rfl | apply And.intro⟩, ?_⟩
    rintro ⟨B, D⟩ ⟨g1, g2, g3⟩
    dsimp only at g1 g2 g3 ⊢
    by_cases u : B < L.length
    · have hw0 : ((2 * B * (0 + 1) : Nat) : Int) = IntKind.i64.wrap (2 * (B : Int)) := by rw [wrap_id (by omega) (by omega)]; omega
      rw [decide_eq_true (show (B : Int) < (L.length : Int) by omega)]
      repeat rw [Int.toNat_natCast]
      have e0 : mrgS (tlI M) B 0 L = D := g3.symm
      refine ⟨⟨0, Nat.zero_le _, by repeat' first | exact hw0 | exact e0 | trivial | rfl | apply And.intro⟩, ?_⟩
      intro y hy
      have hy : 2 * B * y ≤ L.length := hy
      have hm : 2 * B * (y + 1) = 2 * B * y + 2 * B := Nat.mul_succ _ _
      have hm2 : 2 * B * (y + 1 + 1) = 2 * B * (y + 1) + 2 * B := Nat.mul_succ _ _
      have hlm := mrgS_length (TL := tlI M) B y (by omega) L
      rw [show IntKind.i64.wrap (((2 * B * y : Nat) : Int) + (B : Int)) = ((2 * B * y + B : Nat) : Int) by rw [wrap_id (by omega) (by omega)]; omega]
      repeat rw [Int.toNat_natCast]
      rw [hlm]
      by_cases v : 2 * B * (y + 1) ≤ L.length
      · obtain ⟨k1, k2, k3, k4⟩ := mrgS_step (ordI M) (B := B) (x := y) (c := 2 * B * (y + 1)) (by omega) p2 (by omega) (by omega)
        have hyl : y + 1 ≤ 2 * B * (y + 1) := Nat.le_mul_of_pos_left _ (by omega)
        have hw : ((2 * B * (y + 1 + 1) : Nat) : Int) = IntKind.i64.wrap (((2 * B * (y + 1) : Nat) : Int) + IntKind.i64.wrap (2 * (B : Int))) := by rw [wrap_id (n := 2 * (B : Int)) (by omega) (by omega), wrap_id (by omega) (by omega)]; omega
        rw [decide_eq_true (show ((2 * B * (y + 1) : Nat) : Int) ≤ (L.length : Int) by omega), decide_eq_true (⟨by omega, by omega, by omega, by omega, p1, k2, k3, k4⟩ : ((0 : Int) ≤ ((2 * B * y : Nat) : Int) ∧ ((2 * B * y : Nat) : Int) < ((2 * B * y + B : Nat) : Int) ∧ ((2 * B * y + B : Nat) : Int) < ((2 * B * (y + 1) : Nat) : Int) ∧ ((2 * B * (y + 1) : Nat) : Int) ≤ (L.length : Int) ∧ L.length ≤ 1000 ∧ AscT (tlI M) (seg (2 * B * y) (2 * B * y + B) (mrgS (tlI M) B y L)) ∧ AscT (tlI M) (seg (2 * B * y + B) (2 * B * (y + 1)) (mrgS (tlI M) B y L)) ∧ Cross (ltI M) (tlI M) (seg (2 * B * y) (2 * B * y + B) (mrgS (tlI M) B y L)) (seg (2 * B * y + B) (2 * B * (y + 1)) (mrgS (tlI M) B y L))))]
        refine ⟨y + 1, v, by omega, ?_⟩
        repeat' first | exact hw | exact k1.symm | trivial | rfl | apply And.intro
      · rw [decide_eq_false (show ¬ ((2 * B * (y + 1) : Nat) : Int) ≤ (L.length : Int) by omega)]
        have hw : ((2 * B : Nat) : Int) = IntKind.i64.wrap ((B : Int) * 2) := by rw [wrap_id (by omega) (by omega)]; omega
        by_cases w : 2 * B * y + B < L.length
        · obtain ⟨k1, k2, k3, k4⟩ := mrgS_step (ordI M) (B := B) (x := y) (c := L.length) (by omega) p2 w (by omega)
          rw [mrgS_all (x := y + 1) (by omega) (by omega)] at k1
          rw [decide_eq_true (show ((2 * B * y + B : Nat) : Int) < (L.length : Int) by omega), decide_eq_true (⟨by omega, by omega, by omega, by omega, p1, k2, k3, k4⟩ : ((0 : Int) ≤ ((2 * B * y : Nat) : Int) ∧ ((2 * B * y : Nat) : Int) < ((2 * B * y + B : Nat) : Int) ∧ ((2 * B * y + B : Nat) : Int) < ((L.length : Nat) : Int) ∧ ((L.length : Nat) : Int) ≤ (L.length : Int) ∧ L.length ≤ 1000 ∧ AscT (tlI M) (seg (2 * B * y) (2 * B * y + B) (mrgS (tlI M) B y L)) ∧ AscT (tlI M) (seg (2 * B * y + B) (L.length) (mrgS (tlI M) B y L)) ∧ Cross (ltI M) (tlI M) (seg (2 * B * y) (2 * B * y + B) (mrgS (tlI M) B y L)) (seg (2 * B * y + B) (L.length) (mrgS (tlI M) B y L))))]
          refine ⟨(2 * B, blkA (tlI M) (2 * B) L), ⟨by dsimp only; omega, by dsimp only; omega, rfl⟩, by dsimp only; omega, ?_⟩
          repeat' first | exact hw | exact k1.symm | trivial | rfl | apply And.intro
        · rw [decide_eq_false (show ¬ ((2 * B * y + B : Nat) : Int) < (L.length : Int) by omega)]
          have k1 : mrgS (tlI M) B y L = blkA (tlI M) (2 * B) L := mrgS_end (ordI M) (by omega) (by omega)
          refine ⟨(2 * B, blkA (tlI M) (2 * B) L), ⟨by dsimp only; omega, by dsimp only; omega, rfl⟩, by dsimp only; omega, ?_⟩
          repeat' first | exact hw | exact k1.symm | trivial | rfl | apply And.intro
    · rw [decide_eq_false (show ¬ (B : Int) < (L.length : Int) by omega)]
      have e : srtT (tlI M) L = D := by rw [g3, blkA_one (ordI M) (by omega) (by omega)]
      repeat' first | exact e | trivial | rfl | apply And.intro
def stbIK1Text  : Prop := ((True ∧ True) ∧ (((Value.pointer none = Value.pointer none) ∧ True) ∧ True))
theorem stbIK1Vc  : fnX X6 (annOf [] [(2, 1), (7, 1)]) Try.f51 [.raw (.slice none 0 0), .raw (.int .i64 0), .fn 38 [.ptr 0 0]] [.cells [.raw (.pointer none)] 24] (ends [.cells [.raw (.pointer none)] 24] ⟨some (.tup []), []⟩) = stbIK1Text  := by kernel_rfl
theorem stbIK1Holds  : stbIK1Text  := by
  unfold stbIK1Text
  repeat' first | trivial | rfl | apply And.intro
noncomputable def stbICon : Con T O := fun args cs => match args, cs with
  | [.own 0, .raw (.int .i64 n), .fn 38 [.ptr 1 0]], [.vec 0 L 3, .cells [.ptr 2 0] 24, .cells [.own 3] 51, .map 0 M] => chk (decide (n = L.length ∧ L.length ≤ 1000 ∧ PreT (ltI M) (tlI M) L)) (.ret ⟨some (.tup []), [(0, some (.vec 0 (srtT (tlI M) L) 3)), (3, some (.map 0 M))]⟩)
  | [.raw (.slice none 0 0), .raw (.int .i64 0), .fn 38 [.ptr 0 0]], [.cells [.raw (.pointer none)] 24] => .ret ⟨some (.tup []), []⟩
  | _, _ => .fail
theorem stbIOk : ConOk R Try.prog 51 stbICon := con_of_fn R (X6) (TabOk.con R X6Ok) mixed Try.call51 Try.func51 stbICon (by
  intro args cs K h
  unfold stbICon at h
  split at h
  · rename_i n L M
    rw [Tree.holds_chk] at h
    obtain ⟨hp, h⟩ := h
    refine ⟨annOf [(2, { σ := Nat, st := fun S x => ((((S.keep [0, 1, 2]).int 6 20).int 7 (20 * x : Nat)).int 8 (20 * (x + 1) : Nat)).at' 0 (.vec 0 (insS (tlI M) x L) 3), inv := fun _ x => 20 * x ≤ L.length, m := fun x => L.length - x }),
      (7, { σ := Nat × List Int, st := fun S x => ((S.keep [0, 1, 2]).int 6 x.1).at' 0 (.vec 0 x.2 3), inv := fun _ x => 20 ≤ x.1 ∧ x.1 ≤ 2 * L.length + 20 ∧ x.2 = blkA (tlI M) x.1 L, m := fun x => 2 * L.length + 20 - x.1 }),
      (9, { σ := Nat, st := fun S x => (((S.keep [0, 1, 2, 6]).int 7 (2 * (S.gi 6).toNat * x : Nat)).int 8 (2 * (S.gi 6).toNat * (x + 1) : Nat)).at' 0 (.vec 0 (mrgS (tlI M) (S.gi 6).toNat x L) 3), inv := fun S x => 2 * (S.gi 6).toNat * x ≤ L.length, m := fun x => L.length - x })] [], _, fun v S hv => ⟨_, h, hv⟩, ?_⟩
    rw [stbIK0Vc L M n]
    exact stbIK0Holds L M n (of_decide_eq_true hp)
  ·
    refine ⟨annOf [] [(2, 1), (7, 1)], _, fun v S hv => ⟨_, h, hv⟩, ?_⟩
    rw [stbIK1Vc ]
    exact stbIK1Holds 
  · exact h.elim)
noncomputable def tab7 : Tab T O := (51, stbICon) :: tab6
theorem tabOk7 : TabOk R Try.prog tab7 := TabOk.cons R stbIOk <| tabOk6
noncomputable def X7 : Ctx T O := { X0 with con := conOf tab7 }
theorem X7Ok : TabOk R X7.P tab7 := tabOk7
end Go.Proofs.Ythfggjfpokknlaa
