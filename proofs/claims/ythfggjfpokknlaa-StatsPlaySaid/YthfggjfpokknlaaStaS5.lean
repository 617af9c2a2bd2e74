/-
  Part of a proof over the seat Ythfggjfpokknlaa: printed by a small program or typed by hand.
-/
import Derived.Test.YthfggjfpokknlaaStaS4
import Derived.KernelRfl
namespace Go.Proofs.Ythfggjfpokknlaa
open Go.Sx Go.Proofs Classical
/-! ### slices.rotateCmpFunc[int] -/
def rotIText (L : List Int) (M : CM) (a m b : Int) : Prop := ((∃ x : Nat × Nat × List Int, ((((1 : Nat) ≤ x.fst) ∧ ((x.fst ≤ m.toNat) ∧ (((1 : Nat) ≤ x.snd.fst) ∧ ((m.toNat + x.snd.fst ≤ L.length) ∧ ((x.snd.snd.length = L.length) ∧ (rotR (m.toNat - x.fst) m.toNat (m.toNat + x.snd.fst) x.snd.snd = rotR a.toNat m.toNat b.toNat L)))))) ∧ ((True ∧ ((m = m) ∧ ((True ∧ True) ∧ (((↑x.fst : Int) = IntKind.i64.wrap (m - a)) ∧ (((↑x.snd.fst : Int) = IntKind.i64.wrap (b - m)) ∧ True))))) ∧ ((x.snd.snd = L) ∧ ((True ∧ True) ∧ ((True ∧ True) ∧ ((M = M) ∧ True))))))) ∧ (∀ x : Nat × Nat × List Int, ((((1 : Nat) ≤ x.fst) ∧ ((x.fst ≤ m.toNat) ∧ (((1 : Nat) ≤ x.snd.fst) ∧ ((m.toNat + x.snd.fst ≤ L.length) ∧ ((x.snd.snd.length = L.length) ∧ (rotR (m.toNat - x.fst) m.toNat (m.toNat + x.snd.fst) x.snd.snd = rotR a.toNat m.toNat b.toNat L)))))) → (match ((↑x.fst : Int) != (↑x.snd.fst : Int)) with | true => (match (decide ((↑x.fst : Int) > (↑x.snd.fst : Int))) with | true => (match (decide ((0 : Int) ≤ IntKind.i64.wrap (m - (↑x.fst : Int)) ∧ (0 : Int) ≤ (↑x.snd.fst : Int) ∧ IntKind.i64.wrap (m - (↑x.fst : Int)) + (↑x.snd.fst : Int) ≤ m ∧ m + (↑x.snd.fst : Int) ≤ (↑x.snd.snd.length : Int) ∧ x.snd.snd.length ≤ (1000 : Nat))) with | true => (∃ x' : Nat × Nat × List Int, ((((1 : Nat) ≤ x'.fst) ∧ ((x'.fst ≤ m.toNat) ∧ (((1 : Nat) ≤ x'.snd.fst) ∧ ((m.toNat + x'.snd.fst ≤ L.length) ∧ ((x'.snd.snd.length = L.length) ∧ (rotR (m.toNat - x'.fst) m.toNat (m.toNat + x'.snd.fst) x'.snd.snd = rotR a.toNat m.toNat b.toNat L)))))) ∧ ((x'.fst + x'.snd.fst < x.fst + x.snd.fst) ∧ ((True ∧ ((m = m) ∧ ((True ∧ True) ∧ (((↑x'.fst : Int) = IntKind.i64.wrap ((↑x.fst : Int) - (↑x.snd.fst : Int))) ∧ (((↑x'.snd.fst : Int) = (↑x.snd.fst : Int)) ∧ True))))) ∧ ((x'.snd.snd = swpR (0 : Int) (IntKind.i64.wrap (m - (↑x.fst : Int))).toNat m.toNat (↑x.snd.fst : Int).toNat x.snd.snd) ∧ ((True ∧ True) ∧ ((True ∧ True) ∧ ((M = M) ∧ True)))))))) | false => False) | false => (match (decide ((0 : Int) ≤ IntKind.i64.wrap (m - (↑x.fst : Int)) ∧ (0 : Int) ≤ (↑x.fst : Int) ∧ IntKind.i64.wrap (m - (↑x.fst : Int)) + (↑x.fst : Int) ≤ IntKind.i64.wrap (IntKind.i64.wrap (m + (↑x.snd.fst : Int)) - (↑x.fst : Int)) ∧ IntKind.i64.wrap (IntKind.i64.wrap (m + (↑x.snd.fst : Int)) - (↑x.fst : Int)) + (↑x.fst : Int) ≤ (↑x.snd.snd.length : Int) ∧ x.snd.snd.length ≤ (1000 : Nat))) with | true => (∃ x' : Nat × Nat × List Int, ((((1 : Nat) ≤ x'.fst) ∧ ((x'.fst ≤ m.toNat) ∧ (((1 : Nat) ≤ x'.snd.fst) ∧ ((m.toNat + x'.snd.fst ≤ L.length) ∧ ((x'.snd.snd.length = L.length) ∧ (rotR (m.toNat - x'.fst) m.toNat (m.toNat + x'.snd.fst) x'.snd.snd = rotR a.toNat m.toNat b.toNat L)))))) ∧ ((x'.fst + x'.snd.fst < x.fst + x.snd.fst) ∧ ((True ∧ ((m = m) ∧ ((True ∧ True) ∧ (((↑x'.fst : Int) = (↑x.fst : Int)) ∧ (((↑x'.snd.fst : Int) = IntKind.i64.wrap ((↑x.snd.fst : Int) - (↑x.fst : Int))) ∧ True))))) ∧ ((x'.snd.snd = swpR (0 : Int) (IntKind.i64.wrap (m - (↑x.fst : Int))).toNat (IntKind.i64.wrap (IntKind.i64.wrap (m + (↑x.snd.fst : Int)) - (↑x.fst : Int))).toNat (↑x.fst : Int).toNat x.snd.snd) ∧ ((True ∧ True) ∧ ((True ∧ True) ∧ ((M = M) ∧ True)))))))) | false => False)) | false => (match (decide ((0 : Int) ≤ IntKind.i64.wrap (m - (↑x.fst : Int)) ∧ (0 : Int) ≤ (↑x.fst : Int) ∧ IntKind.i64.wrap (m - (↑x.fst : Int)) + (↑x.fst : Int) ≤ m ∧ m + (↑x.fst : Int) ≤ (↑x.snd.snd.length : Int) ∧ x.snd.snd.length ≤ (1000 : Nat))) with | true => ((True ∧ True) ∧ ((rotR a.toNat m.toNat b.toNat L = swpR (0 : Int) (IntKind.i64.wrap (m - (↑x.fst : Int))).toNat m.toNat (↑x.fst : Int).toNat x.snd.snd) ∧ ((True ∧ True) ∧ ((True ∧ True) ∧ ((M = M) ∧ True))))) | false => False)))))
theorem rotIVc (L : List Int) (M : CM) (a m b : Int) : fnX X4 (oneLoop 2 { σ := Nat × Nat × List Int, st := fun S x => (((S.keep [0, 2, 4]).int 10 x.1).int 11 x.2.1).at' 0 (.vec 0 x.2.2 3), inv := fun _ x => 1 ≤ x.1 ∧ x.1 ≤ m.toNat ∧ 1 ≤ x.2.1 ∧ m.toNat + x.2.1 ≤ L.length ∧ x.2.2.length = L.length ∧ rotR (m.toNat - x.1) m.toNat (m.toNat + x.2.1) x.2.2 = rotR a.toNat m.toNat b.toNat L, m := fun x => x.1 + x.2.1 }) Try.f77 [.own 0, .raw (.int .i64 a), .raw (.int .i64 m), .raw (.int .i64 b), .fn 38 [.ptr 1 0]] [.vec 0 L 3, .cells [.ptr 2 0] 24, .cells [.own 3] 51, .map 0 M] (ends [.vec 0 L 3, .cells [.ptr 2 0] 24, .cells [.own 3] 51, .map 0 M] ⟨some (.tup []), [(0, some (.vec 0 (rotR a.toNat m.toNat b.toNat L) 3)), (3, some (.map 0 M))]⟩) = rotIText L M a m b := by kernel_rfl
theorem rotIHolds (L : List Int) (M : CM) (a m b : Int) (hp : 0 ≤ a ∧ a < m ∧ m < b ∧ b ≤ L.length ∧ L.length ≤ 1000) : rotIText L M a m b := by
  unfold rotIText
  obtain ⟨p0, p1, p2, p3, p4⟩ := hp
  obtain ⟨a, rfl⟩ := Int.eq_ofNat_of_zero_le p0
  obtain ⟨m, rfl⟩ := Int.eq_ofNat_of_zero_le (show 0 ≤ m by omega)
  obtain ⟨b, rfl⟩ := Int.eq_ofNat_of_zero_le (show 0 ≤ b by omega)
  rw [Int.toNat_natCast, Int.toNat_natCast, Int.toNat_natCast]
  have hw1 : ((m - a : Nat) : Int) = IntKind.i64.wrap ((m : Int) - (a : Int)) := by rw [wrap_id (by omega) (by omega)]; omega
  have hw2 : ((b - m : Nat) : Int) = IntKind.i64.wrap ((b : Int) - (m : Int)) := by rw [wrap_id (by omega) (by omega)]; omega
  refine ⟨⟨(m - a, b - m, L), ⟨by dsimp only; omega, by dsimp only; omega, by dsimp only; omega, by dsimp only; omega, rfl, ?_⟩, by repeat' first | exact hw1 | exact hw2 | trivial | rfl | apply And.intro⟩, ?_⟩
  · dsimp only
    rw [show m - (m - a) = a by omega, show m + (b - m) = b by omega]
  rintro ⟨i, j, D⟩ ⟨h1, h2, h3, h4, h5, h6⟩
  dsimp only at h1 h2 h3 h4 h5 h6 ⊢
  have e1 : IntKind.i64.wrap ((m : Int) - (i : Int)) = ((m - i : Nat) : Int) := by rw [wrap_id (by omega) (by omega)]; omega
  rw [e1, Int.toNat_natCast, Int.toNat_natCast]
  by_cases c : i = j
  · subst c
    rw [show ((i : Int) != (i : Int)) = false by simp, decide_eq_true (show (0 : Int) ≤ ((m - i : Nat) : Int) ∧ 0 ≤ (i : Int) ∧ ((m - i : Nat) : Int) + (i : Int) ≤ (m : Int) ∧ (m : Int) + (i : Int) ≤ (D.length : Int) ∧ D.length ≤ 1000 by omega)]
    have e : rotR a m b L = swpR (0 : Int) (m - i) m i D := by rw [rot_same h2 (by omega)]; exact h6.symm
    repeat' first | exact e | trivial | rfl | apply And.intro
  · rw [show ((i : Int) != (j : Int)) = true by rw [bne_iff_ne]; omega]
    by_cases g : i > j
    · rw [show decide ((i : Int) > (j : Int)) = true from decide_eq_true (by omega), decide_eq_true (show (0 : Int) ≤ ((m - i : Nat) : Int) ∧ 0 ≤ (j : Int) ∧ ((m - i : Nat) : Int) + (j : Int) ≤ (m : Int) ∧ (m : Int) + (j : Int) ≤ (D.length : Int) ∧ D.length ≤ 1000 by omega), Int.toNat_natCast]
      have hw : ((i - j : Nat) : Int) = IntKind.i64.wrap ((i : Int) - (j : Int)) := by rw [wrap_id (by omega) (by omega)]; omega
      refine ⟨(i - j, j, swpR (0 : Int) (m - i) m j D), ⟨by dsimp only; omega, by dsimp only; omega, h3, h4, by rw [swpR_length]; exact h5, ?_⟩, by dsimp only; omega, ?_⟩
      · rw [← h6]
        exact rot_more g h2 (by omega)
      · repeat' first | exact hw | trivial | rfl | apply And.intro
    · have e2 : IntKind.i64.wrap (IntKind.i64.wrap ((m : Int) + (j : Int)) - (i : Int)) = ((m + j - i : Nat) : Int) := by rw [wrap_id (n := (m : Int) + (j : Int)) (by omega) (by omega), wrap_id (by omega) (by omega)]; omega
      rw [show decide ((i : Int) > (j : Int)) = false from decide_eq_false (by omega), e2, decide_eq_true (show (0 : Int) ≤ ((m - i : Nat) : Int) ∧ 0 ≤ (i : Int) ∧ ((m - i : Nat) : Int) + (i : Int) ≤ ((m + j - i : Nat) : Int) ∧ ((m + j - i : Nat) : Int) + (i : Int) ≤ (D.length : Int) ∧ D.length ≤ 1000 by omega), Int.toNat_natCast]
      have hw : ((j - i : Nat) : Int) = IntKind.i64.wrap ((j : Int) - (i : Int)) := by rw [wrap_id (by omega) (by omega)]; omega
      refine ⟨(i, j - i, swpR (0 : Int) (m - i) (m + j - i) i D), ⟨h1, h2, by dsimp only; omega, by dsimp only; omega, by rw [swpR_length]; exact h5, ?_⟩, by dsimp only; omega, ?_⟩
      · rw [← h6]
        exact rot_less (by omega) h2 (by omega)
      · repeat' first | exact hw | trivial | rfl | apply And.intro
noncomputable def rotICon : Con T O := fun args cs => match args, cs with
  | [.own 0, .raw (.int .i64 a), .raw (.int .i64 m), .raw (.int .i64 b), .fn 38 [.ptr 1 0]], [.vec 0 L 3, .cells [.ptr 2 0] 24, .cells [.own 3] 51, .map 0 M] => chk (decide (0 ≤ a ∧ a < m ∧ m < b ∧ b ≤ L.length ∧ L.length ≤ 1000)) (.ret ⟨some (.tup []), [(0, some (.vec 0 (rotR a.toNat m.toNat b.toNat L) 3)), (3, some (.map 0 M))]⟩)
  | _, _ => .fail
theorem rotIOk : ConOk R Try.prog 77 rotICon := con_of_fn R (X4) (TabOk.con R X4Ok) mixed Try.call77 Try.func77 rotICon (by
  intro args cs K h
  unfold rotICon at h
  split at h
  · rename_i a m b L M
    rw [Tree.holds_chk] at h
    obtain ⟨hp, h⟩ := h
    refine ⟨oneLoop 2 { σ := Nat × Nat × List Int, st := fun S x => (((S.keep [0, 2, 4]).int 10 x.1).int 11 x.2.1).at' 0 (.vec 0 x.2.2 3), inv := fun _ x => 1 ≤ x.1 ∧ x.1 ≤ m.toNat ∧ 1 ≤ x.2.1 ∧ m.toNat + x.2.1 ≤ L.length ∧ x.2.2.length = L.length ∧ rotR (m.toNat - x.1) m.toNat (m.toNat + x.2.1) x.2.2 = rotR a.toNat m.toNat b.toNat L, m := fun x => x.1 + x.2.1 }, _, fun v S hv => ⟨_, h, hv⟩, ?_⟩
    rw [rotIVc L M a m b]
    exact rotIHolds L M a m b (of_decide_eq_true hp)
  · exact h.elim)
noncomputable def tab5 : Tab T O := (77, rotICon) :: tab4
theorem tabOk5 : TabOk R Try.prog tab5 := TabOk.cons R rotIOk <| tabOk4
noncomputable def X5 : Ctx T O := { X0 with con := conOf tab5 }
theorem X5Ok : TabOk R X5.P tab5 := tabOk5
end Go.Proofs.Ythfggjfpokknlaa
