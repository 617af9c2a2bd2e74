/-
  Part of a proof over the seat Ytjhkokdcjikkiaa: printed by a small program or typed by hand.
-/
import Derived.Test.YtjhkokdcjikkiaaPrioS3
import Derived.KernelRfl
namespace Go.Proofs.Ytjhkokdcjikkiaa
open Go.Sx Go.Proofs Classical

abbrev ez : Ent := entE.zero
/-- the element at j goes down as far as it goes -/
def insI : List Ent → Nat → List Ent
  | L, 0 => L
  | L, j + 1 => bif decide (prioOrder (at' ez L ((j + 1 : Nat) : Int)) (at' ez L (j : Int)) < 0) then insI ((L.set (j + 1) (at' ez L (j : Int))).set j (at' ez L ((j + 1 : Nat) : Int))) j else L
def isortN (L : List Ent) : Nat → List Ent
  | 0 => L
  | k + 1 => insI (isortN L k) k
theorem insI_length : ∀ (j : Nat) (L : List Ent), (insI L j).length = L.length
  | 0, _ => rfl
  | j + 1, L => by
    simp only [insI]
    cases decide (prioOrder (at' ez L ((j + 1 : Nat) : Int)) (at' ez L (j : Int)) < 0)
    · rfl
    · rw [cond_true, insI_length j]
      simp
theorem isortN_length (L : List Ent) : ∀ k, (isortN L k).length = L.length
  | 0 => rfl
  | k + 1 => by rw [isortN, insI_length, isortN_length L k]

/-! ### regatta/prio.Less -/
def prioLess (a0 : Ent) (a1 : Ent) : Bool := (decide (prioOrder a0 a1 < (0 : Int)))
noncomputable def prioLessCon : Con T O := fun args cs => match args, cs with
  | [.agg [.raw (.int .i64 a0_0), .raw (.int .i64 a0_1), .raw (.int .i64 a0_2), .raw (.int .i64 a0_3), .raw (.int .i64 a0_4), .raw (.int .i64 a0_5)], .agg [.raw (.int .i64 a1_0), .raw (.int .i64 a1_1), .raw (.int .i64 a1_2), .raw (.int .i64 a1_3), .raw (.int .i64 a1_4), .raw (.int .i64 a1_5)]], [] => retv (.raw (.bool (prioLess (⟨a0_0, a0_1, a0_2, a0_3, a0_4, a0_5⟩ : Ent) (⟨a1_0, a1_1, a1_2, a1_3, a1_4, a1_5⟩ : Ent))))
  | _, _ => .fail
theorem prioLessVc (a0 : Ent) (a1 : Ent) : fnX X3 noAnn Try.f10 [.agg [.raw (.int .i64 a0.ID), .raw (.int .i64 a0.SubIndex), .raw (.int .i64 a0.SubRelease), .raw (.int .i64 a0.SubDeadline), .raw (.int .i64 a0.SubBit), .raw (.int .i64 a0.SubGroup)], .agg [.raw (.int .i64 a1.ID), .raw (.int .i64 a1.SubIndex), .raw (.int .i64 a1.SubRelease), .raw (.int .i64 a1.SubDeadline), .raw (.int .i64 a1.SubBit), .raw (.int .i64 a1.SubGroup)]] [] (ends [] ⟨some (.raw (.bool (prioLess a0 a1))), []⟩) = (((prioLess a0 a1 = (decide (prioOrder a0 a1 < (0 : Int)))) ∧ True) ∧ True) := by kernel_rfl
theorem prioLessOk : ConOk R Try.prog 10 prioLessCon := con_of_fn R X3 (TabOk.con R X3Ok) mixed Try.call10 Try.func10 prioLessCon (by
  intro args cs K h
  unfold prioLessCon at h
  split at h
  · rename_i a0_0 a0_1 a0_2 a0_3 a0_4 a0_5 a1_0 a1_1 a1_2 a1_3 a1_4 a1_5
    refine ⟨noAnn, _, fun v S hv => ⟨_, h, hv⟩, ?_⟩
    rw [prioLessVc (⟨a0_0, a0_1, a0_2, a0_3, a0_4, a0_5⟩ : Ent) (⟨a1_0, a1_1, a1_2, a1_3, a1_4, a1_5⟩ : Ent)]
    unfold prioLess
    exact ⟨⟨rfl, trivial⟩, trivial⟩
  · exact h.elim)
/-! ### slices.insertionSortCmpFunc[regatta/api.Entry] -/
def insSortK0Text (L : List Ent) (b : Int) : Prop := ((∃ x : Nat × List Ent, ((((1 : Nat) ≤ x.fst) ∧ ((x.fst ≤ b.toNat ∨ x.fst = (1 : Nat)) ∧ (x.snd = isortN L (min x.fst b.toNat)))) ∧ ((True ∧ (((0 : Int) = (0 : Int)) ∧ ((b = b) ∧ (True ∧ (((↑x.fst : Int) = IntKind.i64.wrap ((0 : Int) + (1 : Int))) ∧ True))))) ∧ ((x.snd = L) ∧ True)))) ∧ (∀ x : Nat × List Ent, ((((1 : Nat) ≤ x.fst) ∧ ((x.fst ≤ b.toNat ∨ x.fst = (1 : Nat)) ∧ (x.snd = isortN L (min x.fst b.toNat)))) → (match (decide ((↑x.fst : Int) < b)) with | true => ((∃ x1 : Nat × List Ent, (((x1.fst ≤ (↑x.fst : Int).toNat) ∧ ((x1.snd.length = L.length) ∧ (insI x1.snd x1.fst = insI x.snd (↑x.fst : Int).toNat))) ∧ ((True ∧ (((0 : Int) = (0 : Int)) ∧ ((b = b) ∧ (True ∧ (((↑x.fst : Int) = (↑x.fst : Int)) ∧ (((↑x1.fst : Int) = (↑x.fst : Int)) ∧ True)))))) ∧ ((x1.snd = x.snd) ∧ True)))) ∧ (∀ x1 : Nat × List Ent, (((x1.fst ≤ (↑x.fst : Int).toNat) ∧ ((x1.snd.length = L.length) ∧ (insI x1.snd x1.fst = insI x.snd (↑x.fst : Int).toNat))) → (match (decide ((↑x1.fst : Int) > (0 : Int))) with | true => (match (inb (↑x1.fst : Int) x1.snd.length) with | true => (match (inb (↑x1.fst : Int) x1.snd.length) with | true => (match (inb (IntKind.i64.wrap ((↑x1.fst : Int) - (1 : Int))) x1.snd.length) with | true => (match (inb (IntKind.i64.wrap ((↑x1.fst : Int) - (1 : Int))) x1.snd.length) with | true => (match (decide (prioOrder (at' entE.zero x1.snd (↑x1.fst : Int)) (at' entE.zero x1.snd (IntKind.i64.wrap ((↑x1.fst : Int) - (1 : Int)))) < (0 : Int))) with | true => (match (inb (IntKind.i64.wrap ((↑x1.fst : Int) - (1 : Int))) x1.snd.length) with | true => (match (inb (IntKind.i64.wrap ((↑x1.fst : Int) - (1 : Int))) x1.snd.length) with | true => (match (inb (↑x1.fst : Int) x1.snd.length) with | true => (match (inb (↑x1.fst : Int) x1.snd.length) with | true => (match (inb (↑x1.fst : Int) x1.snd.length) with | true => (match (inb (↑x1.fst : Int) x1.snd.length) with | true => (match (inb (IntKind.i64.wrap ((↑x1.fst : Int) - (1 : Int))) (x1.snd.set (↑x1.fst : Int).toNat (at' entE.zero x1.snd (IntKind.i64.wrap ((↑x1.fst : Int) - (1 : Int))))).length) with | true => (match (inb (IntKind.i64.wrap ((↑x1.fst : Int) - (1 : Int))) (x1.snd.set (↑x1.fst : Int).toNat (at' entE.zero x1.snd (IntKind.i64.wrap ((↑x1.fst : Int) - (1 : Int))))).length) with | true => (∃ x' : Nat × List Ent, (((x'.fst ≤ (↑x.fst : Int).toNat) ∧ ((x'.snd.length = L.length) ∧ (insI x'.snd x'.fst = insI x.snd (↑x.fst : Int).toNat))) ∧ ((x'.fst < x1.fst) ∧ ((True ∧ (((0 : Int) = (0 : Int)) ∧ ((b = b) ∧ (True ∧ (((↑x.fst : Int) = (↑x.fst : Int)) ∧ (((↑x'.fst : Int) = IntKind.i64.wrap ((↑x1.fst : Int) - (1 : Int))) ∧ True)))))) ∧ ((x'.snd = (x1.snd.set (↑x1.fst : Int).toNat (at' entE.zero x1.snd (IntKind.i64.wrap ((↑x1.fst : Int) - (1 : Int))))).set (IntKind.i64.wrap ((↑x1.fst : Int) - (1 : Int))).toNat (at' entE.zero x1.snd (↑x1.fst : Int))) ∧ True))))) | false => False) | false => False) | false => False) | false => False) | false => False) | false => False) | false => False) | false => False) | false => (∃ x' : Nat × List Ent, ((((1 : Nat) ≤ x'.fst) ∧ ((x'.fst ≤ b.toNat ∨ x'.fst = (1 : Nat)) ∧ (x'.snd = isortN L (min x'.fst b.toNat)))) ∧ (((1001 : Nat) - x'.fst < (1001 : Nat) - x.fst) ∧ ((True ∧ (((0 : Int) = (0 : Int)) ∧ ((b = b) ∧ (True ∧ (((↑x'.fst : Int) = IntKind.i64.wrap ((↑x.fst : Int) + (1 : Int))) ∧ True))))) ∧ ((x'.snd = x1.snd) ∧ True)))))) | false => False) | false => False) | false => False) | false => False) | false => (∃ x' : Nat × List Ent, ((((1 : Nat) ≤ x'.fst) ∧ ((x'.fst ≤ b.toNat ∨ x'.fst = (1 : Nat)) ∧ (x'.snd = isortN L (min x'.fst b.toNat)))) ∧ (((1001 : Nat) - x'.fst < (1001 : Nat) - x.fst) ∧ ((True ∧ (((0 : Int) = (0 : Int)) ∧ ((b = b) ∧ (True ∧ (((↑x'.fst : Int) = IntKind.i64.wrap ((↑x.fst : Int) + (1 : Int))) ∧ True))))) ∧ ((x'.snd = x1.snd) ∧ True))))))))) | false => ((True ∧ True) ∧ ((isortN L b.toNat = x.snd) ∧ True))))))
theorem insSortK0Vc (L : List Ent) (b : Int) : fnX X3 (annOf [(1, { σ := Nat × List Ent, st := fun S x => ((S.keep [0, 1, 2, 3]).int 8 x.1).at' 0 (.vec 2 x.2 25), inv := fun _ x => 1 ≤ x.1 ∧ (x.1 ≤ b.toNat ∨ x.1 = 1) ∧ x.2 = isortN L (min x.1 b.toNat) , m := fun x => 1001 - x.1 }), (4, { σ := Nat × List Ent, st := fun S x => ((S.keep [0, 1, 2, 3, 8]).int 9 x.1).at' 0 (.vec 2 x.2 25), inv := fun S x => x.1 ≤ (S.gi 8).toNat ∧ x.2.length = L.length ∧ insI x.2 x.1 = insI (S.gv 0 2) (S.gi 8).toNat, m := fun x => x.1 })] []) Try.f46 [.own 0, .raw (.int .i64 0), .raw (.int .i64 b), .fn 22 []] [.vec 2 L 25] (ends [.vec 2 L 25] ⟨some (.tup []), [(0, some (.vec 2 (isortN L b.toNat) 25))]⟩) = insSortK0Text L b := by kernel_rfl
theorem insSortK0Holds (L : List Ent) (b : Int) (hp : 0 ≤ b ∧ b ≤ L.length ∧ L.length ≤ 1000) : insSortK0Text L b := by
  unfold insSortK0Text
  obtain ⟨p0, p1, p2⟩ := hp
  obtain ⟨n, rfl⟩ := Int.eq_ofNat_of_zero_le p0
  rw [Int.toNat_natCast]
  refine ⟨⟨(1, L), ⟨Nat.le_refl _, .inr rfl, ?_⟩, by repeat' first | trivial | rfl | apply And.intro⟩, ?_⟩
  · have : min 1 n = 0 ∨ min 1 n = 1 := by omega
    rcases this with h | h <;> rw [h] <;> rfl
  rintro ⟨x, M⟩ ⟨h1, h2, h3⟩
  dsimp only at h1 h2 h3 ⊢
  rw [Int.toNat_natCast]
  by_cases c : x < n
  · have hwx : ((x + 1 : Nat) : Int) = IntKind.i64.wrap ((x : Int) + (1 : Int)) := by rw [wrap_id (by omega) (by omega)]; rfl
    rw [show min x n = x by omega] at h3
    have hM : M.length = L.length := by rw [h3, isortN_length]
    rw [show decide ((x : Int) < (n : Int)) = true from decide_eq_true (by omega)]
    refine ⟨⟨(x, M), ⟨Nat.le_refl _, hM, rfl⟩, by repeat' first | trivial | rfl | apply And.intro⟩, ?_⟩
    have fin : ∀ N, N = insI M x → N = isortN L (min (x + 1) n) := by
      intro N e
      rw [show min (x + 1) n = x + 1 by omega, isortN, ← h3]
      exact e
    rintro ⟨y, N⟩ ⟨k1, k2, k3⟩
    dsimp only at k1 k2 k3 ⊢
    cases y with
    | zero =>
      rw [show decide (((0 : Nat) : Int) > 0) = false from rfl]
      refine ⟨(x + 1, N), ⟨by dsimp only; omega, .inl (by dsimp only; omega), fin N k3⟩, by dsimp only; omega, ?_⟩
      repeat' first | exact hwx | trivial | rfl | apply And.intro
    | succ z =>
      have hz : z + 1 < N.length := by omega
      have hwz : IntKind.i64.wrap (((z + 1 : Nat) : Int) - 1) = (z : Int) := by rw [wrap_id (by omega) (by omega)]; omega
      rw [show decide (((z + 1 : Nat) : Int) > 0) = true from decide_eq_true (by omega), hwz, inb_nat hz, inb_nat (show z < N.length by omega), List.length_set, inb_nat (show z < N.length by omega)]
      simp only [insI] at k3
      cases ho : decide (prioOrder (at' entE.zero N ((z + 1 : Nat) : Int)) (at' entE.zero N (z : Int)) < 0)
      · rw [ho] at k3
        refine ⟨(x + 1, N), ⟨by dsimp only; omega, .inl (by dsimp only; omega), fin N k3⟩, by dsimp only; omega, ?_⟩
        repeat' first | exact hwx | trivial | rfl | apply And.intro
      · rw [ho] at k3
        rw [Int.toNat_natCast, Int.toNat_natCast]
        refine ⟨(z, (N.set (z + 1) (at' entE.zero N (z : Int))).set z (at' entE.zero N ((z + 1 : Nat) : Int))), ⟨by dsimp only; omega, by dsimp only; rw [List.length_set, List.length_set]; exact k2, k3⟩, by dsimp only; omega, ?_⟩
        repeat' first | trivial | rfl | apply And.intro
  · rw [show decide ((x : Int) < (n : Int)) = false from decide_eq_false (by omega)]
    have hx : isortN L n = M := by rw [h3, show min x n = n by omega]
    repeat' first | exact hx | trivial | rfl | apply And.intro
def insSortK1Text (L : List Ent) (b : Int) : Prop := (match (decide (IntKind.i64.wrap ((20 : Int) + (1 : Int)) < b)) with | true => False | false => ((True ∧ True) ∧ ((L = L) ∧ True)))
theorem insSortK1Vc (L : List Ent) (b : Int) : fnX X3 (annOf [] [(1, 1)]) Try.f46 [.own 0, .raw (.int .i64 20), .raw (.int .i64 b), .fn 22 []] [.vec 2 L 25] (ends [.vec 2 L 25] ⟨some (.tup []), [(0, some (.vec 2 L 25))]⟩) = insSortK1Text L b := by kernel_rfl
theorem insSortK1Holds (L : List Ent) (b : Int) (hp : b = 20) : insSortK1Text L b := by
  unfold insSortK1Text
  subst hp
  repeat' first | trivial | rfl | apply And.intro
noncomputable def insSortCon : Con T O := fun args cs => match args, cs with
  | [.own 0, .raw (.int .i64 0), .raw (.int .i64 b), .fn 22 []], [.vec 2 L 25] => chk (decide (0 ≤ b ∧ b ≤ L.length ∧ L.length ≤ 1000)) (.ret ⟨some (.tup []), [(0, some (.vec 2 (isortN L b.toNat) 25))]⟩)
  | [.own 0, .raw (.int .i64 20), .raw (.int .i64 b), .fn 22 []], [.vec 2 L 25] => chk (decide (b = 20)) (.ret ⟨some (.tup []), [(0, some (.vec 2 L 25))]⟩)
  | _, _ => .fail
theorem insSortOk : ConOk R Try.prog 46 insSortCon := con_of_fn R (X3) (TabOk.con R X3Ok) mixed Try.call46 Try.func46 insSortCon (by
  intro args cs K h
  unfold insSortCon at h
  split at h
  · rename_i b L
    rw [Tree.holds_chk] at h
    obtain ⟨hp, h⟩ := h
    refine ⟨annOf [(1, { σ := Nat × List Ent, st := fun S x => ((S.keep [0, 1, 2, 3]).int 8 x.1).at' 0 (.vec 2 x.2 25), inv := fun _ x => 1 ≤ x.1 ∧ (x.1 ≤ b.toNat ∨ x.1 = 1) ∧ x.2 = isortN L (min x.1 b.toNat) , m := fun x => 1001 - x.1 }), (4, { σ := Nat × List Ent, st := fun S x => ((S.keep [0, 1, 2, 3, 8]).int 9 x.1).at' 0 (.vec 2 x.2 25), inv := fun S x => x.1 ≤ (S.gi 8).toNat ∧ x.2.length = L.length ∧ insI x.2 x.1 = insI (S.gv 0 2) (S.gi 8).toNat, m := fun x => x.1 })] [], _, fun v S hv => ⟨_, h, hv⟩, ?_⟩
    rw [insSortK0Vc L b]
    exact insSortK0Holds L b (of_decide_eq_true hp)
  · rename_i b L
    rw [Tree.holds_chk] at h
    obtain ⟨hp, h⟩ := h
    refine ⟨annOf [] [(1, 1)], _, fun v S hv => ⟨_, h, hv⟩, ?_⟩
    rw [insSortK1Vc L b]
    exact insSortK1Holds L b (of_decide_eq_true hp)
  · exact h.elim)
noncomputable def tab4 : Tab T O := (10, prioLessCon) :: (46, insSortCon) :: tab3
theorem tabOk4 : TabOk R Try.prog tab4 := TabOk.cons R prioLessOk <| TabOk.cons R insSortOk <| tabOk3
noncomputable def X4 : Ctx T O := { X0 with con := conOf tab4 }
theorem X4Ok : TabOk R X4.P tab4 := tabOk4
end Go.Proofs.Ytjhkokdcjikkiaa
