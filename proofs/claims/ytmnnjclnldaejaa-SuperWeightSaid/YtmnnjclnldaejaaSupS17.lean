/-
  Part of a proof over the seat Ytmnnjclnldaejaa: printed by a small program or typed by hand.
-/
import Derived.Test.YtmnnjclnldaejaaSupS16
import Derived.KernelRfl
namespace Go.Proofs.Ytmnnjclnldaejaa
open Go.Sx Go.Proofs Classical
/-! ### regatta/exact.Mul -/
def xMulText (a b : Int) : Prop := (match (decide ((0 : Int) ≤ a ∧ a ≤ (9223372036854775807 : Int))) with | true => (match (decide ((0 : Int) ≤ b ∧ b ≤ (9223372036854775807 : Int))) with | true => (match (decide ((0 : Int) ≤ a ∧ a < (18446744073709551616 : Int) ∧ (0 : Int) ≤ b ∧ b < (18446744073709551616 : Int))) with | true => (match (decide (a < (0 : Int)) != decide (b < (0 : Int))) with | true => (match (a * b / (18446744073709551616 : Int) != (0 : Int)) with | true => ((((mulV a b = (0 : Int)) ∧ ((mulE a b = (16 : Int)) ∧ True)) ∧ True) ∧ True) | false => (match (decide (a * b % (18446744073709551616 : Int) > IntKind.u64.wrap ((9223372036854775807 : Int) + (1 : Int)))) with | true => ((((mulV a b = (0 : Int)) ∧ ((mulE a b = (16 : Int)) ∧ True)) ∧ True) ∧ True) | false => (match (decide (a < (0 : Int)) != decide (b < (0 : Int))) with | true => ((((mulV a b = IntKind.i64.wrap (IntKind.u64.wrap ((0 : Int) - a * b % (18446744073709551616 : Int)))) ∧ ((mulE a b = (0 : Int)) ∧ True)) ∧ True) ∧ True) | false => ((((mulV a b = IntKind.i64.wrap (a * b % (18446744073709551616 : Int))) ∧ ((mulE a b = (0 : Int)) ∧ True)) ∧ True) ∧ True)))) | false => (match (a * b / (18446744073709551616 : Int) != (0 : Int)) with | true => ((((mulV a b = (0 : Int)) ∧ ((mulE a b = (16 : Int)) ∧ True)) ∧ True) ∧ True) | false => (match (decide (a * b % (18446744073709551616 : Int) > (9223372036854775807 : Int))) with | true => ((((mulV a b = (0 : Int)) ∧ ((mulE a b = (16 : Int)) ∧ True)) ∧ True) ∧ True) | false => (match (decide (a < (0 : Int)) != decide (b < (0 : Int))) with | true => ((((mulV a b = IntKind.i64.wrap (IntKind.u64.wrap ((0 : Int) - a * b % (18446744073709551616 : Int)))) ∧ ((mulE a b = (0 : Int)) ∧ True)) ∧ True) ∧ True) | false => ((((mulV a b = IntKind.i64.wrap (a * b % (18446744073709551616 : Int))) ∧ ((mulE a b = (0 : Int)) ∧ True)) ∧ True) ∧ True))))) | false => False) | false => False) | false => False)
theorem xMulVc (a b : Int) : fnX X16 (noAnn) Try.f69 [.raw (.int .i64 a), .raw (.int .i64 b)] [] (ends [] ⟨some (.tup [.raw (.int .i64 (mulV a b)), .raw (.int .i64 (mulE a b))]), []⟩) = xMulText a b := by kernel_rfl
theorem xMulHolds (a b : Int) (hp : 0 ≤ a ∧ a ≤ 9223372036854775807 ∧ 0 ≤ b ∧ b ≤ 9223372036854775807) : xMulText a b := by
  unfold xMulText
  obtain ⟨h0, h1, h2, h3⟩ := hp
  have hm := Int.mul_nonneg h0 h2
  rw [decide_eq_true (⟨h0, h1⟩ : 0 ≤ a ∧ a ≤ 9223372036854775807), decide_eq_true (⟨h2, h3⟩ : 0 ≤ b ∧ b ≤ 9223372036854775807), decide_eq_true (show 0 ≤ a ∧ a < 18446744073709551616 ∧ 0 ≤ b ∧ b < 18446744073709551616 by omega), show decide (a < 0) = false from decide_eq_false (by omega), show decide (b < 0) = false from decide_eq_false (by omega), show (false != false) = false from rfl]
  by_cases h : a * b ≤ 9223372036854775807
  · obtain ⟨e1, e2⟩ := mulE_ok h
    rw [e1, e2]
    generalize a * b = p at *
    have e3 : p = IntKind.i64.wrap (p % 18446744073709551616) := by rw [wrap_id (by omega) (by omega)]; omega
    rw [show (p / 18446744073709551616 != 0) = false by rw [bne_eq_false_iff_eq]; omega, show decide (p % 18446744073709551616 > 9223372036854775807) = false from decide_eq_false (by omega)]
    repeat' first | apply And.intro | exact e3 | exact True.intro | exact rfl
  · obtain ⟨e1, e2⟩ := mulE_no h
    rw [e1, e2]
    generalize a * b = p at *
    by_cases g : p / 18446744073709551616 = 0
    · rw [show (p / 18446744073709551616 != 0) = false by rw [bne_eq_false_iff_eq]; exact g, show decide (p % 18446744073709551616 > 9223372036854775807) = true from decide_eq_true (by omega)]
      repeat' first | apply And.intro | exact True.intro | exact rfl
    · rw [show (p / 18446744073709551616 != 0) = true from bne_iff_ne.2 g]
      repeat' first | apply And.intro | exact True.intro | exact rfl
noncomputable def xMulCon : Con T O := fun args cs => match args, cs with
  | [.raw (.int .i64 a), .raw (.int .i64 b)], [] => chk (decide (0 ≤ a ∧ a ≤ 9223372036854775807 ∧ 0 ≤ b ∧ b ≤ 9223372036854775807)) (.ret ⟨some (.tup [.raw (.int .i64 (mulV a b)), .raw (.int .i64 (mulE a b))]), []⟩)
  | _, _ => .fail
theorem xMulOk : ConOk R Try.prog 69 xMulCon := con_of_fn R (X16) (TabOk.con R X16Ok) mixed Try.call69 Try.func69 xMulCon (by
  intro args cs K h
  unfold xMulCon at h
  split at h
  · rename_i a b
    rw [Tree.holds_chk] at h
    obtain ⟨hp, h⟩ := h
    refine ⟨noAnn, _, fun v S hv => ⟨_, h, hv⟩, ?_⟩
    rw [xMulVc a b]
    exact xMulHolds a b (of_decide_eq_true hp)
  · exact h.elim)
/-! ### regatta/regattaref01.Lcm -/
def yLcmK0Text (L : List Int) : Prop := ((∃ x : Int × Nat, ((lcmI L x.fst x.snd) ∧ ((True ∧ ((x.fst = (1 : Int)) ∧ (((↑x.snd : Int) = (0 : Int)) ∧ True))) ∧ ((L = L) ∧ True)))) ∧ (∀ x : Int × Nat, ((lcmI L x.fst x.snd) → (match (decide ((↑x.snd : Int) < (↑L.length : Int))) with | true => (match (inb (↑x.snd : Int) L.length) with | true => (match (inb (↑x.snd : Int) L.length) with | true => (match (decide (at' (0 : Int) L (↑x.snd : Int) < (1 : Int))) with | true => ((((lcmV (lcmG (1 : Int) L) = (0 : Int)) ∧ ((lcmE (lcmG (1 : Int) L) = (1 : Int)) ∧ True)) ∧ True) ∧ ((L = L) ∧ True)) | false => (match (inb (↑x.snd : Int) L.length) with | true => (match (inb (↑x.snd : Int) L.length) with | true => (match (decide ((0 : Int) ≤ x.fst ∧ x.fst ≤ (9223372036854775807 : Int) ∧ (0 : Int) ≤ at' (0 : Int) L (↑x.snd : Int) ∧ at' (0 : Int) L (↑x.snd : Int) ≤ (9223372036854775807 : Int))) with | true => (match (gcdI x.fst (at' (0 : Int) L (↑x.snd : Int)) != (0 : Int)) with | true => (match (inb (↑x.snd : Int) L.length) with | true => (match (inb (↑x.snd : Int) L.length) with | true => (match (decide ((0 : Int) ≤ IntKind.i64.wrap (x.fst.tdiv (gcdI x.fst (at' (0 : Int) L (↑x.snd : Int)))) ∧ IntKind.i64.wrap (x.fst.tdiv (gcdI x.fst (at' (0 : Int) L (↑x.snd : Int)))) ≤ (9223372036854775807 : Int) ∧ (0 : Int) ≤ at' (0 : Int) L (↑x.snd : Int) ∧ at' (0 : Int) L (↑x.snd : Int) ≤ (9223372036854775807 : Int))) with | true => (match (mulE (IntKind.i64.wrap (x.fst.tdiv (gcdI x.fst (at' (0 : Int) L (↑x.snd : Int))))) (at' (0 : Int) L (↑x.snd : Int)) != (0 : Int)) with | true => ((((lcmV (lcmG (1 : Int) L) = (0 : Int)) ∧ ((lcmE (lcmG (1 : Int) L) = mulE (IntKind.i64.wrap (x.fst.tdiv (gcdI x.fst (at' (0 : Int) L (↑x.snd : Int))))) (at' (0 : Int) L (↑x.snd : Int))) ∧ True)) ∧ True) ∧ ((L = L) ∧ True)) | false => (∃ x' : Int × Nat, ((lcmI L x'.fst x'.snd) ∧ ((L.length - x'.snd < L.length - x.snd) ∧ ((True ∧ ((x'.fst = mulV (IntKind.i64.wrap (x.fst.tdiv (gcdI x.fst (at' (0 : Int) L (↑x.snd : Int))))) (at' (0 : Int) L (↑x.snd : Int))) ∧ (((↑x'.snd : Int) = IntKind.i64.wrap ((↑x.snd : Int) + (1 : Int))) ∧ True))) ∧ ((L = L) ∧ True)))))) | false => False) | false => False) | false => False) | false => False) | false => False) | false => False) | false => False)) | false => False) | false => False) | false => ((((lcmV (lcmG (1 : Int) L) = x.fst) ∧ ((lcmE (lcmG (1 : Int) L) = (0 : Int)) ∧ True)) ∧ True) ∧ ((L = L) ∧ True))))))
theorem yLcmK0Vc (L : List Int) : fnX X16 (oneLoop 3 { σ := Int × Nat, st := fun S x => ((S.keep [0]).int 4 x.1).int 5 x.2, inv := fun _ x => lcmI L x.1 x.2, m := fun x => L.length - x.2 }) Try.f57 [.own 0] [.vec 0 L 2] (ends [.vec 0 L 2] ⟨some (.tup [.raw (.int .i64 (lcmV (lcmG 1 L))), .raw (.int .i64 (lcmE (lcmG 1 L)))]), [(0, some (.vec 0 L 2))]⟩) = yLcmK0Text L := by kernel_rfl
theorem yLcmK0Holds (L : List Int) (hp : Ones L ∧ L.length ≤ 100000) : yLcmK0Text L := by
  unfold yLcmK0Text
  obtain ⟨hO, hl⟩ := hp
  refine ⟨⟨(1, 0), lcmI.init L, by repeat' first | trivial | rfl | apply And.intro⟩, ?_⟩
  rintro ⟨m, x⟩ hi
  dsimp only at hi ⊢
  by_cases h : x < L.length
  · obtain ⟨o1, o2, g1, q1, q2, p1, hc⟩ := hi.step hO h
    have hlo := hi.lo
    have hhi := hi.hi
    have hwx := wrap_succ h (show L.length ≤ 140737488355328 by omega)
    rw [dec_lt h, inb_nat h, at_nat h, decide_eq_false (show ¬ L[x] < 1 by omega), show (gcdI m L[x] != 0) = true from bne_iff_ne.2 (by omega), Int.tdiv_eq_ediv_of_nonneg (show 0 ≤ m by omega), wrap_id (n := m / gcdI m L[x]) (by omega) q2, decide_eq_true (show 0 ≤ m ∧ m ≤ 9223372036854775807 ∧ 0 ≤ L[x] ∧ L[x] ≤ 9223372036854775807 by omega), decide_eq_true (show 0 ≤ m / gcdI m L[x] ∧ m / gcdI m L[x] ≤ 9223372036854775807 ∧ 0 ≤ L[x] ∧ L[x] ≤ 9223372036854775807 by omega)]
    rcases hc with ⟨c1, c2⟩ | ⟨c1, c2⟩
    · obtain ⟨e1, e2⟩ := mulE_ok c1
      rw [e1, e2, show ((0 : Int) != 0) = false from rfl]
      refine ⟨(m / gcdI m L[x] * L[x], x + 1), c2, by dsimp only; omega, ?_⟩
      repeat' first | exact hwx.symm | trivial | rfl | apply And.intro
    · obtain ⟨e1, e2⟩ := mulE_no c1
      rw [e1, c2, show ((16 : Int) != 0) = true from rfl]
      repeat' first | trivial | rfl | apply And.intro
  · rw [dec_ge (by omega : L.length ≤ x), hi.done (by omega)]
    repeat' first | trivial | rfl | apply And.intro
def yLcmK1Text (L : List Int) : Prop := ((∃ x : Int × Nat, ((lcmI L x.fst x.snd) ∧ ((True ∧ ((x.fst = (1 : Int)) ∧ (((↑x.snd : Int) = (0 : Int)) ∧ True))) ∧ ((L = L) ∧ True)))) ∧ (∀ x : Int × Nat, ((lcmI L x.fst x.snd) → (match (decide ((↑x.snd : Int) < (↑L.length : Int))) with | true => (match (inb (↑x.snd : Int) L.length) with | true => (match (inb (↑x.snd : Int) L.length) with | true => (match (decide (at' (0 : Int) L (↑x.snd : Int) < (1 : Int))) with | true => ((((lcmV (lcmG (1 : Int) L) = (0 : Int)) ∧ ((lcmE (lcmG (1 : Int) L) = (1 : Int)) ∧ True)) ∧ True) ∧ ((L = L) ∧ True)) | false => (match (inb (↑x.snd : Int) L.length) with | true => (match (inb (↑x.snd : Int) L.length) with | true => (match (decide ((0 : Int) ≤ x.fst ∧ x.fst ≤ (9223372036854775807 : Int) ∧ (0 : Int) ≤ at' (0 : Int) L (↑x.snd : Int) ∧ at' (0 : Int) L (↑x.snd : Int) ≤ (9223372036854775807 : Int))) with | true => (match (gcdI x.fst (at' (0 : Int) L (↑x.snd : Int)) != (0 : Int)) with | true => (match (inb (↑x.snd : Int) L.length) with | true => (match (inb (↑x.snd : Int) L.length) with | true => (match (decide ((0 : Int) ≤ IntKind.i64.wrap (x.fst.tdiv (gcdI x.fst (at' (0 : Int) L (↑x.snd : Int)))) ∧ IntKind.i64.wrap (x.fst.tdiv (gcdI x.fst (at' (0 : Int) L (↑x.snd : Int)))) ≤ (9223372036854775807 : Int) ∧ (0 : Int) ≤ at' (0 : Int) L (↑x.snd : Int) ∧ at' (0 : Int) L (↑x.snd : Int) ≤ (9223372036854775807 : Int))) with | true => (match (mulE (IntKind.i64.wrap (x.fst.tdiv (gcdI x.fst (at' (0 : Int) L (↑x.snd : Int))))) (at' (0 : Int) L (↑x.snd : Int)) != (0 : Int)) with | true => ((((lcmV (lcmG (1 : Int) L) = (0 : Int)) ∧ ((lcmE (lcmG (1 : Int) L) = mulE (IntKind.i64.wrap (x.fst.tdiv (gcdI x.fst (at' (0 : Int) L (↑x.snd : Int))))) (at' (0 : Int) L (↑x.snd : Int))) ∧ True)) ∧ True) ∧ ((L = L) ∧ True)) | false => (∃ x' : Int × Nat, ((lcmI L x'.fst x'.snd) ∧ ((L.length - x'.snd < L.length - x.snd) ∧ ((True ∧ ((x'.fst = mulV (IntKind.i64.wrap (x.fst.tdiv (gcdI x.fst (at' (0 : Int) L (↑x.snd : Int))))) (at' (0 : Int) L (↑x.snd : Int))) ∧ (((↑x'.snd : Int) = IntKind.i64.wrap ((↑x.snd : Int) + (1 : Int))) ∧ True))) ∧ ((L = L) ∧ True)))))) | false => False) | false => False) | false => False) | false => False) | false => False) | false => False) | false => False)) | false => False) | false => False) | false => ((((lcmV (lcmG (1 : Int) L) = x.fst) ∧ ((lcmE (lcmG (1 : Int) L) = (0 : Int)) ∧ True)) ∧ True) ∧ ((L = L) ∧ True))))))
theorem yLcmK1Vc (L : List Int) : fnX X16 (oneLoop 3 { σ := Int × Nat, st := fun S x => ((S.keep [0]).int 4 x.1).int 5 x.2, inv := fun _ x => lcmI L x.1 x.2, m := fun x => L.length - x.2 }) Try.f57 [.own 0] [.ro 0 L] (ends [.ro 0 L] ⟨some (.tup [.raw (.int .i64 (lcmV (lcmG 1 L))), .raw (.int .i64 (lcmE (lcmG 1 L)))]), []⟩) = yLcmK1Text L := by kernel_rfl
theorem yLcmK1Holds (L : List Int) (hp : Ones L ∧ L.length ≤ 100000) : yLcmK1Text L := by
  unfold yLcmK1Text
  obtain ⟨hO, hl⟩ := hp
  refine ⟨⟨(1, 0), lcmI.init L, by repeat' first | trivial | rfl | apply And.intro⟩, ?_⟩
  rintro ⟨m, x⟩ hi
  dsimp only at hi ⊢
  by_cases h : x < L.length
  · obtain ⟨o1, o2, g1, q1, q2, p1, hc⟩ := hi.step hO h
    have hlo := hi.lo
    have hhi := hi.hi
    have hwx := wrap_succ h (show L.length ≤ 140737488355328 by omega)
    rw [dec_lt h, inb_nat h, at_nat h, decide_eq_false (show ¬ L[x] < 1 by omega), show (gcdI m L[x] != 0) = true from bne_iff_ne.2 (by omega), Int.tdiv_eq_ediv_of_nonneg (show 0 ≤ m by omega), wrap_id (n := m / gcdI m L[x]) (by omega) q2, decide_eq_true (show 0 ≤ m ∧ m ≤ 9223372036854775807 ∧ 0 ≤ L[x] ∧ L[x] ≤ 9223372036854775807 by omega), decide_eq_true (show 0 ≤ m / gcdI m L[x] ∧ m / gcdI m L[x] ≤ 9223372036854775807 ∧ 0 ≤ L[x] ∧ L[x] ≤ 9223372036854775807 by omega)]
    rcases hc with ⟨c1, c2⟩ | ⟨c1, c2⟩
    · obtain ⟨e1, e2⟩ := mulE_ok c1
      rw [e1, e2, show ((0 : Int) != 0) = false from rfl]
      refine ⟨(m / gcdI m L[x] * L[x], x + 1), c2, by dsimp only; omega, ?_⟩
      repeat' first | exact hwx.symm | trivial | rfl | apply And.intro
    · obtain ⟨e1, e2⟩ := mulE_no c1
      rw [e1, c2, show ((16 : Int) != 0) = true from rfl]
      repeat' first | trivial | rfl | apply And.intro
  · rw [dec_ge (by omega : L.length ≤ x), hi.done (by omega)]
    repeat' first | trivial | rfl | apply And.intro
noncomputable def yLcmCon : Con T O := fun args cs => match args, cs with
  | [.own 0], [.vec 0 L 2] => chk (decide (Ones L ∧ L.length ≤ 100000)) (.ret ⟨some (.tup [.raw (.int .i64 (lcmV (lcmG 1 L))), .raw (.int .i64 (lcmE (lcmG 1 L)))]), [(0, some (.vec 0 L 2))]⟩)
  | [.own 0], [.ro 0 L] => chk (decide (Ones L ∧ L.length ≤ 100000)) (.ret ⟨some (.tup [.raw (.int .i64 (lcmV (lcmG 1 L))), .raw (.int .i64 (lcmE (lcmG 1 L)))]), []⟩)
  | _, _ => .fail
theorem yLcmOk : ConOk R Try.prog 57 yLcmCon := con_of_fn R (X16) (TabOk.con R X16Ok) mixed Try.call57 Try.func57 yLcmCon (by
  intro args cs K h
  unfold yLcmCon at h
  split at h
  · rename_i L
    rw [Tree.holds_chk] at h
    obtain ⟨hp, h⟩ := h
    refine ⟨oneLoop 3 { σ := Int × Nat, st := fun S x => ((S.keep [0]).int 4 x.1).int 5 x.2, inv := fun _ x => lcmI L x.1 x.2, m := fun x => L.length - x.2 }, _, fun v S hv => ⟨_, h, hv⟩, ?_⟩
    rw [yLcmK0Vc L]
    exact yLcmK0Holds L (of_decide_eq_true hp)
  · rename_i L
    rw [Tree.holds_chk] at h
    obtain ⟨hp, h⟩ := h
    refine ⟨oneLoop 3 { σ := Int × Nat, st := fun S x => ((S.keep [0]).int 4 x.1).int 5 x.2, inv := fun _ x => lcmI L x.1 x.2, m := fun x => L.length - x.2 }, _, fun v S hv => ⟨_, h, hv⟩, ?_⟩
    rw [yLcmK1Vc L]
    exact yLcmK1Holds L (of_decide_eq_true hp)
  · exact h.elim)
noncomputable def tab17 : Tab T O := (69, xMulCon) :: (57, yLcmCon) :: tab16
theorem tabOk17 : TabOk R Try.prog tab17 := TabOk.cons R xMulOk <| TabOk.cons R yLcmOk <| tabOk16
noncomputable def X17 : Ctx T O := { X0 with con := conOf tab17 }
theorem X17Ok : TabOk R X17.P tab17 := tabOk17
end Go.Proofs.Ytmnnjclnldaejaa
