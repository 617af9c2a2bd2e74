/-
  Part of a proof over the seat Ytmnnjclnldaejaa: printed by a small program or typed by hand.
-/
import Derived.Test.YtmnnjclnldaejaaSupS17
import Derived.KernelRfl
namespace Go.Proofs.Ytmnnjclnldaejaa
open Go.Sx Go.Proofs Classical
/-! ### regatta/exact.Lcm -/
def xLcmK0Text (L : List Int) : Prop := ((∃ x : Int × Nat, ((lcmI L x.fst x.snd) ∧ ((True ∧ ((x.fst = (1 : Int)) ∧ (((0 : Int) = (0 : Int)) ∧ (True ∧ (((↑L.length : Int) = (↑L.length : Int)) ∧ (((↑x.snd : Int) = (0 : Int)) ∧ True)))))) ∧ ((L = L) ∧ True)))) ∧ (∀ x : Int × Nat, ((lcmI L x.fst x.snd) → (match (decide ((↑x.snd : Int) < (↑L.length : Int))) with | true => (match (inb (↑x.snd : Int) L.length) with | true => (match (inb (↑x.snd : Int) L.length) with | true => (match (decide (at' (0 : Int) L (↑x.snd : Int) < (1 : Int))) with | true => ((((lcmV (lcmG (1 : Int) L) = (0 : Int)) ∧ ((lcmE (lcmG (1 : Int) L) = (1 : Int)) ∧ True)) ∧ True) ∧ ((L = L) ∧ True)) | false => (match (decide ((0 : Int) ≤ x.fst ∧ x.fst ≤ (9223372036854775807 : Int) ∧ (0 : Int) ≤ at' (0 : Int) L (↑x.snd : Int) ∧ at' (0 : Int) L (↑x.snd : Int) ≤ (9223372036854775807 : Int))) with | true => (match (gcdI x.fst (at' (0 : Int) L (↑x.snd : Int)) != (0 : Int)) with | true => (match (decide ((0 : Int) ≤ IntKind.i64.wrap (x.fst.tdiv (gcdI x.fst (at' (0 : Int) L (↑x.snd : Int)))) ∧ IntKind.i64.wrap (x.fst.tdiv (gcdI x.fst (at' (0 : Int) L (↑x.snd : Int)))) ≤ (9223372036854775807 : Int) ∧ (0 : Int) ≤ at' (0 : Int) L (↑x.snd : Int) ∧ at' (0 : Int) L (↑x.snd : Int) ≤ (9223372036854775807 : Int))) with | true => (match (mulE (IntKind.i64.wrap (x.fst.tdiv (gcdI x.fst (at' (0 : Int) L (↑x.snd : Int))))) (at' (0 : Int) L (↑x.snd : Int)) != (0 : Int)) with | true => (match (mulE (IntKind.i64.wrap (x.fst.tdiv (gcdI x.fst (at' (0 : Int) L (↑x.snd : Int))))) (at' (0 : Int) L (↑x.snd : Int)) != (0 : Int)) with | true => ((((lcmV (lcmG (1 : Int) L) = (0 : Int)) ∧ ((lcmE (lcmG (1 : Int) L) = mulE (IntKind.i64.wrap (x.fst.tdiv (gcdI x.fst (at' (0 : Int) L (↑x.snd : Int))))) (at' (0 : Int) L (↑x.snd : Int))) ∧ True)) ∧ True) ∧ ((L = L) ∧ True)) | false => ((((lcmV (lcmG (1 : Int) L) = mulV (IntKind.i64.wrap (x.fst.tdiv (gcdI x.fst (at' (0 : Int) L (↑x.snd : Int))))) (at' (0 : Int) L (↑x.snd : Int))) ∧ ((lcmE (lcmG (1 : Int) L) = (0 : Int)) ∧ True)) ∧ True) ∧ ((L = L) ∧ True))) | false => (∃ x' : Int × Nat, ((lcmI L x'.fst x'.snd) ∧ ((L.length - x'.snd < L.length - x.snd) ∧ ((True ∧ ((x'.fst = mulV (IntKind.i64.wrap (x.fst.tdiv (gcdI x.fst (at' (0 : Int) L (↑x.snd : Int))))) (at' (0 : Int) L (↑x.snd : Int))) ∧ (((0 : Int) = mulE (IntKind.i64.wrap (x.fst.tdiv (gcdI x.fst (at' (0 : Int) L (↑x.snd : Int))))) (at' (0 : Int) L (↑x.snd : Int))) ∧ (True ∧ (((↑L.length : Int) = (↑L.length : Int)) ∧ (((↑x'.snd : Int) = IntKind.i64.wrap ((↑x.snd : Int) + (1 : Int))) ∧ True)))))) ∧ ((L = L) ∧ True)))))) | false => False) | false => False) | false => False)) | false => False) | false => False) | false => ((((lcmV (lcmG (1 : Int) L) = x.fst) ∧ ((lcmE (lcmG (1 : Int) L) = (0 : Int)) ∧ True)) ∧ True) ∧ ((L = L) ∧ True))))))
theorem xLcmK0Vc (L : List Int) : fnX X17 (annOf [(4, { σ := Int × Nat, st := fun S x => (((S.keep [0, 10, 11]).int 4 x.1).int 5 0).int 12 x.2, inv := fun _ x => lcmI L x.1 x.2, m := fun x => L.length - x.2 })] [(12, 1)]) Try.f36 [.own 0] [.vec 0 L 2] (ends [.vec 0 L 2] ⟨some (.tup [.raw (.int .i64 (lcmV (lcmG 1 L))), .raw (.int .i64 (lcmE (lcmG 1 L)))]), [(0, some (.vec 0 L 2))]⟩) = xLcmK0Text L := by kernel_rfl
theorem xLcmK0Holds (L : List Int) (hp : Ones L ∧ L.length ≤ 100000) : xLcmK0Text L := by
  unfold xLcmK0Text
  obtain ⟨hO, hl⟩ := hp
  refine ⟨⟨(1, 0), lcmI.init L, by repeat' first | trivial | rfl | apply And.intro⟩, ?_⟩
  rintro ⟨m, x⟩ hi
  dsimp only at hi ⊢
  by_cases h : x < L.length
  · obtain ⟨o1, o2, g1, q1, q2, p1, hc⟩ := hi.step hO h
    have hlo := hi.lo
    have hhi := hi.hi
    have hwx := wrap_succ h (show L.length ≤ 140737488355328 by omega)
    rw [dec_lt h, inb_nat h, at_nat h, decide_eq_false (show ¬ L[x] < 1 by omega), show (gcdI m L[x] != 0) = true from bne_iff_ne.2 (by omega), Int.tdiv_eq_ediv_of_nonneg (show 0 ≤ m by omega), wrap_id (n := m / gcdI m L[x]) (by omega) q2, decide_eq_true (show 0 ≤ m ∧ m ≤ 9223372036854775807 ∧ 0 ≤ L[x] ∧ L[x] ≤ 9223372036854775807 by omega), decide_eq_true (show 0 ≤ m / gcdI m L[x] ∧ m / gcdI m L[x] ≤ 9223372036854775807 ∧ 0 ≤ L[x] ∧ L[x] ≤ 9223372036854775807 by omega)]
    rcases hc with ⟨c1, c2⟩ | ⟨c1, c2⟩
    · obtain ⟨e1, e2⟩ := mulE_ok c1
      rw [e1, e2, show ((0 : Int) != 0) = false from rfl]
      refine ⟨(m / gcdI m L[x] * L[x], x + 1), c2, by dsimp only; omega, ?_⟩
      repeat' first | exact hwx.symm | trivial | rfl | apply And.intro
    · obtain ⟨e1, e2⟩ := mulE_no c1
      rw [e1, c2, show ((16 : Int) != 0) = true from rfl]
      repeat' first | trivial | rfl | apply And.intro
  · rw [dec_ge (by omega : L.length ≤ x), hi.done (by omega)]
    repeat' first | trivial | rfl | apply And.intro
def xLcmK1Text (L : List Int) : Prop := ((∃ x : Int × Nat, ((lcmI L x.fst x.snd) ∧ ((True ∧ ((x.fst = (1 : Int)) ∧ (((0 : Int) = (0 : Int)) ∧ (True ∧ (((↑L.length : Int) = (↑L.length : Int)) ∧ (((↑x.snd : Int) = (0 : Int)) ∧ True)))))) ∧ ((L = L) ∧ True)))) ∧ (∀ x : Int × Nat, ((lcmI L x.fst x.snd) → (match (decide ((↑x.snd : Int) < (↑L.length : Int))) with | true => (match (inb (↑x.snd : Int) L.length) with | true => (match (inb (↑x.snd : Int) L.length) with | true => (match (decide (at' (0 : Int) L (↑x.snd : Int) < (1 : Int))) with | true => ((((lcmV (lcmG (1 : Int) L) = (0 : Int)) ∧ ((lcmE (lcmG (1 : Int) L) = (1 : Int)) ∧ True)) ∧ True) ∧ ((L = L) ∧ True)) | false => (match (decide ((0 : Int) ≤ x.fst ∧ x.fst ≤ (9223372036854775807 : Int) ∧ (0 : Int) ≤ at' (0 : Int) L (↑x.snd : Int) ∧ at' (0 : Int) L (↑x.snd : Int) ≤ (9223372036854775807 : Int))) with | true => (match (gcdI x.fst (at' (0 : Int) L (↑x.snd : Int)) != (0 : Int)) with | true => (match (decide ((0 : Int) ≤ IntKind.i64.wrap (x.fst.tdiv (gcdI x.fst (at' (0 : Int) L (↑x.snd : Int)))) ∧ IntKind.i64.wrap (x.fst.tdiv (gcdI x.fst (at' (0 : Int) L (↑x.snd : Int)))) ≤ (9223372036854775807 : Int) ∧ (0 : Int) ≤ at' (0 : Int) L (↑x.snd : Int) ∧ at' (0 : Int) L (↑x.snd : Int) ≤ (9223372036854775807 : Int))) with | true => (match (mulE (IntKind.i64.wrap (x.fst.tdiv (gcdI x.fst (at' (0 : Int) L (↑x.snd : Int))))) (at' (0 : Int) L (↑x.snd : Int)) != (0 : Int)) with | true => (match (mulE (IntKind.i64.wrap (x.fst.tdiv (gcdI x.fst (at' (0 : Int) L (↑x.snd : Int))))) (at' (0 : Int) L (↑x.snd : Int)) != (0 : Int)) with | true => ((((lcmV (lcmG (1 : Int) L) = (0 : Int)) ∧ ((lcmE (lcmG (1 : Int) L) = mulE (IntKind.i64.wrap (x.fst.tdiv (gcdI x.fst (at' (0 : Int) L (↑x.snd : Int))))) (at' (0 : Int) L (↑x.snd : Int))) ∧ True)) ∧ True) ∧ ((L = L) ∧ True)) | false => ((((lcmV (lcmG (1 : Int) L) = mulV (IntKind.i64.wrap (x.fst.tdiv (gcdI x.fst (at' (0 : Int) L (↑x.snd : Int))))) (at' (0 : Int) L (↑x.snd : Int))) ∧ ((lcmE (lcmG (1 : Int) L) = (0 : Int)) ∧ True)) ∧ True) ∧ ((L = L) ∧ True))) | false => (∃ x' : Int × Nat, ((lcmI L x'.fst x'.snd) ∧ ((L.length - x'.snd < L.length - x.snd) ∧ ((True ∧ ((x'.fst = mulV (IntKind.i64.wrap (x.fst.tdiv (gcdI x.fst (at' (0 : Int) L (↑x.snd : Int))))) (at' (0 : Int) L (↑x.snd : Int))) ∧ (((0 : Int) = mulE (IntKind.i64.wrap (x.fst.tdiv (gcdI x.fst (at' (0 : Int) L (↑x.snd : Int))))) (at' (0 : Int) L (↑x.snd : Int))) ∧ (True ∧ (((↑L.length : Int) = (↑L.length : Int)) ∧ (((↑x'.snd : Int) = IntKind.i64.wrap ((↑x.snd : Int) + (1 : Int))) ∧ True)))))) ∧ ((L = L) ∧ True)))))) | false => False) | false => False) | false => False)) | false => False) | false => False) | false => ((((lcmV (lcmG (1 : Int) L) = x.fst) ∧ ((lcmE (lcmG (1 : Int) L) = (0 : Int)) ∧ True)) ∧ True) ∧ ((L = L) ∧ True))))))
theorem xLcmK1Vc (L : List Int) : fnX X17 (annOf [(4, { σ := Int × Nat, st := fun S x => (((S.keep [0, 10, 11]).int 4 x.1).int 5 0).int 12 x.2, inv := fun _ x => lcmI L x.1 x.2, m := fun x => L.length - x.2 })] [(12, 1)]) Try.f36 [.own 0] [.ro 0 L] (ends [.ro 0 L] ⟨some (.tup [.raw (.int .i64 (lcmV (lcmG 1 L))), .raw (.int .i64 (lcmE (lcmG 1 L)))]), []⟩) = xLcmK1Text L := by kernel_rfl
theorem xLcmK1Holds (L : List Int) (hp : Ones L ∧ L.length ≤ 100000) : xLcmK1Text L := by
  unfold xLcmK1Text
  obtain ⟨hO, hl⟩ := hp
  refine ⟨⟨(1, 0), lcmI.init L, by repeat' first | trivial | rfl | apply And.intro⟩, ?_⟩
  rintro ⟨m, x⟩ hi
  dsimp only at hi ⊢
  by_cases h : x < L.length
  · obtain ⟨o1, o2, g1, q1, q2, p1, hc⟩ := hi.step hO h
    have hlo := hi.lo
    have hhi := hi.hi
    have hwx := wrap_succ h (show L.length ≤ 140737488355328 by omega)
    rw [dec_lt h, inb_nat h, at_nat h, decide_eq_false (show ¬ L[x] < 1 by omega), show (gcdI m L[x] != 0) = true from bne_iff_ne.2 (by omega), Int.tdiv_eq_ediv_of_nonneg (show 0 ≤ m by omega), wrap_id (n := m / gcdI m L[x]) (by omega) q2, decide_eq_true (show 0 ≤ m ∧ m ≤ 9223372036854775807 ∧ 0 ≤ L[x] ∧ L[x] ≤ 9223372036854775807 by omega), decide_eq_true (show 0 ≤ m / gcdI m L[x] ∧ m / gcdI m L[x] ≤ 9223372036854775807 ∧ 0 ≤ L[x] ∧ L[x] ≤ 9223372036854775807 by omega)]
    rcases hc with ⟨c1, c2⟩ | ⟨c1, c2⟩
    · obtain ⟨e1, e2⟩ := mulE_ok c1
      rw [e1, e2, show ((0 : Int) != 0) = false from rfl]
      refine ⟨(m / gcdI m L[x] * L[x], x + 1), c2, by dsimp only; omega, ?_⟩
      repeat' first | exact hwx.symm | trivial | rfl | apply And.intro
    · obtain ⟨e1, e2⟩ := mulE_no c1
      rw [e1, c2, show ((16 : Int) != 0) = true from rfl]
      repeat' first | trivial | rfl | apply And.intro
  · rw [dec_ge (by omega : L.length ≤ x), hi.done (by omega)]
    repeat' first | trivial | rfl | apply And.intro
noncomputable def xLcmCon : Con T O := fun args cs => match args, cs with
  | [.own 0], [.vec 0 L 2] => chk (decide (Ones L ∧ L.length ≤ 100000)) (.ret ⟨some (.tup [.raw (.int .i64 (lcmV (lcmG 1 L))), .raw (.int .i64 (lcmE (lcmG 1 L)))]), [(0, some (.vec 0 L 2))]⟩)
  | [.own 0], [.ro 0 L] => chk (decide (Ones L ∧ L.length ≤ 100000)) (.ret ⟨some (.tup [.raw (.int .i64 (lcmV (lcmG 1 L))), .raw (.int .i64 (lcmE (lcmG 1 L)))]), []⟩)
  | _, _ => .fail
theorem xLcmOk : ConOk R Try.prog 36 xLcmCon := con_of_fn R (X17) (TabOk.con R X17Ok) mixed Try.call36 Try.func36 xLcmCon (by
  intro args cs K h
  unfold xLcmCon at h
  split at h
  · rename_i L
    rw [Tree.holds_chk] at h
    obtain ⟨hp, h⟩ := h
    refine ⟨annOf [(4, { σ := Int × Nat, st := fun S x => (((S.keep [0, 10, 11]).int 4 x.1).int 5 0).int 12 x.2, inv := fun _ x => lcmI L x.1 x.2, m := fun x => L.length - x.2 })] [(12, 1)], _, fun v S hv => ⟨_, h, hv⟩, ?_⟩
    rw [xLcmK0Vc L]
    exact xLcmK0Holds L (of_decide_eq_true hp)
  · rename_i L
    rw [Tree.holds_chk] at h
    obtain ⟨hp, h⟩ := h
    refine ⟨annOf [(4, { σ := Int × Nat, st := fun S x => (((S.keep [0, 10, 11]).int 4 x.1).int 5 0).int 12 x.2, inv := fun _ x => lcmI L x.1 x.2, m := fun x => L.length - x.2 })] [(12, 1)], _, fun v S hv => ⟨_, h, hv⟩, ?_⟩
    rw [xLcmK1Vc L]
    exact xLcmK1Holds L (of_decide_eq_true hp)
  · exact h.elim)
noncomputable def tab18 : Tab T O := (36, xLcmCon) :: tab17
theorem tabOk18 : TabOk R Try.prog tab18 := TabOk.cons R xLcmOk <| tabOk17
noncomputable def X18 : Ctx T O := { X0 with con := conOf tab18 }
theorem X18Ok : TabOk R X18.P tab18 := tabOk18
end Go.Proofs.Ytmnnjclnldaejaa
