/-
  Part of a proof over the seat Ytjhkokdcjikkiaa: printed by a small program or typed by hand.
-/
import Derived.Test.YtjhkokdcjikkiaaPrioS14
import Derived.KernelRfl
namespace Go.Proofs.Ytjhkokdcjikkiaa
open Go.Sx Go.Proofs Classical
/-! ### slices.IndexFunc[[]regatta/api.Entry,regatta/api.Entry] -/
def indexK0Text (L : List Ent) (id : Int) : Prop := ((∃ x : Nat, (((x ≤ L.length) ∧ (firstI (idIs id) L (0 : Int) = firstI (idIs id) (List.drop x L) (↑x : Int))) ∧ ((True ∧ ((True ∧ True) ∧ (True ∧ (((↑L.length : Int) = (↑L.length : Int)) ∧ (((↑x : Int) = (0 : Int)) ∧ True))))) ∧ ((L = L) ∧ (((id = id) ∧ True) ∧ True))))) ∧ (∀ x : Nat, (((x ≤ L.length) ∧ (firstI (idIs id) L (0 : Int) = firstI (idIs id) (List.drop x L) (↑x : Int))) → (match (decide ((↑x : Int) < (↑L.length : Int))) with | true => (match (inb (↑x : Int) L.length) with | true => (match (inb (↑x : Int) L.length) with | true => (match (idIs id (at' entE.zero L (↑x : Int))) with | true => (((firstI (idIs id) L (0 : Int) = (↑x : Int)) ∧ True) ∧ ((L = L) ∧ (((id = id) ∧ True) ∧ True))) | false => (∃ x' : Nat, (((x' ≤ L.length) ∧ (firstI (idIs id) L (0 : Int) = firstI (idIs id) (List.drop x' L) (↑x' : Int))) ∧ ((L.length - x' < L.length - x) ∧ ((True ∧ ((True ∧ True) ∧ (True ∧ (((↑L.length : Int) = (↑L.length : Int)) ∧ (((↑x' : Int) = IntKind.i64.wrap ((↑x : Int) + (1 : Int))) ∧ True))))) ∧ ((L = L) ∧ (((id = id) ∧ True) ∧ True))))))) | false => False) | false => False) | false => (((firstI (idIs id) L (0 : Int) = (-1 : Int)) ∧ True) ∧ ((L = L) ∧ (((id = id) ∧ True) ∧ True)))))))
theorem indexK0Vc (L : List Ent) (id : Int) : fnX X14 (oneLoop 2 { σ := Nat, st := fun S x => (S.keep [0, 1, 6, 7]).int 8 x, inv := fun _ x => x ≤ L.length ∧ firstI (idIs id) L 0 = firstI (idIs id) (L.drop x) x, m := fun x => L.length - x }) Try.f30 [.own 0, .fn 31 [.ptr 1 0]] [.ro 2 L, .cells [.raw (.int .i64 id)] 3] (ends [.ro 2 L, .cells [.raw (.int .i64 id)] 3] ⟨some (.raw (.int .i64 (firstI (idIs id) L 0))), []⟩) = indexK0Text L id := by kernel_rfl
theorem indexK0Holds (L : List Ent) (id : Int) (hp : L.length ≤ 1000) : indexK0Text L id := by
  unfold indexK0Text
  refine ⟨⟨0, ⟨by omega, rfl⟩, by repeat' first | trivial | rfl | apply And.intro⟩, ?_⟩
  rintro x ⟨hx, hs⟩
  by_cases h : x < L.length
  · have hwx := wrap_succ h (show L.length ≤ 140737488355328 by omega)
    simp only [dec_lt h, inb_nat h, at_nat h]
    rw [drop_at h] at hs
    simp only [firstI] at hs
    cases hp : idIs id L[x]
    · rw [hp, cond_false] at hs
      refine ⟨x + 1, ⟨h, by simpa using hs⟩, by omega, ?_⟩
      repeat' first | exact hwx.symm | trivial | rfl | apply And.intro
    · rw [hp, cond_true] at hs
      repeat' first | exact hs | trivial | rfl | apply And.intro
  · rw [dec_ge (by omega)]
    rw [List.drop_of_length_le (by omega)] at hs
    repeat' first | exact hs | trivial | rfl | apply And.intro
def indexK1Text (L : List Ent) (id : Int) : Prop := ((∃ x : Nat, (((x ≤ L.length) ∧ (firstI (idIs id) L (0 : Int) = firstI (idIs id) (List.drop x L) (↑x : Int))) ∧ ((True ∧ ((True ∧ True) ∧ (True ∧ (((↑L.length : Int) = (↑L.length : Int)) ∧ (((↑x : Int) = (0 : Int)) ∧ True))))) ∧ ((L = L) ∧ (((id = id) ∧ True) ∧ True))))) ∧ (∀ x : Nat, (((x ≤ L.length) ∧ (firstI (idIs id) L (0 : Int) = firstI (idIs id) (List.drop x L) (↑x : Int))) → (match (decide ((↑x : Int) < (↑L.length : Int))) with | true => (match (inb (↑x : Int) L.length) with | true => (match (inb (↑x : Int) L.length) with | true => (match (idIs id (at' entE.zero L (↑x : Int))) with | true => (((firstI (idIs id) L (0 : Int) = (↑x : Int)) ∧ True) ∧ ((L = L) ∧ (((id = id) ∧ True) ∧ True))) | false => (∃ x' : Nat, (((x' ≤ L.length) ∧ (firstI (idIs id) L (0 : Int) = firstI (idIs id) (List.drop x' L) (↑x' : Int))) ∧ ((L.length - x' < L.length - x) ∧ ((True ∧ ((True ∧ True) ∧ (True ∧ (((↑L.length : Int) = (↑L.length : Int)) ∧ (((↑x' : Int) = IntKind.i64.wrap ((↑x : Int) + (1 : Int))) ∧ True))))) ∧ ((L = L) ∧ (((id = id) ∧ True) ∧ True))))))) | false => False) | false => False) | false => (((firstI (idIs id) L (0 : Int) = (-1 : Int)) ∧ True) ∧ ((L = L) ∧ (((id = id) ∧ True) ∧ True)))))))
theorem indexK1Vc (L : List Ent) (id : Int) : fnX X14 (oneLoop 2 { σ := Nat, st := fun S x => (S.keep [0, 1, 6, 7]).int 8 x, inv := fun _ x => x ≤ L.length ∧ firstI (idIs id) L 0 = firstI (idIs id) (L.drop x) x, m := fun x => L.length - x }) Try.f30 [.own 0, .fn 31 [.ptr 1 0]] [.vec 2 L 25, .cells [.raw (.int .i64 id)] 3] (ends [.vec 2 L 25, .cells [.raw (.int .i64 id)] 3] ⟨some (.raw (.int .i64 (firstI (idIs id) L 0))), [(0, some (.vec 2 L 25))]⟩) = indexK1Text L id := by kernel_rfl
theorem indexK1Holds (L : List Ent) (id : Int) (hp : L.length ≤ 1000) : indexK1Text L id := by
  unfold indexK1Text
  refine ⟨⟨0, ⟨by omega, rfl⟩, by repeat' first | trivial | rfl | apply And.intro⟩, ?_⟩
  rintro x ⟨hx, hs⟩
  by_cases h : x < L.length
  · have hwx := wrap_succ h (show L.length ≤ 140737488355328 by omega)
    simp only [dec_lt h, inb_nat h, at_nat h]
    rw [drop_at h] at hs
    simp only [firstI] at hs
    cases hp : idIs id L[x]
    · rw [hp, cond_false] at hs
      refine ⟨x + 1, ⟨h, by simpa using hs⟩, by omega, ?_⟩
      repeat' first | exact hwx.symm | trivial | rfl | apply And.intro
    · rw [hp, cond_true] at hs
      repeat' first | exact hs | trivial | rfl | apply And.intro
  · rw [dec_ge (by omega)]
    rw [List.drop_of_length_le (by omega)] at hs
    repeat' first | exact hs | trivial | rfl | apply And.intro
noncomputable def indexCon : Con T O := fun args cs => match args, cs with
  | [.own 0, .fn 31 [.ptr 1 0]], [.ro 2 L, .cells [.raw (.int .i64 id)] 3] => chk (decide (L.length ≤ 1000)) (.ret ⟨some (.raw (.int .i64 (firstI (idIs id) L 0))), []⟩)
  | [.own 0, .fn 31 [.ptr 1 0]], [.vec 2 L 25, .cells [.raw (.int .i64 id)] 3] => chk (decide (L.length ≤ 1000)) (.ret ⟨some (.raw (.int .i64 (firstI (idIs id) L 0))), [(0, some (.vec 2 L 25))]⟩)
  | _, _ => .fail
theorem indexOk : ConOk R Try.prog 30 indexCon := con_of_fn R (X14) (TabOk.con R X14Ok) mixed Try.call30 Try.func30 indexCon (by
  intro args cs K h
  unfold indexCon at h
  split at h
  · rename_i L id
    rw [Tree.holds_chk] at h
    obtain ⟨hp, h⟩ := h
    refine ⟨oneLoop 2 { σ := Nat, st := fun S x => (S.keep [0, 1, 6, 7]).int 8 x, inv := fun _ x => x ≤ L.length ∧ firstI (idIs id) L 0 = firstI (idIs id) (L.drop x) x, m := fun x => L.length - x }, _, fun v S hv => ⟨_, h, hv⟩, ?_⟩
    rw [indexK0Vc L id]
    exact indexK0Holds L id (of_decide_eq_true hp)
  · rename_i L id
    rw [Tree.holds_chk] at h
    obtain ⟨hp, h⟩ := h
    refine ⟨oneLoop 2 { σ := Nat, st := fun S x => (S.keep [0, 1, 6, 7]).int 8 x, inv := fun _ x => x ≤ L.length ∧ firstI (idIs id) L 0 = firstI (idIs id) (L.drop x) x, m := fun x => L.length - x }, _, fun v S hv => ⟨_, h, hv⟩, ?_⟩
    rw [indexK1Vc L id]
    exact indexK1Holds L id (of_decide_eq_true hp)
  · exact h.elim)
noncomputable def tab15 : Tab T O := (30, indexCon) :: tab14
theorem tabOk15 : TabOk R Try.prog tab15 := TabOk.cons R indexOk <| tabOk14
noncomputable def X15 : Ctx T O := { X0 with con := conOf tab15 }
theorem X15Ok : TabOk R X15.P tab15 := tabOk15
end Go.Proofs.Ytjhkokdcjikkiaa
