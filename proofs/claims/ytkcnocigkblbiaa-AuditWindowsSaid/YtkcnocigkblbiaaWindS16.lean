/-
  Part of a proof over the seat Ytkcnocigkblbiaa: printed by a small program or typed by hand.
-/
import Derived.Test.YtkcnocigkblbiaaWindS15
import Derived.KernelRfl
namespace Go.Proofs.Ytkcnocigkblbiaa
open Go.Sx Go.Proofs Classical

def notOf (e p : Int) (n : Note) : Bool := !auditOf n e p

/-! ### slices.IndexFunc[[]regatta/api.Note,regatta/api.Note] -/
def indexWK0Text (L : List Note) (e p : Int) : Prop := ((∃ x : Nat, (((x ≤ L.length) ∧ (firstI (notOf e p) L (0 : Int) = firstI (notOf e p) (List.drop x L) (↑x : Int))) ∧ ((True ∧ ((True ∧ True) ∧ (True ∧ (((↑L.length : Int) = (↑L.length : Int)) ∧ (((↑x : Int) = (0 : Int)) ∧ True))))) ∧ ((L = L) ∧ (((True ∧ True) ∧ True) ∧ (((e = e) ∧ ((p = p) ∧ True)) ∧ True)))))) ∧ (∀ x : Nat, (((x ≤ L.length) ∧ (firstI (notOf e p) L (0 : Int) = firstI (notOf e p) (List.drop x L) (↑x : Int))) → (match (decide ((↑x : Int) < (↑L.length : Int))) with | true => (match (inb (↑x : Int) L.length) with | true => (match (inb (↑x : Int) L.length) with | true => (match (decide (auditOfPre (at' (T (2 : Nat)).zero L (↑x : Int)) e p = true)) with | true => (match (!auditOf (at' (T (2 : Nat)).zero L (↑x : Int)) e p) with | true => (((firstI (notOf e p) L (0 : Int) = (↑x : Int)) ∧ True) ∧ ((L = L) ∧ (((True ∧ True) ∧ True) ∧ (((e = e) ∧ ((p = p) ∧ True)) ∧ True)))) | false => (∃ x' : Nat, (((x' ≤ L.length) ∧ (firstI (notOf e p) L (0 : Int) = firstI (notOf e p) (List.drop x' L) (↑x' : Int))) ∧ ((L.length - x' < L.length - x) ∧ ((True ∧ ((True ∧ True) ∧ (True ∧ (((↑L.length : Int) = (↑L.length : Int)) ∧ (((↑x' : Int) = IntKind.i64.wrap ((↑x : Int) + (1 : Int))) ∧ True))))) ∧ ((L = L) ∧ (((True ∧ True) ∧ True) ∧ (((e = e) ∧ ((p = p) ∧ True)) ∧ True)))))))) | false => False) | false => False) | false => False) | false => (((firstI (notOf e p) L (0 : Int) = (-1 : Int)) ∧ True) ∧ ((L = L) ∧ (((True ∧ True) ∧ True) ∧ (((e = e) ∧ ((p = p) ∧ True)) ∧ True))))))))
theorem indexWK0Vc (L : List Note) (e p : Int) : fnX X15 (oneLoop 2 { σ := Nat, st := fun S x => (S.keep [0, 1, 6, 7]).int 8 x, inv := fun _ x => x ≤ L.length ∧ firstI (notOf e p) L 0 = firstI (notOf e p) (L.drop x) x, m := fun x => L.length - x }) Try.f25 [.own 0, .fn 39 [.ptr 1 0]] [.ro 2 L, .cells [.fn 22 [.ptr 2 0]] 50, .cells [.raw (.int .i64 e), .raw (.int .i64 p)] 41] (ends [.ro 2 L, .cells [.fn 22 [.ptr 2 0]] 50, .cells [.raw (.int .i64 e), .raw (.int .i64 p)] 41] ⟨some (.raw (.int .i64 (firstI (notOf e p) L 0))), []⟩) = indexWK0Text L e p := by kernel_rfl
theorem indexWK0Holds (L : List Note) (e p : Int) (hp : L.length ≤ 140737488355328 ∧ ∀ n, auditOfPre n e p = true) : indexWK0Text L e p := by
  unfold indexWK0Text
  obtain ⟨hp, hpre⟩ := hp
  refine ⟨⟨0, ⟨by omega, rfl⟩, by repeat' first | trivial | rfl | apply And.intro⟩, ?_⟩
  rintro x ⟨hx, hs⟩
  by_cases h : x < L.length
  · rw [dec_lt h, inb_nat h, at_nat h, decide_eq_true (hpre _)]
    rw [drop_at h] at hs
    simp only [firstI] at hs
    have hw := wrap_succ h hp
    cases hq : !auditOf L[x] e p
    · have hq : notOf e p L[x] = false := hq
      rw [hq] at hs
      refine ⟨x + 1, ⟨by omega, by simpa using hs⟩, by omega, ?_⟩
      repeat' first | exact hw.symm | trivial | rfl | apply And.intro
    · have hq : notOf e p L[x] = true := hq
      rw [hq] at hs
      have hs : firstI (notOf e p) L 0 = (x : Int) := by simpa using hs
      repeat' first | exact hs | trivial | rfl | apply And.intro
  · rw [dec_ge (by omega)]
    rw [List.drop_of_length_le (by omega)] at hs
    have hs : firstI (notOf e p) L 0 = -1 := hs
    repeat' first | exact hs | trivial | rfl | apply And.intro
def indexWK1Text (L : List Note) (e p : Int) : Prop := ((∃ x : Nat, (((x ≤ L.length) ∧ (firstI (notOf e p) L (0 : Int) = firstI (notOf e p) (List.drop x L) (↑x : Int))) ∧ ((True ∧ ((True ∧ True) ∧ (True ∧ (((↑L.length : Int) = (↑L.length : Int)) ∧ (((↑x : Int) = (0 : Int)) ∧ True))))) ∧ ((L = L) ∧ (((True ∧ True) ∧ True) ∧ (((e = e) ∧ ((p = p) ∧ True)) ∧ True)))))) ∧ (∀ x : Nat, (((x ≤ L.length) ∧ (firstI (notOf e p) L (0 : Int) = firstI (notOf e p) (List.drop x L) (↑x : Int))) → (match (decide ((↑x : Int) < (↑L.length : Int))) with | true => (match (inb (↑x : Int) L.length) with | true => (match (inb (↑x : Int) L.length) with | true => (match (decide (auditOfPre (at' (T (2 : Nat)).zero L (↑x : Int)) e p = true)) with | true => (match (!auditOf (at' (T (2 : Nat)).zero L (↑x : Int)) e p) with | true => (((firstI (notOf e p) L (0 : Int) = (↑x : Int)) ∧ True) ∧ ((L = L) ∧ (((True ∧ True) ∧ True) ∧ (((e = e) ∧ ((p = p) ∧ True)) ∧ True)))) | false => (∃ x' : Nat, (((x' ≤ L.length) ∧ (firstI (notOf e p) L (0 : Int) = firstI (notOf e p) (List.drop x' L) (↑x' : Int))) ∧ ((L.length - x' < L.length - x) ∧ ((True ∧ ((True ∧ True) ∧ (True ∧ (((↑L.length : Int) = (↑L.length : Int)) ∧ (((↑x' : Int) = IntKind.i64.wrap ((↑x : Int) + (1 : Int))) ∧ True))))) ∧ ((L = L) ∧ (((True ∧ True) ∧ True) ∧ (((e = e) ∧ ((p = p) ∧ True)) ∧ True)))))))) | false => False) | false => False) | false => False) | false => (((firstI (notOf e p) L (0 : Int) = (-1 : Int)) ∧ True) ∧ ((L = L) ∧ (((True ∧ True) ∧ True) ∧ (((e = e) ∧ ((p = p) ∧ True)) ∧ True))))))))
theorem indexWK1Vc (L : List Note) (e p : Int) : fnX X15 (oneLoop 2 { σ := Nat, st := fun S x => (S.keep [0, 1, 6, 7]).int 8 x, inv := fun _ x => x ≤ L.length ∧ firstI (notOf e p) L 0 = firstI (notOf e p) (L.drop x) x, m := fun x => L.length - x }) Try.f25 [.own 0, .fn 39 [.ptr 1 0]] [.ro 2 L, .cells [.fn 18 [.ptr 2 0]] 50, .cells [.raw (.int .i64 e), .raw (.int .i64 p)] 41] (ends [.ro 2 L, .cells [.fn 18 [.ptr 2 0]] 50, .cells [.raw (.int .i64 e), .raw (.int .i64 p)] 41] ⟨some (.raw (.int .i64 (firstI (notOf e p) L 0))), []⟩) = indexWK1Text L e p := by kernel_rfl
theorem indexWK1Holds (L : List Note) (e p : Int) (hp : L.length ≤ 140737488355328 ∧ ∀ n, auditOfPre n e p = true) : indexWK1Text L e p := by
  unfold indexWK1Text
  obtain ⟨hp, hpre⟩ := hp
  refine ⟨⟨0, ⟨by omega, rfl⟩, by repeat' first | trivial | rfl | apply And.intro⟩, ?_⟩
  rintro x ⟨hx, hs⟩
  by_cases h : x < L.length
  · rw [dec_lt h, inb_nat h, at_nat h, decide_eq_true (hpre _)]
    rw [drop_at h] at hs
    simp only [firstI] at hs
    have hw := wrap_succ h hp
    cases hq : !auditOf L[x] e p
    · have hq : notOf e p L[x] = false := hq
      rw [hq] at hs
      refine ⟨x + 1, ⟨by omega, by simpa using hs⟩, by omega, ?_⟩
      repeat' first | exact hw.symm | trivial | rfl | apply And.intro
    · have hq : notOf e p L[x] = true := hq
      rw [hq] at hs
      have hs : firstI (notOf e p) L 0 = (x : Int) := by simpa using hs
      repeat' first | exact hs | trivial | rfl | apply And.intro
  · rw [dec_ge (by omega)]
    rw [List.drop_of_length_le (by omega)] at hs
    have hs : firstI (notOf e p) L 0 = -1 := hs
    repeat' first | exact hs | trivial | rfl | apply And.intro
noncomputable def indexWCon : Con T O := fun args cs => match args, cs with
  | [.own 0, .fn 39 [.ptr 1 0]], [.ro 2 L, .cells [.fn 22 [.ptr 2 0]] 50, .cells [.raw (.int .i64 e), .raw (.int .i64 p)] 41] => chk (decide (L.length ≤ 140737488355328 ∧ ∀ n, auditOfPre n e p = true)) (.ret ⟨some (.raw (.int .i64 (firstI (notOf e p) L 0))), []⟩)
  | [.own 0, .fn 39 [.ptr 1 0]], [.ro 2 L, .cells [.fn 18 [.ptr 2 0]] 50, .cells [.raw (.int .i64 e), .raw (.int .i64 p)] 41] => chk (decide (L.length ≤ 140737488355328 ∧ ∀ n, auditOfPre n e p = true)) (.ret ⟨some (.raw (.int .i64 (firstI (notOf e p) L 0))), []⟩)
  | _, _ => .fail
theorem indexWOk : ConOk R Try.prog 25 indexWCon := con_of_fn R (X15) (TabOk.con R X15Ok) mixed Try.call25 Try.func25 indexWCon (by
  intro args cs K h
  unfold indexWCon at h
  split at h
  · rename_i L e p
    rw [Tree.holds_chk] at h
    obtain ⟨hp, h⟩ := h
    refine ⟨oneLoop 2 { σ := Nat, st := fun S x => (S.keep [0, 1, 6, 7]).int 8 x, inv := fun _ x => x ≤ L.length ∧ firstI (notOf e p) L 0 = firstI (notOf e p) (L.drop x) x, m := fun x => L.length - x }, _, fun v S hv => ⟨_, h, hv⟩, ?_⟩
    rw [indexWK0Vc L e p]
    exact indexWK0Holds L e p (of_decide_eq_true hp)
  · rename_i L e p
    rw [Tree.holds_chk] at h
    obtain ⟨hp, h⟩ := h
    refine ⟨oneLoop 2 { σ := Nat, st := fun S x => (S.keep [0, 1, 6, 7]).int 8 x, inv := fun _ x => x ≤ L.length ∧ firstI (notOf e p) L 0 = firstI (notOf e p) (L.drop x) x, m := fun x => L.length - x }, _, fun v S hv => ⟨_, h, hv⟩, ?_⟩
    rw [indexWK1Vc L e p]
    exact indexWK1Holds L e p (of_decide_eq_true hp)
  · exact h.elim)
noncomputable def tab16 : Tab T O := (25, indexWCon) :: tab15
theorem tabOk16 : TabOk R Try.prog tab16 := TabOk.cons R indexWOk <| tabOk15
noncomputable def X16 : Ctx T O := { X0 with con := conOf tab16 }
theorem X16Ok : TabOk R X16.P tab16 := tabOk16
end Go.Proofs.Ytkcnocigkblbiaa
