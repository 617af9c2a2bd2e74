/-
  Part of a proof over the seat Ytjhkokdcjikkiaa: printed by a small program or typed by hand.
-/
import Derived.Test.YtjhkokdcjikkiaaPrioS15
import Derived.KernelRfl
namespace Go.Proofs.Ytjhkokdcjikkiaa
open Go.Sx Go.Proofs Classical

theorem firstI_cases {α : Type} (p : α → Bool) : ∀ (L : List α) (i : Int), (firstI p L i = -1 ∧ ∀ a ∈ L, p a = false) ∨ ∃ n : Nat, ∃ h : n < L.length, firstI p L i = i + n ∧ p L[n] = true ∧ ∀ k (hk : k < n), p (L[k]'(by omega)) = false
  | [], _ => .inl ⟨rfl, fun _ h => by cases h⟩
  | a :: l, i => by
    simp only [firstI]
    cases hp : p a
    · rw [cond_false]
      rcases firstI_cases p l (i + 1) with ⟨h, h2⟩ | ⟨n, hn, h, h2, h3⟩
      · refine .inl ⟨h, fun b hb => ?_⟩
        rcases List.mem_cons.1 hb with rfl | hb
        · exact hp
        · exact h2 b hb
      · refine .inr ⟨n + 1, by simp; omega, by rw [h]; omega, by simpa using h2, fun k hk => ?_⟩
        cases k with
        | zero => simpa using hp
        | succ k => simpa using h3 k (by omega)
    · exact .inr ⟨0, by simp, by simp, by simpa using hp, fun k hk => by omega⟩

/-! ### regatta/prio.Rank -/
def pRankK0Text (L : List Ent) (id : Int) : Prop := (match (decide (L.length ≤ (1000 : Nat))) with | true => (match (decide (firstI (idIs id) L (0 : Int) < (0 : Int))) with | true => (((rankL L id = (-1 : Int)) ∧ True) ∧ ((L = L) ∧ True)) | false => ((∃ x : Nat, ((x.le L.length) ∧ ((True ∧ (True ∧ ((firstI (idIs id) L (0 : Int) = firstI (idIs id) L (0 : Int)) ∧ (((↑(ahead (List.take x L) (at' ez L (firstI (idIs id) L (0 : Int)))) : Int) = (0 : Int)) ∧ (True ∧ (((↑L.length : Int) = (↑L.length : Int)) ∧ (((↑x : Int) = (0 : Int)) ∧ True))))))) ∧ ((L = L) ∧ (((id = id) ∧ True) ∧ True))))) ∧ (∀ x : Nat, ((x.le L.length) → (match (decide ((↑x : Int) < (↑L.length : Int))) with | true => (match (inb (↑x : Int) L.length) with | true => (match (inb (↑x : Int) L.length) with | true => (match (inb (firstI (idIs id) L (0 : Int)) L.length) with | true => (match (inb (firstI (idIs id) L (0 : Int)) L.length) with | true => (match (!prioLess (at' entE.zero L (↑x : Int)) (at' entE.zero L (firstI (idIs id) L (0 : Int)))) with | true => (∃ x' : Nat, ((x'.le L.length) ∧ ((L.length - x' < L.length - x) ∧ ((True ∧ (True ∧ ((firstI (idIs id) L (0 : Int) = firstI (idIs id) L (0 : Int)) ∧ (((↑(ahead (List.take x' L) (at' ez L (firstI (idIs id) L (0 : Int)))) : Int) = (↑(ahead (List.take x L) (at' ez L (firstI (idIs id) L (0 : Int)))) : Int)) ∧ (True ∧ (((↑L.length : Int) = (↑L.length : Int)) ∧ (((↑x' : Int) = IntKind.i64.wrap ((↑x : Int) + (1 : Int))) ∧ True))))))) ∧ ((L = L) ∧ (((id = id) ∧ True) ∧ True)))))) | false => (∃ x' : Nat, ((x'.le L.length) ∧ ((L.length - x' < L.length - x) ∧ ((True ∧ (True ∧ ((firstI (idIs id) L (0 : Int) = firstI (idIs id) L (0 : Int)) ∧ (((↑(ahead (List.take x' L) (at' ez L (firstI (idIs id) L (0 : Int)))) : Int) = IntKind.i64.wrap ((↑(ahead (List.take x L) (at' ez L (firstI (idIs id) L (0 : Int)))) : Int) + (1 : Int))) ∧ (True ∧ (((↑L.length : Int) = (↑L.length : Int)) ∧ (((↑x' : Int) = IntKind.i64.wrap ((↑x : Int) + (1 : Int))) ∧ True))))))) ∧ ((L = L) ∧ (((id = id) ∧ True) ∧ True))))))) | false => False) | false => False) | false => False) | false => False) | false => (((rankL L id = (↑(ahead (List.take x L) (at' ez L (firstI (idIs id) L (0 : Int)))) : Int)) ∧ True) ∧ ((L = L) ∧ True))))))) | false => False)
theorem pRankK0Vc (L : List Ent) (id : Int) : fnX X15 (oneLoop 6 { σ := Nat, st := fun S x => ((S.keep [0, 3, 5, 14, 15]).int 16 x).int 6 ((ahead (L.take x) (at' ez L (S.gi 5)) : Nat) : Int), inv := fun _ x => x ≤ L.length, m := fun x => L.length - x }) Try.f15 [.own 0, .raw (.int .i64 id)] [.ro 2 L] (ends [.ro 2 L] ⟨some (.raw (.int .i64 (rankL L id))), []⟩) = pRankK0Text L id := by kernel_rfl
theorem pRankK0Holds (L : List Ent) (id : Int) (hp : L.length ≤ 1000) : pRankK0Text L id := by
  unfold pRankK0Text
  rw [decide_eq_true hp]
  rcases firstI_cases (idIs id) L 0 with ⟨hf, _⟩ | ⟨n, hn, hf, _⟩
  · have hr := rank_none hf
    rw [hf]
    repeat' first | exact hr | trivial | rfl | apply And.intro
  · rw [Int.zero_add] at hf
    have hr := rank_found hf
    rw [hf, show decide ((n : Int) < 0) = false from decide_eq_false (by omega), inb_nat hn]
    generalize at' ez L (n : Int) = e at hr ⊢
    refine ⟨⟨0, Nat.zero_le _, by repeat' first | trivial | rfl | apply And.intro⟩, ?_⟩
    rintro k hk
    by_cases g : k < L.length
    · have hwk := wrap_succ g (show L.length ≤ 140737488355328 by omega)
      have ha := ahead_le (L.take k) e
      rw [List.length_take] at ha
      have hwa : IntKind.i64.wrap ((ahead (L.take k) e : Int) + 1) = ((ahead (L.take k) e + 1 : Nat) : Int) := by rw [wrap_id (by omega) (by omega)]; omega
      have hn := ahead_snoc (L.take k) L[k] e
      rw [← take_snoc g] at hn
      simp only [dec_lt g, inb_nat g, at_nat g]
      cases hy : prioLess L[k] e
      · rw [hy, cond_false] at hn
        refine ⟨k + 1, g, by omega, ?_⟩
        rw [hn]
        repeat' first | exact hwk.symm | trivial | rfl | apply And.intro
      · rw [hy, cond_true] at hn
        refine ⟨k + 1, g, by omega, ?_⟩
        rw [hn]
        repeat' first | exact hwk.symm | exact hwa.symm | trivial | rfl | apply And.intro
    · rw [dec_ge (by omega)]
      rw [List.take_of_length_le (by omega)]
      repeat' first | exact hr | trivial | rfl | apply And.intro
def pRankK1Text (L : List Ent) (id : Int) : Prop := (match (decide (L.length ≤ (1000 : Nat))) with | true => (match (decide (firstI (idIs id) L (0 : Int) < (0 : Int))) with | true => (((rankL L id = (-1 : Int)) ∧ True) ∧ ((L = L) ∧ True)) | false => ((∃ x : Nat, ((x.le L.length) ∧ ((True ∧ (True ∧ ((firstI (idIs id) L (0 : Int) = firstI (idIs id) L (0 : Int)) ∧ (((↑(ahead (List.take x L) (at' ez L (firstI (idIs id) L (0 : Int)))) : Int) = (0 : Int)) ∧ (True ∧ (((↑L.length : Int) = (↑L.length : Int)) ∧ (((↑x : Int) = (0 : Int)) ∧ True))))))) ∧ ((L = L) ∧ (((id = id) ∧ True) ∧ True))))) ∧ (∀ x : Nat, ((x.le L.length) → (match (decide ((↑x : Int) < (↑L.length : Int))) with | true => (match (inb (↑x : Int) L.length) with | true => (match (inb (↑x : Int) L.length) with | true => (match (inb (firstI (idIs id) L (0 : Int)) L.length) with | true => (match (inb (firstI (idIs id) L (0 : Int)) L.length) with | true => (match (!prioLess (at' entE.zero L (↑x : Int)) (at' entE.zero L (firstI (idIs id) L (0 : Int)))) with | true => (∃ x' : Nat, ((x'.le L.length) ∧ ((L.length - x' < L.length - x) ∧ ((True ∧ (True ∧ ((firstI (idIs id) L (0 : Int) = firstI (idIs id) L (0 : Int)) ∧ (((↑(ahead (List.take x' L) (at' ez L (firstI (idIs id) L (0 : Int)))) : Int) = (↑(ahead (List.take x L) (at' ez L (firstI (idIs id) L (0 : Int)))) : Int)) ∧ (True ∧ (((↑L.length : Int) = (↑L.length : Int)) ∧ (((↑x' : Int) = IntKind.i64.wrap ((↑x : Int) + (1 : Int))) ∧ True))))))) ∧ ((L = L) ∧ (((id = id) ∧ True) ∧ True)))))) | false => (∃ x' : Nat, ((x'.le L.length) ∧ ((L.length - x' < L.length - x) ∧ ((True ∧ (True ∧ ((firstI (idIs id) L (0 : Int) = firstI (idIs id) L (0 : Int)) ∧ (((↑(ahead (List.take x' L) (at' ez L (firstI (idIs id) L (0 : Int)))) : Int) = IntKind.i64.wrap ((↑(ahead (List.take x L) (at' ez L (firstI (idIs id) L (0 : Int)))) : Int) + (1 : Int))) ∧ (True ∧ (((↑L.length : Int) = (↑L.length : Int)) ∧ (((↑x' : Int) = IntKind.i64.wrap ((↑x : Int) + (1 : Int))) ∧ True))))))) ∧ ((L = L) ∧ (((id = id) ∧ True) ∧ True))))))) | false => False) | false => False) | false => False) | false => False) | false => (((rankL L id = (↑(ahead (List.take x L) (at' ez L (firstI (idIs id) L (0 : Int)))) : Int)) ∧ True) ∧ ((L = L) ∧ True))))))) | false => False)
theorem pRankK1Vc (L : List Ent) (id : Int) : fnX X15 (oneLoop 6 { σ := Nat, st := fun S x => ((S.keep [0, 3, 5, 14, 15]).int 16 x).int 6 ((ahead (L.take x) (at' ez L (S.gi 5)) : Nat) : Int), inv := fun _ x => x ≤ L.length, m := fun x => L.length - x }) Try.f15 [.own 0, .raw (.int .i64 id)] [.vec 2 L 25] (ends [.vec 2 L 25] ⟨some (.raw (.int .i64 (rankL L id))), [(0, some (.vec 2 L 25))]⟩) = pRankK1Text L id := by kernel_rfl
theorem pRankK1Holds (L : List Ent) (id : Int) (hp : L.length ≤ 1000) : pRankK1Text L id := by
  unfold pRankK1Text
  rw [decide_eq_true hp]
  rcases firstI_cases (idIs id) L 0 with ⟨hf, _⟩ | ⟨n, hn, hf, _⟩
  · have hr := rank_none hf
    rw [hf]
    repeat' first | exact hr | trivial | rfl | apply And.intro
  · rw [Int.zero_add] at hf
    have hr := rank_found hf
    rw [hf, show decide ((n : Int) < 0) = false from decide_eq_false (by omega), inb_nat hn]
    generalize at' ez L (n : Int) = e at hr ⊢
    refine ⟨⟨0, Nat.zero_le _, by repeat' first | trivial | rfl | apply And.intro⟩, ?_⟩
    rintro k hk
    by_cases g : k < L.length
    · have hwk := wrap_succ g (show L.length ≤ 140737488355328 by omega)
      have ha := ahead_le (L.take k) e
      rw [List.length_take] at ha
      have hwa : IntKind.i64.wrap ((ahead (L.take k) e : Int) + 1) = ((ahead (L.take k) e + 1 : Nat) : Int) := by rw [wrap_id (by omega) (by omega)]; omega
      have hn := ahead_snoc (L.take k) L[k] e
      rw [← take_snoc g] at hn
      simp only [dec_lt g, inb_nat g, at_nat g]
      cases hy : prioLess L[k] e
      · rw [hy, cond_false] at hn
        refine ⟨k + 1, g, by omega, ?_⟩
        rw [hn]
        repeat' first | exact hwk.symm | trivial | rfl | apply And.intro
      · rw [hy, cond_true] at hn
        refine ⟨k + 1, g, by omega, ?_⟩
        rw [hn]
        repeat' first | exact hwk.symm | exact hwa.symm | trivial | rfl | apply And.intro
    · rw [dec_ge (by omega)]
      rw [List.take_of_length_le (by omega)]
      repeat' first | exact hr | trivial | rfl | apply And.intro
noncomputable def pRankCon : Con T O := fun args cs => match args, cs with
  | [.own 0, .raw (.int .i64 id)], [.ro 2 L] => chk (decide (L.length ≤ 1000)) (.ret ⟨some (.raw (.int .i64 (rankL L id))), []⟩)
  | [.own 0, .raw (.int .i64 id)], [.vec 2 L 25] => chk (decide (L.length ≤ 1000)) (.ret ⟨some (.raw (.int .i64 (rankL L id))), [(0, some (.vec 2 L 25))]⟩)
  | _, _ => .fail
theorem pRankOk : ConOk R Try.prog 15 pRankCon := con_of_fn R (X15) (TabOk.con R X15Ok) mixed Try.call15 Try.func15 pRankCon (by
  intro args cs K h
  unfold pRankCon at h
  split at h
  · rename_i id L
    rw [Tree.holds_chk] at h
    obtain ⟨hp, h⟩ := h
    refine ⟨oneLoop 6 { σ := Nat, st := fun S x => ((S.keep [0, 3, 5, 14, 15]).int 16 x).int 6 ((ahead (L.take x) (at' ez L (S.gi 5)) : Nat) : Int), inv := fun _ x => x ≤ L.length, m := fun x => L.length - x }, _, fun v S hv => ⟨_, h, hv⟩, ?_⟩
    rw [pRankK0Vc L id]
    exact pRankK0Holds L id (of_decide_eq_true hp)
  · rename_i id L
    rw [Tree.holds_chk] at h
    obtain ⟨hp, h⟩ := h
    refine ⟨oneLoop 6 { σ := Nat, st := fun S x => ((S.keep [0, 3, 5, 14, 15]).int 16 x).int 6 ((ahead (L.take x) (at' ez L (S.gi 5)) : Nat) : Int), inv := fun _ x => x ≤ L.length, m := fun x => L.length - x }, _, fun v S hv => ⟨_, h, hv⟩, ?_⟩
    rw [pRankK1Vc L id]
    exact pRankK1Holds L id (of_decide_eq_true hp)
  · exact h.elim)
noncomputable def tab16 : Tab T O := (15, pRankCon) :: tab15
theorem tabOk16 : TabOk R Try.prog tab16 := TabOk.cons R pRankOk <| tabOk15
noncomputable def X16 : Ctx T O := { X0 with con := conOf tab16 }
theorem X16Ok : TabOk R X16.P tab16 := tabOk16
end Go.Proofs.Ytjhkokdcjikkiaa
