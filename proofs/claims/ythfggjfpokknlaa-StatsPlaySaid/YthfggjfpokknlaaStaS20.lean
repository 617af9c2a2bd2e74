/-
  Part of a proof over the seat Ythfggjfpokknlaa: printed by a small program or typed by hand.
-/
import Derived.Test.YthfggjfpokknlaaStaS19
import Derived.KernelRfl
namespace Go.Proofs.Ythfggjfpokknlaa
open Go.Sx Go.Proofs Classical

def runsR (L : List Note) : List Cnt := L.foldl (fun R n => addC R n.ID 1) []
def coresR (L : List Note) : List Cnt := L.foldl (fun R n => addC R n.Core 1) []
theorem runsR_snoc (L : List Note) (n : Note) : runsR (L ++ [n]) = addC (runsR L) n.ID 1 := by simp [runsR]
theorem coresR_snoc (L : List Note) (n : Note) : coresR (L ++ [n]) = addC (coresR L) n.Core 1 := by simp [coresR]
theorem addC_length (R : List Cnt) (k n : Int) : (addC R k n).length ≤ R.length + 1 := by
  unfold addC
  refine Nat.le_trans (addR_length _ _ _ _) ?_
  cases refN (getR k R) n == 0 <;> simp
theorem runsR_length : ∀ L : List Note, (runsR L).length ≤ L.length := by
  refine snocRec (Nat.le_refl _) fun L n ih => ?_
  rw [runsR_snoc]
  have := addC_length (runsR L) n.ID 1
  simp only [List.length_append, List.length_cons, List.length_nil]
  omega
theorem coresR_length : ∀ L : List Note, (coresR L).length ≤ L.length := by
  refine snocRec (Nat.le_refl _) fun L n ih => ?_
  rw [coresR_snoc]
  have := addC_length (coresR L) n.Core 1
  simp only [List.length_append, List.length_cons, List.length_nil]
  omega
/-- the last core of an ID, of those up to a place -/
def lastC (L : List Note) (id : Int) : Nat → Option Int
  | 0 => none
  | k + 1 => bif (at' noteE.zero L (k : Int)).ID == id then some (at' noteE.zero L (k : Int)).Core else lastC L id k
def moveC (R : List Cnt) (n : Note) : Option Int → List Cnt
  | none => R
  | some c => bif c != n.Core then addC R n.ID 1 else R
def moveR (L : List Note) (R : List Cnt) (x : Nat) : List Cnt := moveC R (at' noteE.zero L (x : Int)) (lastC L (at' noteE.zero L (x : Int)).ID x)
def movesRN (L : List Note) : Nat → List Cnt
  | 0 => []
  | x + 1 => moveR L (movesRN L x) x
def movesR (L : List Note) : List Cnt := movesRN L L.length
theorem movesRN_length (L : List Note) : ∀ x, (movesRN L x).length ≤ x
  | 0 => Nat.le_refl _
  | x + 1 => by
    have ih := movesRN_length L x
    unfold movesRN moveR moveC
    split
    · omega
    · rename_i c _
      cases c != (at' noteE.zero L (x : Int)).Core
      · rw [cond_false]; omega
      · rw [cond_true]
        have := addC_length (movesRN L x) (at' noteE.zero L (x : Int)).ID 1
        omega

/-! ### regatta/regattaref21.Runs -/
def refRunsText (L : List Note) : Prop := ((∃ x : Nat, ((x.le L.length) ∧ ((True ∧ (True ∧ (((↑x : Int) = (0 : Int)) ∧ True))) ∧ ((L = L) ∧ ((True ∧ True) ∧ ((runsR (List.take x L) = []) ∧ True)))))) ∧ (∀ x : Nat, ((x.le L.length) → (match (decide ((↑x : Int) < (↑L.length : Int))) with | true => (match (inb (↑x : Int) L.length) with | true => (match (inb (↑x : Int) L.length) with | true => (match (decide ((runsR (List.take x L)).length ≤ (900 : Nat))) with | true => (∃ x' : Nat, ((x'.le L.length) ∧ ((L.length - x' < L.length - x) ∧ ((True ∧ (True ∧ (((↑x' : Int) = IntKind.i64.wrap ((↑x : Int) + (1 : Int))) ∧ True))) ∧ ((L = L) ∧ ((True ∧ True) ∧ ((runsR (List.take x' L) = addC (runsR (List.take x L)) (at' noteE.zero L (↑x : Int)).ID (1 : Int)) ∧ True))))))) | false => False) | false => False) | false => False) | false => ((True ∧ True) ∧ ((L = L) ∧ ((True ∧ True) ∧ ((runsR L = runsR (List.take x L)) ∧ True))))))))
theorem refRunsVc (L : List Note) : fnX X19 (oneLoop 3 { σ := Nat, st := fun S x => atRef ((S.keep [0, 3]).int 4 x) 3 (runsR (L.take x)), inv := fun _ x => x ≤ L.length, m := fun x => L.length - x }) Try.f29 [.own 0] [.ro 4 L] (ends [.ro 4 L] ⟨some (.ptr 1 0), [(1, some (.cells [.own 2] 29)), (2, some (.vec 5 (runsR L) 60))]⟩) = refRunsText L := by kernel_rfl
theorem refRunsHolds (L : List Note) (hp : L.length ≤ 800) : refRunsText L := by
  unfold refRunsText
  refine ⟨⟨0, Nat.zero_le _, by repeat' first | trivial | rfl | apply And.intro⟩, ?_⟩
  rintro x hx
  by_cases h : x < L.length
  · have hwx := wrap_succ h (show L.length ≤ 140737488355328 by omega)
    have hl : (runsR (L.take x)).length ≤ 900 := Nat.le_trans (runsR_length _) (by rw [List.length_take]; omega)
    rw [dec_lt h, inb_nat h, at_nat h, decide_eq_true hl]
    refine ⟨x + 1, h, by omega, ?_⟩
    rw [take_snoc h, runsR_snoc]
    repeat' first | exact hwx.symm | trivial | rfl | apply And.intro
  · rw [dec_ge (by omega)]
    rw [List.take_of_length_le (by omega)]
    repeat' first | trivial | rfl | apply And.intro
noncomputable def refRunsCon : Con T O := fun args cs => match args, cs with
  | [.own 0], [.ro 4 L] => chk (decide (L.length ≤ 800)) (.ret ⟨some (.ptr 1 0), [(1, some (.cells [.own 2] 29)), (2, some (.vec 5 (runsR L) 60))]⟩)
  | _, _ => .fail
theorem refRunsOk : ConOk R Try.prog 29 refRunsCon := con_of_fn R (X19) (TabOk.con R X19Ok) mixed Try.call29 Try.func29 refRunsCon (by
  intro args cs K h
  unfold refRunsCon at h
  split at h
  · rename_i L
    rw [Tree.holds_chk] at h
    obtain ⟨hp, h⟩ := h
    refine ⟨oneLoop 3 { σ := Nat, st := fun S x => atRef ((S.keep [0, 3]).int 4 x) 3 (runsR (L.take x)), inv := fun _ x => x ≤ L.length, m := fun x => L.length - x }, _, fun v S hv => ⟨_, h, hv⟩, ?_⟩
    rw [refRunsVc L]
    exact refRunsHolds L (of_decide_eq_true hp)
  · exact h.elim)
/-! ### regatta/regattaref21.Cores -/
def refCoresText (L : List Note) : Prop := ((∃ x : Nat, ((x.le L.length) ∧ ((True ∧ (True ∧ (((↑x : Int) = (0 : Int)) ∧ True))) ∧ ((L = L) ∧ ((True ∧ True) ∧ ((coresR (List.take x L) = []) ∧ True)))))) ∧ (∀ x : Nat, ((x.le L.length) → (match (decide ((↑x : Int) < (↑L.length : Int))) with | true => (match (inb (↑x : Int) L.length) with | true => (match (inb (↑x : Int) L.length) with | true => (match (decide ((coresR (List.take x L)).length ≤ (900 : Nat))) with | true => (∃ x' : Nat, ((x'.le L.length) ∧ ((L.length - x' < L.length - x) ∧ ((True ∧ (True ∧ (((↑x' : Int) = IntKind.i64.wrap ((↑x : Int) + (1 : Int))) ∧ True))) ∧ ((L = L) ∧ ((True ∧ True) ∧ ((coresR (List.take x' L) = addC (coresR (List.take x L)) (at' noteE.zero L (↑x : Int)).Core (1 : Int)) ∧ True))))))) | false => False) | false => False) | false => False) | false => ((True ∧ True) ∧ ((L = L) ∧ ((True ∧ True) ∧ ((coresR L = coresR (List.take x L)) ∧ True))))))))
theorem refCoresVc (L : List Note) : fnX X19 (oneLoop 3 { σ := Nat, st := fun S x => atRef ((S.keep [0, 3]).int 4 x) 3 (coresR (L.take x)), inv := fun _ x => x ≤ L.length, m := fun x => L.length - x }) Try.f31 [.own 0] [.ro 4 L] (ends [.ro 4 L] ⟨some (.ptr 1 0), [(1, some (.cells [.own 2] 29)), (2, some (.vec 5 (coresR L) 60))]⟩) = refCoresText L := by kernel_rfl
theorem refCoresHolds (L : List Note) (hp : L.length ≤ 800) : refCoresText L := by
  unfold refCoresText
  refine ⟨⟨0, Nat.zero_le _, by repeat' first | trivial | rfl | apply And.intro⟩, ?_⟩
  rintro x hx
  by_cases h : x < L.length
  · have hwx := wrap_succ h (show L.length ≤ 140737488355328 by omega)
    have hl : (coresR (L.take x)).length ≤ 900 := Nat.le_trans (coresR_length _) (by rw [List.length_take]; omega)
    rw [dec_lt h, inb_nat h, at_nat h, decide_eq_true hl]
    refine ⟨x + 1, h, by omega, ?_⟩
    rw [take_snoc h, coresR_snoc]
    repeat' first | exact hwx.symm | trivial | rfl | apply And.intro
  · rw [dec_ge (by omega)]
    rw [List.take_of_length_le (by omega)]
    repeat' first | trivial | rfl | apply And.intro
noncomputable def refCoresCon : Con T O := fun args cs => match args, cs with
  | [.own 0], [.ro 4 L] => chk (decide (L.length ≤ 800)) (.ret ⟨some (.ptr 1 0), [(1, some (.cells [.own 2] 29)), (2, some (.vec 5 (coresR L) 60))]⟩)
  | _, _ => .fail
theorem refCoresOk : ConOk R Try.prog 31 refCoresCon := con_of_fn R (X19) (TabOk.con R X19Ok) mixed Try.call31 Try.func31 refCoresCon (by
  intro args cs K h
  unfold refCoresCon at h
  split at h
  · rename_i L
    rw [Tree.holds_chk] at h
    obtain ⟨hp, h⟩ := h
    refine ⟨oneLoop 3 { σ := Nat, st := fun S x => atRef ((S.keep [0, 3]).int 4 x) 3 (coresR (L.take x)), inv := fun _ x => x ≤ L.length, m := fun x => L.length - x }, _, fun v S hv => ⟨_, h, hv⟩, ?_⟩
    rw [refCoresVc L]
    exact refCoresHolds L (of_decide_eq_true hp)
  · exact h.elim)
/-! ### regatta/regattaref21.Moves -/
def refMovesText (L : List Note) : Prop := ((∃ x : Nat, ((x.le L.length) ∧ ((True ∧ (True ∧ (((↑x : Int) = (0 : Int)) ∧ True))) ∧ ((L = L) ∧ ((True ∧ True) ∧ ((movesRN L x = []) ∧ True)))))) ∧ (∀ x : Nat, ((x.le L.length) → (match (decide ((↑x : Int) < (↑L.length : Int))) with | true => ((∃ x1 : Nat, (((x1 ≤ (↑x : Int).toNat) ∧ (lastC L (at' noteE.zero L (↑x : Int)).ID (↑x : Int).toNat = lastC L (at' noteE.zero L (↑x : Int)).ID x1)) ∧ ((True ∧ (True ∧ (((↑x : Int) = (↑x : Int)) ∧ (((↑x1 : Int) - (1 : Int) = IntKind.i64.wrap ((↑x : Int) - (1 : Int))) ∧ True)))) ∧ ((L = L) ∧ ((True ∧ True) ∧ ((movesRN L x = movesRN L x) ∧ True)))))) ∧ (∀ x1 : Nat, (((x1 ≤ (↑x : Int).toNat) ∧ (lastC L (at' noteE.zero L (↑x : Int)).ID (↑x : Int).toNat = lastC L (at' noteE.zero L (↑x : Int)).ID x1)) → (match (decide ((↑x1 : Int) - (1 : Int) ≥ (0 : Int))) with | true => (match (inb ((↑x1 : Int) - (1 : Int)) L.length) with | true => (match (inb ((↑x1 : Int) - (1 : Int)) L.length) with | true => (match (inb (↑x : Int) L.length) with | true => (match (inb (↑x : Int) L.length) with | true => (match ((at' noteE.zero L ((↑x1 : Int) - (1 : Int))).ID == (at' noteE.zero L (↑x : Int)).ID) with | true => (match (inb ((↑x1 : Int) - (1 : Int)) L.length) with | true => (match (inb ((↑x1 : Int) - (1 : Int)) L.length) with | true => (match (inb (↑x : Int) L.length) with | true => (match (inb (↑x : Int) L.length) with | true => (match ((at' noteE.zero L ((↑x1 : Int) - (1 : Int))).Core != (at' noteE.zero L (↑x : Int)).Core) with | true => (match (inb (↑x : Int) L.length) with | true => (match (inb (↑x : Int) L.length) with | true => (match (decide ((movesRN L x).length ≤ (900 : Nat))) with | true => (∃ x' : Nat, ((x'.le L.length) ∧ ((L.length - x' < L.length - x) ∧ ((True ∧ (True ∧ (((↑x' : Int) = IntKind.i64.wrap ((↑x : Int) + (1 : Int))) ∧ True))) ∧ ((L = L) ∧ ((True ∧ True) ∧ ((movesRN L x' = addC (movesRN L x) (at' noteE.zero L (↑x : Int)).ID (1 : Int)) ∧ True))))))) | false => False) | false => False) | false => False) | false => (∃ x' : Nat, ((x'.le L.length) ∧ ((L.length - x' < L.length - x) ∧ ((True ∧ (True ∧ (((↑x' : Int) = IntKind.i64.wrap ((↑x : Int) + (1 : Int))) ∧ True))) ∧ ((L = L) ∧ ((True ∧ True) ∧ ((movesRN L x' = movesRN L x) ∧ True)))))))) | false => False) | false => False) | false => False) | false => False) | false => (∃ x' : Nat, (((x' ≤ (↑x : Int).toNat) ∧ (lastC L (at' noteE.zero L (↑x : Int)).ID (↑x : Int).toNat = lastC L (at' noteE.zero L (↑x : Int)).ID x')) ∧ ((x' < x1) ∧ ((True ∧ (True ∧ (((↑x : Int) = (↑x : Int)) ∧ (((↑x' : Int) - (1 : Int) = IntKind.i64.wrap ((↑x1 : Int) - (1 : Int) - (1 : Int))) ∧ True)))) ∧ ((L = L) ∧ ((True ∧ True) ∧ ((movesRN L x = movesRN L x) ∧ True)))))))) | false => False) | false => False) | false => False) | false => False) | false => (∃ x' : Nat, ((x'.le L.length) ∧ ((L.length - x' < L.length - x) ∧ ((True ∧ (True ∧ (((↑x' : Int) = IntKind.i64.wrap ((↑x : Int) + (1 : Int))) ∧ True))) ∧ ((L = L) ∧ ((True ∧ True) ∧ ((movesRN L x' = movesRN L x) ∧ True))))))))))) | false => ((True ∧ True) ∧ ((L = L) ∧ ((True ∧ True) ∧ ((movesR L = movesRN L x) ∧ True))))))))
theorem refMovesVc (L : List Note) : fnX X19 (annOf [(3, { σ := Nat, st := fun S x => atRef ((S.keep [0, 3]).int 4 x) 3 (movesRN L x), inv := fun _ x => x ≤ L.length, m := fun x => L.length - x }), (6, { σ := Nat, st := fun S x => (S.keep [0, 3, 4]).int 5 ((x : Int) - 1), inv := fun S x => x ≤ (S.gi 4).toNat ∧ lastC L (at' noteE.zero L (S.gi 4)).ID (S.gi 4).toNat = lastC L (at' noteE.zero L (S.gi 4)).ID x, m := fun x => x })] []) Try.f33 [.own 0] [.ro 4 L] (ends [.ro 4 L] ⟨some (.ptr 1 0), [(1, some (.cells [.own 2] 29)), (2, some (.vec 5 (movesR L) 60))]⟩) = refMovesText L := by kernel_rfl
theorem refMovesHolds (L : List Note) (hp : L.length ≤ 800) : refMovesText L := by
  unfold refMovesText
  refine ⟨⟨0, Nat.zero_le _, by repeat' first | trivial | rfl | apply And.intro⟩, ?_⟩
  rintro x hx
  by_cases h : x < L.length
  · have hwx := wrap_succ h (show L.length ≤ 140737488355328 by omega)
    have hl : (movesRN L x).length ≤ 900 := Nat.le_trans (movesRN_length L x) (by omega)
    rw [dec_lt h, Int.toNat_natCast]
    have hm : movesRN L (x + 1) = moveC (movesRN L x) (at' noteE.zero L (x : Int)) (lastC L (at' noteE.zero L (x : Int)).ID x) := rfl
    generalize at' noteE.zero L (x : Int) = nx at hm ⊢
    refine ⟨⟨x, ⟨Nat.le_refl _, rfl⟩, ?_⟩, ?_⟩
    · have e : (x : Int) - 1 = IntKind.i64.wrap ((x : Int) - 1) := (wrap_id (by omega) (by omega)).symm
      repeat' first | exact e | trivial | rfl | apply And.intro
    rintro y ⟨hy, hs⟩
    cases y with
    | zero =>
      rw [show decide (((0 : Nat) : Int) - 1 ≥ 0) = false from rfl]
      have e : movesRN L (x + 1) = movesRN L x := by rw [hm, hs]; rfl
      refine ⟨x + 1, h, by omega, ?_⟩
      repeat' first | exact hwx.symm | exact e | trivial | rfl | apply And.intro
    | succ z =>
      have ez : ((z + 1 : Nat) : Int) - 1 = (z : Int) := by omega
      have hz : z < L.length := by omega
      rw [ez, show decide ((z : Int) ≥ 0) = true from decide_eq_true (by omega), inb_nat hz, inb_nat h, decide_eq_true hl]
      simp only [lastC] at hs
      cases hi : (at' noteE.zero L (z : Int)).ID == nx.ID
      · rw [hi, cond_false] at hs
        refine ⟨z, ⟨by omega, hs⟩, by omega, ?_⟩
        have e : (z : Int) - 1 = IntKind.i64.wrap ((z : Int) - 1) := (wrap_id (by omega) (by omega)).symm
        repeat' first | exact e | trivial | rfl | apply And.intro
      · rw [hi, cond_true] at hs
        rw [hs] at hm
        simp only [moveC] at hm
        cases hc : (at' noteE.zero L (z : Int)).Core != nx.Core
        · rw [hc, cond_false] at hm
          refine ⟨x + 1, h, by omega, ?_⟩
          repeat' first | exact hwx.symm | exact hm | trivial | rfl | apply And.intro
        · rw [hc, cond_true] at hm
          refine ⟨x + 1, h, by omega, ?_⟩
          repeat' first | exact hwx.symm | exact hm | trivial | rfl | apply And.intro
  · obtain rfl : x = L.length := Nat.le_antisymm hx (by omega)
    rw [dec_ge (Nat.le_refl _)]
    repeat' first | trivial | rfl | apply And.intro
noncomputable def refMovesCon : Con T O := fun args cs => match args, cs with
  | [.own 0], [.ro 4 L] => chk (decide (L.length ≤ 800)) (.ret ⟨some (.ptr 1 0), [(1, some (.cells [.own 2] 29)), (2, some (.vec 5 (movesR L) 60))]⟩)
  | _, _ => .fail
theorem refMovesOk : ConOk R Try.prog 33 refMovesCon := con_of_fn R (X19) (TabOk.con R X19Ok) mixed Try.call33 Try.func33 refMovesCon (by
  intro args cs K h
  unfold refMovesCon at h
  split at h
  · rename_i L
    rw [Tree.holds_chk] at h
    obtain ⟨hp, h⟩ := h
    refine ⟨annOf [(3, { σ := Nat, st := fun S x => atRef ((S.keep [0, 3]).int 4 x) 3 (movesRN L x), inv := fun _ x => x ≤ L.length, m := fun x => L.length - x }), (6, { σ := Nat, st := fun S x => (S.keep [0, 3, 4]).int 5 ((x : Int) - 1), inv := fun S x => x ≤ (S.gi 4).toNat ∧ lastC L (at' noteE.zero L (S.gi 4)).ID (S.gi 4).toNat = lastC L (at' noteE.zero L (S.gi 4)).ID x, m := fun x => x })] [], _, fun v S hv => ⟨_, h, hv⟩, ?_⟩
    rw [refMovesVc L]
    exact refMovesHolds L (of_decide_eq_true hp)
  · exact h.elim)
noncomputable def tab20 : Tab T O := (29, refRunsCon) :: (31, refCoresCon) :: (33, refMovesCon) :: tab19
theorem tabOk20 : TabOk R Try.prog tab20 := TabOk.cons R refRunsOk <| TabOk.cons R refCoresOk <| TabOk.cons R refMovesOk <| tabOk19
noncomputable def X20 : Ctx T O := { X0 with con := conOf tab20 }
theorem X20Ok : TabOk R X20.P tab20 := tabOk20
end Go.Proofs.Ythfggjfpokknlaa
