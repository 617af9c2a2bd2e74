/-
  Part of a proof over the seat Ytjhkokdcjikkiaa: printed by a small program or typed by hand.
-/
import Derived.Test.YtjhkokdcjikkiaaPrioS1
import Derived.KernelRfl
namespace Go.Proofs.Ytjhkokdcjikkiaa
open Go.Sx Go.Proofs Classical

def orL : List Int → Int
  | [] => 0
  | a :: l => bif a != 0 then a else orL l

/-! ### cmp.Compare[int64] -/
def cmpL (a0 : Int) (a1 : Int) : Int := (match (nanL a0) with | true => (match (nanL a1) with | true => ((0 : Int)) | false => ((-1 : Int))) | false => (match (nanL a1) with | true => ((1 : Int)) | false => (match (decide (a0 < a1)) with | true => ((-1 : Int)) | false => (match (decide (a0 > a1)) with | true => ((1 : Int)) | false => ((0 : Int))))))
noncomputable def cmpLCon : Con T O := fun args cs => match args, cs with
  | [.raw (.int .i64 a0), .raw (.int .i64 a1)], [] => retv (.raw (.int .i64 (cmpL a0 a1)))
  | _, _ => .fail
theorem cmpLVc (a0 : Int) (a1 : Int) : fnX X1 noAnn Try.f33 [.raw (.int .i64 a0), .raw (.int .i64 a1)] [] (ends [] ⟨some (.raw (.int .i64 (cmpL a0 a1))), []⟩) = ((match (nanL a0) with | true => (match (nanL a1) with | true => ((cmpL a0 a1 = ((0 : Int))) ∧ True) ∧ True | false => ((cmpL a0 a1 = ((-1 : Int))) ∧ True) ∧ True) | false => (match (nanL a1) with | true => ((cmpL a0 a1 = ((1 : Int))) ∧ True) ∧ True | false => (match (decide (a0 < a1)) with | true => ((cmpL a0 a1 = ((-1 : Int))) ∧ True) ∧ True | false => (match (decide (a0 > a1)) with | true => ((cmpL a0 a1 = ((1 : Int))) ∧ True) ∧ True | false => ((cmpL a0 a1 = ((0 : Int))) ∧ True) ∧ True))))) := by kernel_rfl
theorem cmpLOk : ConOk R Try.prog 33 cmpLCon := con_of_fn R X1 (TabOk.con R X1Ok) mixed Try.call33 Try.func33 cmpLCon (by
  intro args cs K h
  unfold cmpLCon at h
  split at h
  · rename_i a0 a1
    refine ⟨noAnn, _, fun v S hv => ⟨_, h, hv⟩, ?_⟩
    rw [cmpLVc a0 a1]
    unfold cmpL
    cases (nanL a0)
    ·
      cases (nanL a1)
      ·
        cases (decide (a0 < a1))
        ·
          cases (decide (a0 > a1))
          ·
            exact ⟨⟨rfl, trivial⟩, trivial⟩
          ·
            exact ⟨⟨rfl, trivial⟩, trivial⟩
        ·
          exact ⟨⟨rfl, trivial⟩, trivial⟩
      ·
        exact ⟨⟨rfl, trivial⟩, trivial⟩
    ·
      cases (nanL a1)
      ·
        exact ⟨⟨rfl, trivial⟩, trivial⟩
      ·
        exact ⟨⟨rfl, trivial⟩, trivial⟩
  · exact h.elim)
/-! ### cmp.Compare[int] -/
def cmpI (a0 : Int) (a1 : Int) : Int := (match (nanI a0) with | true => (match (nanI a1) with | true => ((0 : Int)) | false => ((-1 : Int))) | false => (match (nanI a1) with | true => ((1 : Int)) | false => (match (decide (a0 < a1)) with | true => ((-1 : Int)) | false => (match (decide (a0 > a1)) with | true => ((1 : Int)) | false => ((0 : Int))))))
noncomputable def cmpICon : Con T O := fun args cs => match args, cs with
  | [.raw (.int .i64 a0), .raw (.int .i64 a1)], [] => retv (.raw (.int .i64 (cmpI a0 a1)))
  | _, _ => .fail
theorem cmpIVc (a0 : Int) (a1 : Int) : fnX X1 noAnn Try.f35 [.raw (.int .i64 a0), .raw (.int .i64 a1)] [] (ends [] ⟨some (.raw (.int .i64 (cmpI a0 a1))), []⟩) = ((match (nanI a0) with | true => (match (nanI a1) with | true => ((cmpI a0 a1 = ((0 : Int))) ∧ True) ∧ True | false => ((cmpI a0 a1 = ((-1 : Int))) ∧ True) ∧ True) | false => (match (nanI a1) with | true => ((cmpI a0 a1 = ((1 : Int))) ∧ True) ∧ True | false => (match (decide (a0 < a1)) with | true => ((cmpI a0 a1 = ((-1 : Int))) ∧ True) ∧ True | false => (match (decide (a0 > a1)) with | true => ((cmpI a0 a1 = ((1 : Int))) ∧ True) ∧ True | false => ((cmpI a0 a1 = ((0 : Int))) ∧ True) ∧ True))))) := by kernel_rfl
theorem cmpIOk : ConOk R Try.prog 35 cmpICon := con_of_fn R X1 (TabOk.con R X1Ok) mixed Try.call35 Try.func35 cmpICon (by
  intro args cs K h
  unfold cmpICon at h
  split at h
  · rename_i a0 a1
    refine ⟨noAnn, _, fun v S hv => ⟨_, h, hv⟩, ?_⟩
    rw [cmpIVc a0 a1]
    unfold cmpI
    cases (nanI a0)
    ·
      cases (nanI a1)
      ·
        cases (decide (a0 < a1))
        ·
          cases (decide (a0 > a1))
          ·
            exact ⟨⟨rfl, trivial⟩, trivial⟩
          ·
            exact ⟨⟨rfl, trivial⟩, trivial⟩
        ·
          exact ⟨⟨rfl, trivial⟩, trivial⟩
      ·
        exact ⟨⟨rfl, trivial⟩, trivial⟩
    ·
      cases (nanI a1)
      ·
        exact ⟨⟨rfl, trivial⟩, trivial⟩
      ·
        exact ⟨⟨rfl, trivial⟩, trivial⟩
  · exact h.elim)
/-! ### cmp.Or[int] -/
def cmpOrText (L : List Int) : Prop := ((∃ x : Nat, (((x ≤ L.length) ∧ (orL L = orL (List.drop x L))) ∧ ((((0 : Int) = (0 : Int)) ∧ (True ∧ (((↑L.length : Int) = (↑L.length : Int)) ∧ (((↑x : Int) = (0 : Int)) ∧ True)))) ∧ ((L = L) ∧ True)))) ∧ (∀ x : Nat, (((x ≤ L.length) ∧ (orL L = orL (List.drop x L))) → (match (decide ((↑x : Int) < (↑L.length : Int))) with | true => (match (inb (↑x : Int) L.length) with | true => (match (inb (↑x : Int) L.length) with | true => (match (at' (0 : Int) L (↑x : Int) != (0 : Int)) with | true => (((orL L = at' (0 : Int) L (↑x : Int)) ∧ True) ∧ ((L = L) ∧ True)) | false => (∃ x' : Nat, (((x' ≤ L.length) ∧ (orL L = orL (List.drop x' L))) ∧ ((L.length - x' < L.length - x) ∧ ((((0 : Int) = (0 : Int)) ∧ (True ∧ (((↑L.length : Int) = (↑L.length : Int)) ∧ (((↑x' : Int) = IntKind.i64.wrap ((↑x : Int) + (1 : Int))) ∧ True)))) ∧ ((L = L) ∧ True)))))) | false => False) | false => False) | false => (((orL L = (0 : Int)) ∧ True) ∧ ((L = L) ∧ True))))))
theorem cmpOrVc (L : List Int) : fnX X1 (oneLoop 3 { σ := Nat, st := fun S x => (S.keep [3, 6, 7]).int 8 x, inv := fun _ x => x ≤ L.length ∧ orL L = orL (L.drop x), m := fun x => L.length - x }) Try.f34 [.own 0] [.vec 0 L 3] (ends [.vec 0 L 3] ⟨some (.raw (.int .i64 (orL L))), [(0, some (.vec 0 L 3))]⟩) = cmpOrText L := by kernel_rfl
theorem cmpOrHolds (L : List Int) (hp : L.length ≤ 140737488355328) : cmpOrText L := by
  unfold cmpOrText
  refine ⟨⟨0, ⟨by omega, rfl⟩, by repeat' first | trivial | rfl | apply And.intro⟩, ?_⟩
  rintro x ⟨hx, hs⟩
  by_cases h : x < L.length
  · rw [dec_lt h, inb_nat h, at_nat h]
    rw [drop_at h] at hs
    simp only [orL] at hs
    have hw := wrap_succ h hp
    cases hq : L[x] != 0
    · rw [hq] at hs
      exact ⟨x + 1, ⟨by omega, by simpa using hs⟩, by omega, by repeat' first | exact hw.symm | trivial | rfl | apply And.intro⟩
    · rw [hq] at hs
      exact ⟨⟨by simpa using hs, trivial⟩, rfl, trivial⟩
  · rw [dec_ge (by omega)]
    rw [List.drop_of_length_le (by omega)] at hs
    exact ⟨⟨hs, trivial⟩, rfl, trivial⟩
noncomputable def cmpOrCon : Con T O := fun args cs => match args, cs with
  | [.own 0], [.vec 0 L 3] => chk (decide (L.length ≤ 140737488355328)) (.ret ⟨some (.raw (.int .i64 (orL L))), [(0, some (.vec 0 L 3))]⟩)
  | _, _ => .fail
theorem cmpOrOk : ConOk R Try.prog 34 cmpOrCon := con_of_fn R (X1) (TabOk.con R X1Ok) mixed Try.call34 Try.func34 cmpOrCon (by
  intro args cs K h
  unfold cmpOrCon at h
  split at h
  · rename_i L
    rw [Tree.holds_chk] at h
    obtain ⟨hp, h⟩ := h
    refine ⟨oneLoop 3 { σ := Nat, st := fun S x => (S.keep [3, 6, 7]).int 8 x, inv := fun _ x => x ≤ L.length ∧ orL L = orL (L.drop x), m := fun x => L.length - x }, _, fun v S hv => ⟨_, h, hv⟩, ?_⟩
    rw [cmpOrVc L]
    exact cmpOrHolds L (of_decide_eq_true hp)
  · exact h.elim)
noncomputable def tab2 : Tab T O := (33, cmpLCon) :: (35, cmpICon) :: (34, cmpOrCon) :: tab1
theorem tabOk2 : TabOk R Try.prog tab2 := TabOk.cons R cmpLOk <| TabOk.cons R cmpIOk <| TabOk.cons R cmpOrOk <| tabOk1
noncomputable def X2 : Ctx T O := { X0 with con := conOf tab2 }
theorem X2Ok : TabOk R X2.P tab2 := tabOk2
end Go.Proofs.Ytjhkokdcjikkiaa
