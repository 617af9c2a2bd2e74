/-
  Part of a proof over the seat Ythfggjfpokknlaa: printed by a small program or typed by hand.
-/
import Derived.Test.YthfggjfpokknlaaStaS14
import Derived.KernelRfl
namespace Go.Proofs.Ythfggjfpokknlaa
open Go.Sx Go.Proofs Classical
/-! ### regatta/stats.of -/
def countOfK0Text (L : List Note) : Prop := ((∃ x : Nat, ((x.le L.length) ∧ ((True ∧ (True ∧ (True ∧ (((↑L.length : Int) = (↑L.length : Int)) ∧ (((↑x : Int) = (0 : Int)) ∧ True))))) ∧ ((L = L) ∧ ((True ∧ True) ∧ ((runsM (List.take x L) = noCount) ∧ True)))))) ∧ (∀ x : Nat, ((x.le L.length) → (match (decide ((↑x : Int) < (↑L.length : Int))) with | true => (match (inb (↑x : Int) L.length) with | true => (match (inb (↑x : Int) L.length) with | true => (∃ x' : Nat, ((x'.le L.length) ∧ ((L.length - x' < L.length - x) ∧ ((True ∧ (True ∧ (True ∧ (((↑L.length : Int) = (↑L.length : Int)) ∧ (((↑x' : Int) = IntKind.i64.wrap ((↑x : Int) + (1 : Int))) ∧ True))))) ∧ ((L = L) ∧ ((True ∧ True) ∧ ((runsM (List.take x' L) = addM (runsM (List.take x L)) (at' noteE.zero L (↑x : Int)).ID (1 : Int)) ∧ True))))))) | false => False) | false => False) | false => ((True ∧ True) ∧ ((L = L) ∧ ((True ∧ True) ∧ ((runsM L = runsM (List.take x L)) ∧ True))))))))
theorem countOfK0Vc (L : List Note) : fnX X14 (oneLoop 3 { σ := Nat, st := fun S x => atP ((S.keep [1, 5, 11, 12]).int 13 x) 5 [0] (.map 0 (runsM (L.take x))), inv := fun _ x => x ≤ L.length, m := fun x => L.length - x }) Try.f42 [.own 0, .fn 43 []] [.ro 4 L] (ends [.ro 4 L] ⟨some (.ptr 1 0), [(1, some (.cells [.own 2] 51)), (2, some (.map 0 (runsM L)))]⟩) = countOfK0Text L := by kernel_rfl
theorem countOfK0Holds (L : List Note) (hp : L.length ≤ 1000) : countOfK0Text L := by
  unfold countOfK0Text
  refine ⟨⟨0, Nat.zero_le _, by repeat' first | trivial | rfl | apply And.intro⟩, ?_⟩
  rintro x hx
  by_cases h : x < L.length
  · have hwx := wrap_succ h (show L.length ≤ 140737488355328 by omega)
    have hs := runsM_snoc (L.take x) L[x]
    rw [← take_snoc h] at hs
    rw [dec_lt h, inb_nat h, at_nat h]
    refine ⟨x + 1, h, by omega, ?_⟩
    repeat' first | exact hwx.symm | exact hs | trivial | rfl | apply And.intro
  · obtain rfl : x = L.length := Nat.le_antisymm hx (by omega)
    rw [dec_ge (Nat.le_refl _), List.take_length]
    repeat' first | trivial | rfl | apply And.intro
def countOfK1Text (L : List Note) : Prop := ((∃ x : Nat, ((x.le L.length) ∧ ((True ∧ (True ∧ (True ∧ (((↑L.length : Int) = (↑L.length : Int)) ∧ (((↑x : Int) = (0 : Int)) ∧ True))))) ∧ ((L = L) ∧ ((True ∧ True) ∧ ((coresM (List.take x L) = noCount) ∧ True)))))) ∧ (∀ x : Nat, ((x.le L.length) → (match (decide ((↑x : Int) < (↑L.length : Int))) with | true => (match (inb (↑x : Int) L.length) with | true => (match (inb (↑x : Int) L.length) with | true => (∃ x' : Nat, ((x'.le L.length) ∧ ((L.length - x' < L.length - x) ∧ ((True ∧ (True ∧ (True ∧ (((↑L.length : Int) = (↑L.length : Int)) ∧ (((↑x' : Int) = IntKind.i64.wrap ((↑x : Int) + (1 : Int))) ∧ True))))) ∧ ((L = L) ∧ ((True ∧ True) ∧ ((coresM (List.take x' L) = addM (coresM (List.take x L)) (at' noteE.zero L (↑x : Int)).Core (1 : Int)) ∧ True))))))) | false => False) | false => False) | false => ((True ∧ True) ∧ ((L = L) ∧ ((True ∧ True) ∧ ((coresM L = coresM (List.take x L)) ∧ True))))))))
theorem countOfK1Vc (L : List Note) : fnX X14 (oneLoop 3 { σ := Nat, st := fun S x => atP ((S.keep [1, 5, 11, 12]).int 13 x) 5 [0] (.map 0 (coresM (L.take x))), inv := fun _ x => x ≤ L.length, m := fun x => L.length - x }) Try.f42 [.own 0, .fn 44 []] [.ro 4 L] (ends [.ro 4 L] ⟨some (.ptr 1 0), [(1, some (.cells [.own 2] 51)), (2, some (.map 0 (coresM L)))]⟩) = countOfK1Text L := by kernel_rfl
theorem countOfK1Holds (L : List Note) (hp : L.length ≤ 1000) : countOfK1Text L := by
  unfold countOfK1Text
  refine ⟨⟨0, Nat.zero_le _, by repeat' first | trivial | rfl | apply And.intro⟩, ?_⟩
  rintro x hx
  by_cases h : x < L.length
  · have hwx := wrap_succ h (show L.length ≤ 140737488355328 by omega)
    have hs := coresM_snoc (L.take x) L[x]
    rw [← take_snoc h] at hs
    rw [dec_lt h, inb_nat h, at_nat h]
    refine ⟨x + 1, h, by omega, ?_⟩
    repeat' first | exact hwx.symm | exact hs | trivial | rfl | apply And.intro
  · obtain rfl : x = L.length := Nat.le_antisymm hx (by omega)
    rw [dec_ge (Nat.le_refl _), List.take_length]
    repeat' first | trivial | rfl | apply And.intro
def countOfK2Text  : Prop := ((True ∧ True) ∧ ((True ∧ True) ∧ ((noCount = noCount) ∧ True)))
theorem countOfK2Vc  : fnX X14 (annOf [] [(3, 1)]) Try.f42 [.raw (.slice none 0 0), .fn 43 []] [] (ends [] ⟨some (.ptr 0 0), [(0, some (.cells [.own 1] 51)), (1, some (.map 0 noCount))]⟩) = countOfK2Text  := by kernel_rfl
theorem countOfK2Holds  : countOfK2Text  := by
  unfold countOfK2Text
  repeat' first | trivial | rfl | apply And.intro
def countOfK3Text (L : List Note) : Prop := ((∃ x : Nat, ((x.le L.length) ∧ (((True ∧ True) ∧ (True ∧ (True ∧ (((↑L.length : Int) = (↑L.length : Int)) ∧ (((↑x : Int) = (0 : Int)) ∧ True))))) ∧ ((L = L) ∧ ((True ∧ True) ∧ (((movesQ (List.take x L)).snd = []) ∧ ((True ∧ True) ∧ (((movesQ (List.take x L)).fst = noCount) ∧ True)))))))) ∧ (∀ x : Nat, ((x.le L.length) → (match (decide ((↑x : Int) < (↑L.length : Int))) with | true => (match (inb (↑x : Int) L.length) with | true => (match (inb (↑x : Int) L.length) with | true => (match (!moved (movesQ (List.take x L)).snd (at' noteE.zero L (↑x : Int))) with | true => (∃ x' : Nat, ((x'.le L.length) ∧ ((L.length - x' < L.length - x) ∧ (((True ∧ True) ∧ (True ∧ (True ∧ (((↑L.length : Int) = (↑L.length : Int)) ∧ (((↑x' : Int) = IntKind.i64.wrap ((↑x : Int) + (1 : Int))) ∧ True))))) ∧ ((L = L) ∧ ((True ∧ True) ∧ (((movesQ (List.take x' L)).snd = mput (at' noteE.zero L (↑x : Int)).ID (at' noteE.zero L (↑x : Int)).Core (movesQ (List.take x L)).snd) ∧ ((True ∧ True) ∧ (((movesQ (List.take x' L)).fst = (movesQ (List.take x L)).fst) ∧ True))))))))) | false => (∃ x' : Nat, ((x'.le L.length) ∧ ((L.length - x' < L.length - x) ∧ (((True ∧ True) ∧ (True ∧ (True ∧ (((↑L.length : Int) = (↑L.length : Int)) ∧ (((↑x' : Int) = IntKind.i64.wrap ((↑x : Int) + (1 : Int))) ∧ True))))) ∧ ((L = L) ∧ ((True ∧ True) ∧ (((movesQ (List.take x' L)).snd = mput (at' noteE.zero L (↑x : Int)).ID (at' noteE.zero L (↑x : Int)).Core (movesQ (List.take x L)).snd) ∧ ((True ∧ True) ∧ (((movesQ (List.take x' L)).fst = addM (movesQ (List.take x L)).fst (at' noteE.zero L (↑x : Int)).ID (1 : Int)) ∧ True)))))))))) | false => False) | false => False) | false => ((True ∧ True) ∧ ((L = L) ∧ ((True ∧ True) ∧ (((movesQ L).snd = (movesQ (List.take x L)).snd) ∧ ((True ∧ True) ∧ (((movesQ L).fst = (movesQ (List.take x L)).fst) ∧ True))))))))))
theorem countOfK3Vc (L : List Note) : fnX X14 (oneLoop 3 { σ := Nat, st := fun S x => (atP ((S.keep [1, 5, 11, 12]).int 13 x) 5 [0] (.map 0 (movesQ (L.take x)).1)).chunk 2 (.map 0 (movesQ (L.take x)).2), inv := fun _ x => x ≤ L.length, m := fun x => L.length - x }) Try.f42 [.own 0, .fn 45 [.ptr 1 0]] [.ro 4 L, .cells [.own 2] 81, .map 0 []] (ends [.ro 4 L, .cells [.own 2] 81, .map 0 []] ⟨some (.ptr 3 0), [(2, some (.map 0 (movesQ L).2)), (3, some (.cells [.own 4] 51)), (4, some (.map 0 (movesQ L).1))]⟩) = countOfK3Text L := by kernel_rfl
theorem countOfK3Holds (L : List Note) (hp : L.length ≤ 1000) : countOfK3Text L := by
  unfold countOfK3Text
  refine ⟨⟨0, Nat.zero_le _, by repeat' first | trivial | rfl | apply And.intro⟩, ?_⟩
  rintro x hx
  by_cases h : x < L.length
  · have hwx := wrap_succ h (show L.length ≤ 140737488355328 by omega)
    have hs := movesQ_snoc (L.take x) L[x]
    rw [← take_snoc h] at hs
    rw [dec_lt h, inb_nat h, at_nat h]
    have h2 : (movesQ (L.take (x + 1))).2 = mput L[x].ID L[x].Core (movesQ (L.take x)).2 := by rw [hs]; rfl
    cases hm : moved (movesQ (L.take x)).2 L[x]
    · have h1 : (movesQ (L.take (x + 1))).1 = (movesQ (L.take x)).1 := by rw [hs]; unfold moveStep; rw [hm]; rfl
      refine ⟨x + 1, h, by omega, ?_⟩
      repeat' first | exact hwx.symm | exact h1 | exact h2 | trivial | rfl | apply And.intro
    · have h1 : (movesQ (L.take (x + 1))).1 = addM (movesQ (L.take x)).1 L[x].ID 1 := by rw [hs]; unfold moveStep; rw [hm]; rfl
      refine ⟨x + 1, h, by omega, ?_⟩
      repeat' first | exact hwx.symm | exact h1 | exact h2 | trivial | rfl | apply And.intro
  · obtain rfl : x = L.length := Nat.le_antisymm hx (by omega)
    rw [dec_ge (Nat.le_refl _), List.take_length]
    repeat' first | trivial | rfl | apply And.intro
noncomputable def countOfCon : Con T O := fun args cs => match args, cs with
  | [.own 0, .fn 43 []], [.ro 4 L] => chk (decide (L.length ≤ 1000)) (.ret ⟨some (.ptr 1 0), [(1, some (.cells [.own 2] 51)), (2, some (.map 0 (runsM L)))]⟩)
  | [.own 0, .fn 44 []], [.ro 4 L] => chk (decide (L.length ≤ 1000)) (.ret ⟨some (.ptr 1 0), [(1, some (.cells [.own 2] 51)), (2, some (.map 0 (coresM L)))]⟩)
  | [.raw (.slice none 0 0), .fn 43 []], [] => .ret ⟨some (.ptr 0 0), [(0, some (.cells [.own 1] 51)), (1, some (.map 0 noCount))]⟩
  | [.own 0, .fn 45 [.ptr 1 0]], [.ro 4 L, .cells [.own 2] 81, .map 0 []] => chk (decide (L.length ≤ 1000)) (.ret ⟨some (.ptr 3 0), [(2, some (.map 0 (movesQ L).2)), (3, some (.cells [.own 4] 51)), (4, some (.map 0 (movesQ L).1))]⟩)
  | _, _ => .fail
theorem countOfOk : ConOk R Try.prog 42 countOfCon := con_of_fn R (X14) (TabOk.con R X14Ok) mixed Try.call42 Try.func42 countOfCon (by
  intro args cs K h
  unfold countOfCon at h
  split at h
  · rename_i L
    rw [Tree.holds_chk] at h
    obtain ⟨hp, h⟩ := h
    refine ⟨oneLoop 3 { σ := Nat, st := fun S x => atP ((S.keep [1, 5, 11, 12]).int 13 x) 5 [0] (.map 0 (runsM (L.take x))), inv := fun _ x => x ≤ L.length, m := fun x => L.length - x }, _, fun v S hv => ⟨_, h, hv⟩, ?_⟩
    rw [countOfK0Vc L]
    exact countOfK0Holds L (of_decide_eq_true hp)
  · rename_i L
    rw [Tree.holds_chk] at h
    obtain ⟨hp, h⟩ := h
    refine ⟨oneLoop 3 { σ := Nat, st := fun S x => atP ((S.keep [1, 5, 11, 12]).int 13 x) 5 [0] (.map 0 (coresM (L.take x))), inv := fun _ x => x ≤ L.length, m := fun x => L.length - x }, _, fun v S hv => ⟨_, h, hv⟩, ?_⟩
    rw [countOfK1Vc L]
    exact countOfK1Holds L (of_decide_eq_true hp)
  ·
    refine ⟨annOf [] [(3, 1)], _, fun v S hv => ⟨_, h, hv⟩, ?_⟩
    rw [countOfK2Vc ]
    exact countOfK2Holds 
  · rename_i L
    rw [Tree.holds_chk] at h
    obtain ⟨hp, h⟩ := h
    refine ⟨oneLoop 3 { σ := Nat, st := fun S x => (atP ((S.keep [1, 5, 11, 12]).int 13 x) 5 [0] (.map 0 (movesQ (L.take x)).1)).chunk 2 (.map 0 (movesQ (L.take x)).2), inv := fun _ x => x ≤ L.length, m := fun x => L.length - x }, _, fun v S hv => ⟨_, h, hv⟩, ?_⟩
    rw [countOfK3Vc L]
    exact countOfK3Holds L (of_decide_eq_true hp)
  · exact h.elim)
noncomputable def tab15 : Tab T O := (42, countOfCon) :: tab14
theorem tabOk15 : TabOk R Try.prog tab15 := TabOk.cons R countOfOk <| tabOk14
noncomputable def X15 : Ctx T O := { X0 with con := conOf tab15 }
theorem X15Ok : TabOk R X15.P tab15 := tabOk15
end Go.Proofs.Ythfggjfpokknlaa
