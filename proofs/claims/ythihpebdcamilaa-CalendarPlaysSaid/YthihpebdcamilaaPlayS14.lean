/-
  Part of a proof over the seat Ythihpebdcamilaa: printed by a small program or typed by hand.
-/
import Derived.Test.YthihpebdcamilaaPlayS13
import Derived.KernelRfl
namespace Go.Proofs.Ythihpebdcamilaa
open Go.Sx Go.Proofs Classical
/-! ### (*regatta/regattaref08.Calendar).Put -/
def putRText (R : List Ev) (e : Ev) : Prop := (match (decide (e.ID < (0 : Int))) with | true => (match (calendarRight e.ID e.Kind && decide ((0 : Int) ≤ e.At) && decide (findN e.ID e.Kind R (0 : Int) < (0 : Int))) with | true => False | false => ((((bif calendarRight e.ID e.Kind && decide ((0 : Int) ≤ e.At) then (14 : Int) else (1 : Int)) = (1 : Int)) ∧ True) ∧ ((True ∧ True) ∧ ((R = R) ∧ True)))) | false => (match (decide (e.ID > (1023 : Int))) with | true => (match (calendarRight e.ID e.Kind && decide ((0 : Int) ≤ e.At) && decide (findN e.ID e.Kind R (0 : Int) < (0 : Int))) with | true => False | false => ((((bif calendarRight e.ID e.Kind && decide ((0 : Int) ≤ e.At) then (14 : Int) else (1 : Int)) = (1 : Int)) ∧ True) ∧ ((True ∧ True) ∧ ((R = R) ∧ True)))) | false => (match (decide (e.Kind < (0 : Int))) with | true => (match (calendarRight e.ID e.Kind && decide ((0 : Int) ≤ e.At) && decide (findN e.ID e.Kind R (0 : Int) < (0 : Int))) with | true => False | false => ((((bif calendarRight e.ID e.Kind && decide ((0 : Int) ≤ e.At) then (14 : Int) else (1 : Int)) = (1 : Int)) ∧ True) ∧ ((True ∧ True) ∧ ((R = R) ∧ True)))) | false => (match (decide (e.Kind > (7 : Int))) with | true => (match (calendarRight e.ID e.Kind && decide ((0 : Int) ≤ e.At) && decide (findN e.ID e.Kind R (0 : Int) < (0 : Int))) with | true => False | false => ((((bif calendarRight e.ID e.Kind && decide ((0 : Int) ≤ e.At) then (14 : Int) else (1 : Int)) = (1 : Int)) ∧ True) ∧ ((True ∧ True) ∧ ((R = R) ∧ True)))) | false => (match (decide (e.At < (0 : Int))) with | true => (match (calendarRight e.ID e.Kind && decide ((0 : Int) ≤ e.At) && decide (findN e.ID e.Kind R (0 : Int) < (0 : Int))) with | true => False | false => ((((bif calendarRight e.ID e.Kind && decide ((0 : Int) ≤ e.At) then (14 : Int) else (1 : Int)) = (1 : Int)) ∧ True) ∧ ((True ∧ True) ∧ ((R = R) ∧ True)))) | false => (match (decide (R.length ≤ (1000 : Nat))) with | true => (match (decide (findN e.ID e.Kind R (0 : Int) ≥ (0 : Int))) with | true => (match (calendarRight e.ID e.Kind && decide ((0 : Int) ≤ e.At) && decide (findN e.ID e.Kind R (0 : Int) < (0 : Int))) with | true => False | false => ((((bif calendarRight e.ID e.Kind && decide ((0 : Int) ≤ e.At) then (14 : Int) else (1 : Int)) = (14 : Int)) ∧ True) ∧ ((True ∧ True) ∧ ((R = R) ∧ True)))) | false => ((∃ x : Nat × List Ev × Bool, (((x.fst ≤ R.length) ∧ ((x.snd.fst.length ≤ (2 : Nat) * x.fst) ∧ (insR e R = x.snd.fst ++ insGo e x.snd.snd (List.drop x.fst R)))) ∧ ((True ∧ (True ∧ (True ∧ ((x.snd.snd = false) ∧ (((↑x.fst : Int) = (0 : Int)) ∧ True))))) ∧ ((True ∧ True) ∧ ((R = R) ∧ (((e.At = e.At) ∧ ((e.ID = e.ID) ∧ ((e.Kind = e.Kind) ∧ True))) ∧ ((x.snd.fst = []) ∧ True))))))) ∧ (∀ x : Nat × List Ev × Bool, (((x.fst ≤ R.length) ∧ ((x.snd.fst.length ≤ (2 : Nat) * x.fst) ∧ (insR e R = x.snd.fst ++ insGo e x.snd.snd (List.drop x.fst R)))) → (match (decide ((↑x.fst : Int) < (↑R.length : Int))) with | true => (match (inb (↑x.fst : Int) R.length) with | true => (match (inb (↑x.fst : Int) R.length) with | true => (match (!x.snd.snd) with | true => (match (ref08Before e (at' evE.zero R (↑x.fst : Int))) with | true => (match (roomy (x.snd.fst.length + (1 : Nat)) (nat_lit 24)) with | true => (match (inb (↑x.fst : Int) R.length) with | true => (match (inb (↑x.fst : Int) R.length) with | true => (match (roomy ((x.snd.fst ++ [e]).length + (1 : Nat)) (nat_lit 24)) with | true => (∃ x' : Nat × List Ev × Bool, (((x'.fst ≤ R.length) ∧ ((x'.snd.fst.length ≤ (2 : Nat) * x'.fst) ∧ (insR e R = x'.snd.fst ++ insGo e x'.snd.snd (List.drop x'.fst R)))) ∧ ((R.length - x'.fst < R.length - x.fst) ∧ ((True ∧ (True ∧ (True ∧ ((x'.snd.snd = true) ∧ (((↑x'.fst : Int) = IntKind.i64.wrap ((↑x.fst : Int) + (1 : Int))) ∧ True))))) ∧ ((True ∧ True) ∧ ((R = R) ∧ (((e.At = e.At) ∧ ((e.ID = e.ID) ∧ ((e.Kind = e.Kind) ∧ True))) ∧ ((x'.snd.fst = x.snd.fst ++ [e] ++ [at' evE.zero R (↑x.fst : Int)]) ∧ True)))))))) | false => False) | false => False) | false => False) | false => False) | false => (match (inb (↑x.fst : Int) R.length) with | true => (match (inb (↑x.fst : Int) R.length) with | true => (match (roomy (x.snd.fst.length + (1 : Nat)) (nat_lit 24)) with | true => (∃ x' : Nat × List Ev × Bool, (((x'.fst ≤ R.length) ∧ ((x'.snd.fst.length ≤ (2 : Nat) * x'.fst) ∧ (insR e R = x'.snd.fst ++ insGo e x'.snd.snd (List.drop x'.fst R)))) ∧ ((R.length - x'.fst < R.length - x.fst) ∧ ((True ∧ (True ∧ (True ∧ ((x'.snd.snd = x.snd.snd) ∧ (((↑x'.fst : Int) = IntKind.i64.wrap ((↑x.fst : Int) + (1 : Int))) ∧ True))))) ∧ ((True ∧ True) ∧ ((R = R) ∧ (((e.At = e.At) ∧ ((e.ID = e.ID) ∧ ((e.Kind = e.Kind) ∧ True))) ∧ ((x'.snd.fst = x.snd.fst ++ [at' evE.zero R (↑x.fst : Int)]) ∧ True)))))))) | false => False) | false => False) | false => False)) | false => (match (inb (↑x.fst : Int) R.length) with | true => (match (inb (↑x.fst : Int) R.length) with | true => (match (roomy (x.snd.fst.length + (1 : Nat)) (nat_lit 24)) with | true => (∃ x' : Nat × List Ev × Bool, (((x'.fst ≤ R.length) ∧ ((x'.snd.fst.length ≤ (2 : Nat) * x'.fst) ∧ (insR e R = x'.snd.fst ++ insGo e x'.snd.snd (List.drop x'.fst R)))) ∧ ((R.length - x'.fst < R.length - x.fst) ∧ ((True ∧ (True ∧ (True ∧ ((x'.snd.snd = x.snd.snd) ∧ (((↑x'.fst : Int) = IntKind.i64.wrap ((↑x.fst : Int) + (1 : Int))) ∧ True))))) ∧ ((True ∧ True) ∧ ((R = R) ∧ (((e.At = e.At) ∧ ((e.ID = e.ID) ∧ ((e.Kind = e.Kind) ∧ True))) ∧ ((x'.snd.fst = x.snd.fst ++ [at' evE.zero R (↑x.fst : Int)]) ∧ True)))))))) | false => False) | false => False) | false => False)) | false => False) | false => False) | false => (match (!x.snd.snd) with | true => (match (roomy (x.snd.fst.length + (1 : Nat)) (nat_lit 24)) with | true => (match (calendarRight e.ID e.Kind && decide ((0 : Int) ≤ e.At) && decide (findN e.ID e.Kind R (0 : Int) < (0 : Int))) with | true => ((((0 : Int) = (0 : Int)) ∧ True) ∧ ((True ∧ True) ∧ ((R = R) ∧ ((insR e R = x.snd.fst ++ [e]) ∧ True)))) | false => ((((bif calendarRight e.ID e.Kind && decide ((0 : Int) ≤ e.At) then (14 : Int) else (1 : Int)) = (0 : Int)) ∧ True) ∧ ((False ∧ True) ∧ ((R = R) ∧ True)))) | false => False) | false => (match (calendarRight e.ID e.Kind && decide ((0 : Int) ≤ e.At) && decide (findN e.ID e.Kind R (0 : Int) < (0 : Int))) with | true => ((((0 : Int) = (0 : Int)) ∧ True) ∧ ((True ∧ True) ∧ ((R = R) ∧ ((insR e R = x.snd.fst) ∧ True)))) | false => ((((bif calendarRight e.ID e.Kind && decide ((0 : Int) ≤ e.At) then (14 : Int) else (1 : Int)) = (0 : Int)) ∧ True) ∧ ((False ∧ True) ∧ ((R = R) ∧ True)))))))))) | false => False))))))
theorem putRVc (R : List Ev) (e : Ev) : fnX X13 (oneLoop 8 { σ := Nat × List Ev × Bool, st := fun S x => (((S.keep [0, 3]).int 7 x.1).bool 6 x.2.2).new 5 (.vec 3 x.2.1 27), inv := fun _ x => x.1 ≤ R.length ∧ x.2.1.length ≤ 2 * x.1 ∧ insR e R = x.2.1 ++ insGo e x.2.2 (R.drop x.1), m := fun x => R.length - x.1 }) Try.f21 [.ptr 0 0, .agg [.raw (.int .i64 e.At), .raw (.int .i64 e.ID), .raw (.int .i64 e.Kind)]] [.cells [.own 1] 39, .ro 3 R] (endsIf (calendarRight e.ID e.Kind && decide (0 ≤ e.At) && decide (findN e.ID e.Kind R 0 < 0)) [.cells [.own 1] 39, .ro 3 R] ⟨some (.raw (.int .i64 0)), [(0, some (.cells [.own 2] 39)), (2, some (.vec 3 (insR e R) 27))]⟩ ⟨some (.raw (.int .i64 (bif calendarRight e.ID e.Kind && decide (0 ≤ e.At) then 14 else 1))), []⟩) = putRText R e := by kernel_rfl
theorem putRHolds (R : List Ev) (e : Ev) (hp : R.length ≤ 1000) : putRText R e := by
  unfold putRText
  rw [right_iff]
  by_cases a1 : 0 ≤ e.ID
  · by_cases a2 : e.ID < 1024
    · by_cases a3 : 0 ≤ e.Kind
      · by_cases a4 : e.Kind < 8
        · rw [show decide (e.ID < 0) = false from decide_eq_false (by omega), show decide (e.ID > 1023) = false from decide_eq_false (by omega), show decide (e.Kind < 0) = false from decide_eq_false (by omega), show decide (e.Kind > 7) = false from decide_eq_false (by omega), decide_eq_true (⟨a1, a2, a3, a4⟩ : 0 ≤ e.ID ∧ e.ID < 1024 ∧ 0 ≤ e.Kind ∧ e.Kind < 8), decide_eq_true hp]
          by_cases a5 : 0 ≤ e.At
          · rw [show decide (e.At < 0) = false from decide_eq_false (by omega), decide_eq_true a5]
            rcases findN_cases e.ID e.Kind R 0 with h0 | ⟨n, hn, h0⟩
            · rw [h0, show decide ((-1 : Int) ≥ 0) = false from rfl, show decide ((-1 : Int) < 0) = true from rfl]
              refine ⟨⟨(0, [], false), ⟨Nat.zero_le _, by simp, rfl⟩, by repeat' first | trivial | rfl | apply And.intro⟩, ?_⟩
              rintro ⟨x, out, put⟩ ⟨hx, ho, hs⟩
              dsimp only at hx ho hs ⊢
              by_cases h : x < R.length
              · have hw : ((x + 1 : Nat) : Int) = IntKind.i64.wrap ((x : Int) + (1 : Int)) := by rw [wrap_id (by omega) (by omega)]; rfl
                rw [dec_lt h, inb_nat h, show at' evE.zero R (x : Int) = R[x] from at_nat h]
                rw [show roomy (out.length + 1) 24 = true by simp [roomy]; omega, show roomy ((out ++ [(e : (T 3).α)]).length + 1) 24 = true by rw [List.length_append, List.length_singleton]; simp [roomy]; omega]
                rw [drop_at h] at hs
                simp only [insGo] at hs
                cases put
                · cases hb : ref08Before e R[x]
                  · rw [hb] at hs
                    refine ⟨(x + 1, out ++ [R[x]], false), ⟨h, by dsimp only; rw [List.length_append, List.length_singleton]; omega, by rw [hs]; simp⟩, by dsimp only; omega, ?_⟩
                    repeat' first | exact hw | trivial | rfl | apply And.intro
                  · rw [hb] at hs
                    refine ⟨(x + 1, out ++ [e] ++ [R[x]], true), ⟨h, by dsimp only; rw [List.length_append, List.length_append, List.length_singleton, List.length_singleton]; omega, by rw [hs]; simp⟩, by dsimp only; omega, ?_⟩
                    repeat' first | exact hw | trivial | rfl | apply And.intro
                · refine ⟨(x + 1, out ++ [R[x]], true), ⟨h, by dsimp only; rw [List.length_append, List.length_singleton]; omega, by rw [hs]; simp⟩, by dsimp only; omega, ?_⟩
                  repeat' first | exact hw | trivial | rfl | apply And.intro
              · rw [dec_ge (by omega), show roomy (out.length + 1) 24 = true by simp [roomy]; omega]
                rw [List.drop_of_length_le (by omega)] at hs
                cases put
                · have hs : insR e R = out ++ [e] := hs
                  repeat' first | exact hs | trivial | rfl | apply And.intro
                · have hs : insR e R = out := by rw [hs]; simp [insGo]
                  repeat' first | exact hs | trivial | rfl | apply And.intro
            · rw [h0, show decide ((0 : Int) + (n : Int) ≥ 0) = true from decide_eq_true (by omega), show decide ((0 : Int) + (n : Int) < 0) = false from decide_eq_false (by omega)]
              repeat' first | trivial | rfl | apply And.intro
          · rw [show decide (e.At < 0) = true from decide_eq_true (by omega), decide_eq_false a5]
            repeat' first | trivial | rfl | apply And.intro
        · rw [show decide (e.ID < 0) = false from decide_eq_false (by omega), show decide (e.ID > 1023) = false from decide_eq_false (by omega), show decide (e.Kind < 0) = false from decide_eq_false (by omega), show decide (e.Kind > 7) = true from decide_eq_true (by omega), show decide (0 ≤ e.ID ∧ e.ID < 1024 ∧ 0 ≤ e.Kind ∧ e.Kind < 8) = false from decide_eq_false (by omega)]
          repeat' first | trivial | rfl | apply And.intro
      · rw [show decide (e.ID < 0) = false from decide_eq_false (by omega), show decide (e.ID > 1023) = false from decide_eq_false (by omega), show decide (e.Kind < 0) = true from decide_eq_true (by omega), show decide (0 ≤ e.ID ∧ e.ID < 1024 ∧ 0 ≤ e.Kind ∧ e.Kind < 8) = false from decide_eq_false (by omega)]
        repeat' first | trivial | rfl | apply And.intro
    · rw [show decide (e.ID < 0) = false from decide_eq_false (by omega), show decide (e.ID > 1023) = true from decide_eq_true (by omega), show decide (0 ≤ e.ID ∧ e.ID < 1024 ∧ 0 ≤ e.Kind ∧ e.Kind < 8) = false from decide_eq_false (by omega)]
      repeat' first | trivial | rfl | apply And.intro
  · rw [show decide (e.ID < 0) = true from decide_eq_true (by omega), show decide (0 ≤ e.ID ∧ e.ID < 1024 ∧ 0 ≤ e.Kind ∧ e.Kind < 8) = false from decide_eq_false (by omega)]
    repeat' first | trivial | rfl | apply And.intro
noncomputable def putRCon : Con T O := fun args cs => match args, cs with
  | [.ptr 0 0, .agg [.raw (.int .i64 e_0), .raw (.int .i64 e_1), .raw (.int .i64 e_2)]], [.cells [.own 1] 39, .ro 3 R] => chk (decide (R.length ≤ 1000)) (.ite (calendarRight (⟨e_0, e_1, e_2⟩ : Ev).ID (⟨e_0, e_1, e_2⟩ : Ev).Kind && decide (0 ≤ (⟨e_0, e_1, e_2⟩ : Ev).At) && decide (findN (⟨e_0, e_1, e_2⟩ : Ev).ID (⟨e_0, e_1, e_2⟩ : Ev).Kind R 0 < 0)) (.ret ⟨some (.raw (.int .i64 0)), [(0, some (.cells [.own 2] 39)), (2, some (.vec 3 (insR (⟨e_0, e_1, e_2⟩ : Ev) R) 27))]⟩) (.ret ⟨some (.raw (.int .i64 (bif calendarRight (⟨e_0, e_1, e_2⟩ : Ev).ID (⟨e_0, e_1, e_2⟩ : Ev).Kind && decide (0 ≤ (⟨e_0, e_1, e_2⟩ : Ev).At) then 14 else 1))), []⟩))
  | _, _ => .fail
theorem putROk : ConOk R Try.prog 21 putRCon := con_of_fn R (X13) (TabOk.con R X13Ok) mixed Try.call21 Try.func21 putRCon (by
  intro args cs K h
  unfold putRCon at h
  split at h
  · rename_i e_0 e_1 e_2 R
    rw [Tree.holds_chk] at h
    obtain ⟨hp, h⟩ := h
    refine ⟨oneLoop 8 { σ := Nat × List Ev × Bool, st := fun S x => (((S.keep [0, 3]).int 7 x.1).bool 6 x.2.2).new 5 (.vec 3 x.2.1 27), inv := fun _ x => x.1 ≤ R.length ∧ x.2.1.length ≤ 2 * x.1 ∧ insR (⟨e_0, e_1, e_2⟩ : Ev) R = x.2.1 ++ insGo (⟨e_0, e_1, e_2⟩ : Ev) x.2.2 (R.drop x.1), m := fun x => R.length - x.1 }, _, fun v S hv => holds_if h v S hv, ?_⟩
    rw [putRVc R (⟨e_0, e_1, e_2⟩ : Ev)]
    exact putRHolds R (⟨e_0, e_1, e_2⟩ : Ev) (of_decide_eq_true hp)
  · exact h.elim)
/-! ### (*regatta/regattaref08.Calendar).Drop -/
def dropRText (R : List Ev) (id kind : Int) : Prop := (match (decide (R.length ≤ (1000 : Nat))) with | true => (match (decide (findN id kind R (0 : Int) < (0 : Int))) with | true => (match (decide ((0 : Int) ≤ findN id kind R (0 : Int))) with | true => False | false => ((((((0 : Int) = (0 : Int)) ∧ (((0 : Int) = (0 : Int)) ∧ (((0 : Int) = (0 : Int)) ∧ True))) ∧ ((false = false) ∧ True)) ∧ True) ∧ ((True ∧ True) ∧ ((R = R) ∧ True)))) | false => (match (inb (findN id kind R (0 : Int)) R.length) with | true => (match (inb (findN id kind R (0 : Int)) R.length) with | true => (match (slOk none (some (findN id kind R (0 : Int))) none (↑R.length : Int)) with | true => (match (roomy ((0 : Nat) + (cutL none (some (findN id kind R (0 : Int))) R).length) (nat_lit 24)) with | true => (match (slOk (some (IntKind.i64.wrap (findN id kind R (0 : Int) + (1 : Int)))) none none (↑R.length : Int)) with | true => (match (roomy (([] ++ cutL none (some (findN id kind R (0 : Int))) R).length + (cutL (some (IntKind.i64.wrap (findN id kind R (0 : Int) + (1 : Int)))) none R).length) (nat_lit 24)) with | true => (match (decide ((0 : Int) ≤ findN id kind R (0 : Int))) with | true => ((((((at' ez R (findN id kind R (0 : Int))).At = (at' evE.zero R (findN id kind R (0 : Int))).At) ∧ (((at' ez R (findN id kind R (0 : Int))).ID = (at' evE.zero R (findN id kind R (0 : Int))).ID) ∧ (((at' ez R (findN id kind R (0 : Int))).Kind = (at' evE.zero R (findN id kind R (0 : Int))).Kind) ∧ True))) ∧ ((true = true) ∧ True)) ∧ True) ∧ ((True ∧ True) ∧ ((R = R) ∧ ((List.take (findN id kind R (0 : Int)).toNat R ++ List.drop ((findN id kind R (0 : Int)).toNat + (1 : Nat)) R = [] ++ cutL none (some (findN id kind R (0 : Int))) R ++ cutL (some (IntKind.i64.wrap (findN id kind R (0 : Int) + (1 : Int)))) none R) ∧ True)))) | false => ((((((0 : Int) = (at' evE.zero R (findN id kind R (0 : Int))).At) ∧ (((0 : Int) = (at' evE.zero R (findN id kind R (0 : Int))).ID) ∧ (((0 : Int) = (at' evE.zero R (findN id kind R (0 : Int))).Kind) ∧ True))) ∧ ((false = true) ∧ True)) ∧ True) ∧ ((False ∧ True) ∧ ((R = R) ∧ True)))) | false => False) | false => False) | false => False) | false => False) | false => False) | false => False)) | false => False)
theorem dropRVc (R : List Ev) (id kind : Int) : fnX X13 (noAnn) Try.f15 [.ptr 0 0, .raw (.int .i64 id), .raw (.int .i64 kind)] [.cells [.own 1] 39, .ro 3 R] (endsIf (decide (0 ≤ findN id kind R 0)) [.cells [.own 1] 39, .ro 3 R] ⟨some (.tup [.agg [.raw (.int .i64 (at' ez R (findN id kind R 0)).At), .raw (.int .i64 (at' ez R (findN id kind R 0)).ID), .raw (.int .i64 (at' ez R (findN id kind R 0)).Kind)], .raw (.bool true)]), [(0, some (.cells [.own 2] 39)), (2, some (.vec 3 (R.take (findN id kind R 0).toNat ++ R.drop ((findN id kind R 0).toNat + 1)) 27))]⟩ ⟨some (.tup [.agg [.raw (.int .i64 0), .raw (.int .i64 0), .raw (.int .i64 0)], .raw (.bool false)]), []⟩) = dropRText R id kind := by kernel_rfl
theorem dropRHolds (R : List Ev) (id kind : Int) (hp : R.length ≤ 1000) : dropRText R id kind := by
  unfold dropRText
  rw [decide_eq_true hp]
  rcases findN_cases id kind R 0 with h0 | ⟨n, hn, h0⟩
  · rw [h0, show decide ((-1 : Int) < 0) = true from rfl, show decide ((0 : Int) ≤ -1) = false from rfl]
    repeat' first | trivial | rfl | apply And.intro
  · rw [Int.zero_add] at h0
    rw [h0, show decide ((n : Int) < 0) = false from decide_eq_false (by omega), show decide (0 ≤ (n : Int)) = true from decide_eq_true (by omega), inb_nat hn, slOk_to (Nat.le_of_lt hn), show IntKind.i64.wrap ((n : Int) + 1) = ((n + 1 : Nat) : Int) by rw [wrap_id (by omega) (by omega)]; rfl, slOk_from hn, cut_to, cut_from]
    rw [show roomy (0 + (R.take n).length) 24 = true by rw [List.length_take]; simp [roomy]; omega, show roomy ((([] : List (T 3).α) ++ R.take n).length + (R.drop (n + 1)).length) 24 = true by rw [List.nil_append, List.length_take, List.length_drop]; simp [roomy]; omega]
    repeat' first | trivial | rfl | apply And.intro
noncomputable def dropRCon : Con T O := fun args cs => match args, cs with
  | [.ptr 0 0, .raw (.int .i64 id), .raw (.int .i64 kind)], [.cells [.own 1] 39, .ro 3 R] => chk (decide (R.length ≤ 1000)) (.ite (decide (0 ≤ findN id kind R 0)) (.ret ⟨some (.tup [.agg [.raw (.int .i64 (at' ez R (findN id kind R 0)).At), .raw (.int .i64 (at' ez R (findN id kind R 0)).ID), .raw (.int .i64 (at' ez R (findN id kind R 0)).Kind)], .raw (.bool true)]), [(0, some (.cells [.own 2] 39)), (2, some (.vec 3 (R.take (findN id kind R 0).toNat ++ R.drop ((findN id kind R 0).toNat + 1)) 27))]⟩) (.ret ⟨some (.tup [.agg [.raw (.int .i64 0), .raw (.int .i64 0), .raw (.int .i64 0)], .raw (.bool false)]), []⟩))
  | _, _ => .fail
theorem dropROk : ConOk R Try.prog 15 dropRCon := con_of_fn R (X13) (TabOk.con R X13Ok) mixed Try.call15 Try.func15 dropRCon (by
  intro args cs K h
  unfold dropRCon at h
  split at h
  · rename_i id kind R
    rw [Tree.holds_chk] at h
    obtain ⟨hp, h⟩ := h
    refine ⟨noAnn, _, fun v S hv => holds_if h v S hv, ?_⟩
    rw [dropRVc R id kind]
    exact dropRHolds R id kind (of_decide_eq_true hp)
  · exact h.elim)
noncomputable def tab14 : Tab T O := (21, putRCon) :: (15, dropRCon) :: tab13
theorem tabOk14 : TabOk R Try.prog tab14 := TabOk.cons R putROk <| TabOk.cons R dropROk <| tabOk13
noncomputable def X14 : Ctx T O := { X0 with con := conOf tab14 }
theorem X14Ok : TabOk R X14.P tab14 := tabOk14
end Go.Proofs.Ythihpebdcamilaa
