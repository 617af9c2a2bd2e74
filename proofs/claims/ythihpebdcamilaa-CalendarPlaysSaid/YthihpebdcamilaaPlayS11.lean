/-
  Part of a proof over the seat Ythihpebdcamilaa: printed by a small program or typed by hand.
-/
import Derived.Test.YthihpebdcamilaaPlayS10
import Derived.KernelRfl
namespace Go.Proofs.Ythihpebdcamilaa
open Go.Sx Go.Proofs Classical

theorem sinkN_length : ∀ (n : Nat) (s : HS) (i : Nat), (sinkN n s i).1.length = s.1.length
  | 0, _, _ => rfl
  | n + 1, s, i => by
    simp only [sinkN]
    cases firstAt s.1 i 2 == i
    · simp only [cond_false]
      rw [sinkN_length n]
      exact swapL_length _ _ _
    · rfl
theorem takeH_length (s : HS) (i : Nat) : (takeH s i).1.length = s.1.length - 1 := by
  unfold takeH
  cases decide (i < s.1.length - 1)
  · simp only [cond_false]
    rw [List.length_take, swapL_length]
    omega
  · simp only [cond_true]
    rw [sinkN_length, riseN_length]
    dsimp only
    rw [List.length_take, swapL_length]
    omega
def dueN : Nat → HS → Int → List Ev × HS
  | 0, s, _ => ([], s)
  | n + 1, s, t => bif s.1.length == 0 || decide ((at' tz s.1 0).XAt > t) then ([], s) else ((at' tz s.1 0).X :: (dueN n (takeH s 0) t).1, (dueN n (takeH s 0) t).2)
def dueA (s : HS) (t : Int) : List Ev × HS := dueN s.1.length s t

/-! ### (*regatta/calendar.Calendar).Due -/
def dueCK0Text (L : List Thing) (M : List (Int × Int)) (t : Int) : Prop := ((∃ x : List Ev × HS, (((x.fst.length + x.snd.fst.length ≤ L.length) ∧ (((dueA (L, M) t).fst = x.fst ++ (dueA x.snd t).fst) ∧ ((dueA (L, M) t).snd = (dueA x.snd t).snd))) ∧ ((True ∧ ((t = t) ∧ (True ∧ True))) ∧ ((True ∧ True) ∧ ((True ∧ (True ∧ (True ∧ True))) ∧ ((x.snd.snd = M) ∧ ((x.snd.fst = L) ∧ ((x.fst = []) ∧ True)))))))) ∧ (∀ x : List Ev × HS, (((x.fst.length + x.snd.fst.length ≤ L.length) ∧ (((dueA (L, M) t).fst = x.fst ++ (dueA x.snd t).fst) ∧ ((dueA (L, M) t).snd = (dueA x.snd t).snd))) → (match (decide (x.snd.fst.length ≤ (1000 : Nat))) with | true => (match (!!x.snd.fst.length == (0 : Nat)) with | true => ((True ∧ True) ∧ ((True ∧ True) ∧ ((True ∧ (True ∧ (True ∧ True))) ∧ (((dueA (L, M) t).snd.snd = x.snd.snd) ∧ (((dueA (L, M) t).fst = x.fst) ∧ (((dueA (L, M) t).snd.fst = x.snd.fst) ∧ True)))))) | false => (match (decide ((bif x.snd.fst.length == (0 : Nat) then (0 : Int) else (at' tz x.snd.fst (0 : Int)).XAt) > t)) with | true => ((True ∧ True) ∧ ((True ∧ True) ∧ ((True ∧ (True ∧ (True ∧ True))) ∧ (((dueA (L, M) t).snd.snd = x.snd.snd) ∧ (((dueA (L, M) t).fst = x.fst) ∧ (((dueA (L, M) t).snd.fst = x.snd.fst) ∧ True)))))) | false => (match (decide (x.snd.fst.length ≤ (1000 : Nat))) with | true => (match (x.snd.fst.length == (0 : Nat)) with | true => (match (roomy (x.fst.length + (1 : Nat)) (nat_lit 24)) with | true => (∃ x' : List Ev × HS, (((x'.fst.length + x'.snd.fst.length ≤ L.length) ∧ (((dueA (L, M) t).fst = x'.fst ++ (dueA x'.snd t).fst) ∧ ((dueA (L, M) t).snd = (dueA x'.snd t).snd))) ∧ ((x'.snd.fst.length < x.snd.fst.length) ∧ ((True ∧ ((t = t) ∧ (True ∧ True))) ∧ ((True ∧ True) ∧ ((True ∧ (True ∧ (True ∧ True))) ∧ ((x'.snd.snd = x.snd.snd) ∧ ((x'.snd.fst = x.snd.fst) ∧ ((x'.fst = x.fst ++ [Ev.mk (bif x.snd.fst.length == (0 : Nat) then (0 : Int) else (at' tz x.snd.fst (0 : Int)).XAt) (bif x.snd.fst.length == (0 : Nat) then (0 : Int) else (at' tz x.snd.fst (0 : Int)).XID) (bif x.snd.fst.length == (0 : Nat) then (0 : Int) else (at' tz x.snd.fst (0 : Int)).XKind)]) ∧ True))))))))) | false => False) | false => (match (roomy (x.fst.length + (1 : Nat)) (nat_lit 24)) with | true => (∃ x' : List Ev × HS, (((x'.fst.length + x'.snd.fst.length ≤ L.length) ∧ (((dueA (L, M) t).fst = x'.fst ++ (dueA x'.snd t).fst) ∧ ((dueA (L, M) t).snd = (dueA x'.snd t).snd))) ∧ ((x'.snd.fst.length < x.snd.fst.length) ∧ ((True ∧ ((t = t) ∧ (True ∧ True))) ∧ ((True ∧ True) ∧ ((True ∧ (True ∧ (True ∧ True))) ∧ ((x'.snd.snd = (takeH x.snd (0 : Nat)).snd) ∧ ((x'.snd.fst = (takeH x.snd (0 : Nat)).fst) ∧ ((x'.fst = x.fst ++ [Ev.mk (bif x.snd.fst.length == (0 : Nat) then (0 : Int) else (at' tz x.snd.fst (0 : Int)).XAt) (bif x.snd.fst.length == (0 : Nat) then (0 : Int) else (at' tz x.snd.fst (0 : Int)).XID) (bif x.snd.fst.length == (0 : Nat) then (0 : Int) else (at' tz x.snd.fst (0 : Int)).XKind)]) ∧ True))))))))) | false => False)) | false => False))) | false => False))))
theorem dueCK0Vc (L : List Thing) (M : List (Int × Int)) (t : Int) : fnX X10 (oneLoop 2 { σ := List Ev × HS, st := fun S x => (((((((S.keep [0, 1]).drop 2).chunk 3 (.map 0 x.2.2)).chunk 1 (.cells [.fn 24 [], .own S.next, .own 3] 69)).add (.vec 2 x.2.1 74))).new 5 (.vec 3 x.1 27)), inv := fun _ x => x.1.length + x.2.1.length ≤ L.length ∧ (dueA (L, M) t).1 = x.1 ++ (dueA x.2 t).1 ∧ (dueA (L, M) t).2 = (dueA x.2 t).2, m := fun x => x.2.1.length }) Try.f12 [.ptr 0 0, .raw (.int .i64 t)] [.cells [.ptr 1 0] 53, .cells [.fn 24 [], .own 2, .own 3] 69, .vec 2 L 74, .map 0 M] (ends [.cells [.ptr 1 0] 53, .cells [.fn 24 [], .own 2, .own 3] 69, .vec 2 L 74, .map 0 M] ⟨some (.own 5), [(5, some (.vec 3 (dueA (L, M) t).1 27)), (1, some (.cells [.fn 24 [], .own 4, .own 3] 69)), (2, none), (3, some (.map 0 ((dueA (L, M) t).2).2)), (4, some (.vec 2 ((dueA (L, M) t).2).1 74))]⟩) = dueCK0Text L M t := by kernel_rfl
theorem dueCK0Holds (L : List Thing) (M : List (Int × Int)) (t : Int) (hp : L.length ≤ 1000) : dueCK0Text L M t := by
  unfold dueCK0Text
  refine ⟨⟨([], L, M), ⟨by simp, rfl, rfl⟩, by repeat' first | trivial | rfl | apply And.intro⟩, ?_⟩
  rintro ⟨O1, L1, M1⟩ ⟨h1, h2, h3⟩
  dsimp only at h1 h2 h3 ⊢
  rw [decide_eq_true (show L1.length ≤ 1000 by omega)]
  by_cases h0 : L1.length = 0
  · have e : dueA (L1, M1) t = ([], (L1, M1)) := by unfold dueA; dsimp only; rw [h0]; rfl
    rw [e, List.append_nil] at h2
    rw [e] at h3
    rw [h2, h3, show (L1.length == 0) = true from beq_iff_eq.2 h0]
    repeat' first | trivial | rfl | apply And.intro
  · have hb : (L1.length == 0) = false := beq_eq_false_iff_ne.2 h0
    obtain ⟨n, hn⟩ : ∃ n, L1.length = n + 1 := ⟨L1.length - 1, by omega⟩
    have hl : (takeH (L1, M1) 0).1.length = n := by rw [takeH_length]; dsimp only; omega
    rw [hb]
    by_cases ha : (at' tz L1 0).XAt > t
    · have e : dueA (L1, M1) t = ([], (L1, M1)) := by
        unfold dueA
        dsimp only
        rw [hn]
        simp only [dueN]
        rw [hb, decide_eq_true ha]
        rfl
      rw [e, List.append_nil] at h2
      rw [e] at h3
      rw [h2, h3]
      dsimp only [cond_false]
      rw [decide_eq_true ha]
      repeat' first | trivial | rfl | apply And.intro
    · have e : dueA (L1, M1) t = ((at' tz L1 0).X :: (dueA (takeH (L1, M1) 0) t).1, (dueA (takeH (L1, M1) 0) t).2) := by
        unfold dueA
        dsimp only
        rw [hn, hl]
        simp only [dueN]
        rw [hb, decide_eq_false ha]
        rfl
      rw [e] at h2 h3
      dsimp only [cond_false]
      rw [decide_eq_false ha, show roomy (O1.length + 1) 24 = true by simp [roomy]; omega]
      refine ⟨(O1 ++ [(at' tz L1 0).X], takeH (L1, M1) 0), ⟨by dsimp only; rw [hl, List.length_append, List.length_singleton]; omega, by rw [h2]; simp, h3⟩, by dsimp only; omega, ?_⟩
      repeat' first | trivial | rfl | apply And.intro
def dueCK1Text (t : Int) : Prop := (((Value.slice none (0 : Nat) (0 : Nat) = Value.slice none (0 : Nat) (0 : Nat)) ∧ True) ∧ (((Value.pointer none = Value.pointer none) ∧ True) ∧ True))
theorem dueCK1Vc (t : Int) : fnX X10 (annOf [] [(2, 1)]) Try.f12 [.ptr 0 0, .raw (.int .i64 t)] [.cells [.raw (.pointer none)] 53] (ends [.cells [.raw (.pointer none)] 53] ⟨some (.raw (.slice none 0 0)), []⟩) = dueCK1Text t := by kernel_rfl
theorem dueCK1Holds (t : Int) : dueCK1Text t := by
  unfold dueCK1Text
  repeat' first | trivial | rfl | apply And.intro
def dueCK2Text (t : Int) : Prop := (((Value.slice none (0 : Nat) (0 : Nat) = Value.slice none (0 : Nat) (0 : Nat)) ∧ True) ∧ True)
theorem dueCK2Vc (t : Int) : fnX X10 (annOf [] [(2, 1)]) Try.f12 [.raw (.pointer none), .raw (.int .i64 t)] [] (ends [] ⟨some (.raw (.slice none 0 0)), []⟩) = dueCK2Text t := by kernel_rfl
theorem dueCK2Holds (t : Int) : dueCK2Text t := by
  unfold dueCK2Text
  repeat' first | trivial | rfl | apply And.intro
noncomputable def dueCCon : Con T O := fun args cs => match args, cs with
  | [.ptr 0 0, .raw (.int .i64 t)], [.cells [.ptr 1 0] 53, .cells [.fn 24 [], .own 2, .own 3] 69, .vec 2 L 74, .map 0 M] => chk (decide (L.length ≤ 1000)) (.ret ⟨some (.own 5), [(5, some (.vec 3 (dueA (L, M) t).1 27)), (1, some (.cells [.fn 24 [], .own 4, .own 3] 69)), (2, none), (3, some (.map 0 ((dueA (L, M) t).2).2)), (4, some (.vec 2 ((dueA (L, M) t).2).1 74))]⟩)
  | [.ptr 0 0, .raw (.int .i64 _)], [.cells [.raw (.pointer none)] 53] => .ret ⟨some (.raw (.slice none 0 0)), []⟩
  | [.raw (.pointer none), .raw (.int .i64 _)], [] => .ret ⟨some (.raw (.slice none 0 0)), []⟩
  | _, _ => .fail
theorem dueCOk : ConOk R Try.prog 12 dueCCon := con_of_fn R (X10) (TabOk.con R X10Ok) mixed Try.call12 Try.func12 dueCCon (by
  intro args cs K h
  unfold dueCCon at h
  split at h
  · rename_i t L M
    rw [Tree.holds_chk] at h
    obtain ⟨hp, h⟩ := h
    refine ⟨oneLoop 2 { σ := List Ev × HS, st := fun S x => (((((((S.keep [0, 1]).drop 2).chunk 3 (.map 0 x.2.2)).chunk 1 (.cells [.fn 24 [], .own S.next, .own 3] 69)).add (.vec 2 x.2.1 74))).new 5 (.vec 3 x.1 27)), inv := fun _ x => x.1.length + x.2.1.length ≤ L.length ∧ (dueA (L, M) t).1 = x.1 ++ (dueA x.2 t).1 ∧ (dueA (L, M) t).2 = (dueA x.2 t).2, m := fun x => x.2.1.length }, _, fun v S hv => ⟨_, h, hv⟩, ?_⟩
    rw [dueCK0Vc L M t]
    exact dueCK0Holds L M t (of_decide_eq_true hp)
  · rename_i t
    refine ⟨annOf [] [(2, 1)], _, fun v S hv => ⟨_, h, hv⟩, ?_⟩
    rw [dueCK1Vc t]
    exact dueCK1Holds t
  · rename_i t
    refine ⟨annOf [] [(2, 1)], _, fun v S hv => ⟨_, h, hv⟩, ?_⟩
    rw [dueCK2Vc t]
    exact dueCK2Holds t
  · exact h.elim)
noncomputable def tab11 : Tab T O := (12, dueCCon) :: tab10
theorem tabOk11 : TabOk R Try.prog tab11 := TabOk.cons R dueCOk <| tabOk10
noncomputable def X11 : Ctx T O := { X0 with con := conOf tab11 }
theorem X11Ok : TabOk R X11.P tab11 := tabOk11
end Go.Proofs.Ythihpebdcamilaa
