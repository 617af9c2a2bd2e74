/-
  Part of a proof over the seat Ythihpebdcamilaa: printed by a small program or typed by hand.
-/
import Derived.Test.YthihpebdcamilaaPlayS9
import Derived.KernelRfl
namespace Go.Proofs.Ythihpebdcamilaa
open Go.Sx Go.Proofs Classical

abbrev evA (L : List Thing) (i : Int) : Int := (at' tz L i).XAt

/-! ### (*regatta/calendar.Calendar).Len -/
def lenCK0Text (L : List Thing) (M : List (Int × Int)) : Prop := ((((↑L.length : Int) = (↑L.length : Int)) ∧ True) ∧ ((True ∧ True) ∧ ((True ∧ (True ∧ (True ∧ True))) ∧ ((L = L) ∧ ((M = M) ∧ True)))))
theorem lenCK0Vc (L : List Thing) (M : List (Int × Int)) : fnX X9 (noAnn) Try.f13 [.ptr 0 0] [.cells [.ptr 1 0] 53, .cells [.fn 24 [], .own 2, .own 3] 69, .vec 2 L 74, .map 0 M] (ends [.cells [.ptr 1 0] 53, .cells [.fn 24 [], .own 2, .own 3] 69, .vec 2 L 74, .map 0 M] ⟨some (.raw (.int .i64 L.length)), [(2, some (.vec 2 L 74)), (3, some (.map 0 M))]⟩) = lenCK0Text L M := by kernel_rfl
theorem lenCK0Holds (L : List Thing) (M : List (Int × Int)) : lenCK0Text L M := by
  unfold lenCK0Text
  repeat' first | trivial | rfl | apply And.intro
def lenCK1Text  : Prop := ((((0 : Int) = (0 : Int)) ∧ True) ∧ (((Value.pointer none = Value.pointer none) ∧ True) ∧ True))
theorem lenCK1Vc  : fnX X9 (noAnn) Try.f13 [.ptr 0 0] [.cells [.raw (.pointer none)] 53] (ends [.cells [.raw (.pointer none)] 53] ⟨some (.raw (.int .i64 0)), []⟩) = lenCK1Text  := by kernel_rfl
theorem lenCK1Holds  : lenCK1Text  := by
  unfold lenCK1Text
  repeat' first | trivial | rfl | apply And.intro
def lenCK2Text  : Prop := ((((0 : Int) = (0 : Int)) ∧ True) ∧ True)
theorem lenCK2Vc  : fnX X9 (noAnn) Try.f13 [.raw (.pointer none)] [] (ends [] ⟨some (.raw (.int .i64 0)), []⟩) = lenCK2Text  := by kernel_rfl
theorem lenCK2Holds  : lenCK2Text  := by
  unfold lenCK2Text
  repeat' first | trivial | rfl | apply And.intro
noncomputable def lenCCon : Con T O := fun args cs => match args, cs with
  | [.ptr 0 0], [.cells [.ptr 1 0] 53, .cells [.fn 24 [], .own 2, .own 3] 69, .vec 2 L 74, .map 0 M] => .ret ⟨some (.raw (.int .i64 L.length)), [(2, some (.vec 2 L 74)), (3, some (.map 0 M))]⟩
  | [.ptr 0 0], [.cells [.raw (.pointer none)] 53] => .ret ⟨some (.raw (.int .i64 0)), []⟩
  | [.raw (.pointer none)], [] => .ret ⟨some (.raw (.int .i64 0)), []⟩
  | _, _ => .fail
theorem lenCOk : ConOk R Try.prog 13 lenCCon := con_of_fn R (X9) (TabOk.con R X9Ok) mixed Try.call13 Try.func13 lenCCon (by
  intro args cs K h
  unfold lenCCon at h
  split at h
  · rename_i L M
    refine ⟨noAnn, _, fun v S hv => ⟨_, h, hv⟩, ?_⟩
    rw [lenCK0Vc L M]
    exact lenCK0Holds L M
  ·
    refine ⟨noAnn, _, fun v S hv => ⟨_, h, hv⟩, ?_⟩
    rw [lenCK1Vc ]
    exact lenCK1Holds 
  ·
    refine ⟨noAnn, _, fun v S hv => ⟨_, h, hv⟩, ?_⟩
    rw [lenCK2Vc ]
    exact lenCK2Holds 
  · exact h.elim)
/-! ### (*regatta/calendar.Calendar).At -/
def atCK0Text (L : List Thing) (M : List (Int × Int)) (id kind : Int) : Prop := (match (!calendarRight id kind) with | true => (((((bif calendarRight id kind && thereB (calendarNumber id kind) M then (at' tz L (whereI (calendarNumber id kind) M)).XAt else (0 : Int)) = (0 : Int)) ∧ (((calendarRight id kind && thereB (calendarNumber id kind) M) = false) ∧ True)) ∧ True) ∧ ((True ∧ True) ∧ ((True ∧ (True ∧ (True ∧ True))) ∧ ((L = L) ∧ ((M = M) ∧ True))))) | false => (match (decide (thereB (calendarNumber id kind) M = true → (0 : Int) ≤ whereI (calendarNumber id kind) M ∧ whereI (calendarNumber id kind) M < (↑L.length : Int))) with | true => (((((bif calendarRight id kind && thereB (calendarNumber id kind) M then (at' tz L (whereI (calendarNumber id kind) M)).XAt else (0 : Int)) = bif thereB (calendarNumber id kind) M then (at' tz L (whereI (calendarNumber id kind) M)).XAt else (0 : Int)) ∧ (((calendarRight id kind && thereB (calendarNumber id kind) M) = thereB (calendarNumber id kind) M) ∧ True)) ∧ True) ∧ ((True ∧ True) ∧ ((True ∧ (True ∧ (True ∧ True))) ∧ ((L = L) ∧ ((M = M) ∧ True))))) | false => False))
theorem atCK0Vc (L : List Thing) (M : List (Int × Int)) (id kind : Int) : fnX X9 (noAnn) Try.f19 [.ptr 0 0, .raw (.int .i64 id), .raw (.int .i64 kind)] [.cells [.ptr 1 0] 53, .cells [.fn 24 [], .own 2, .own 3] 69, .vec 2 L 74, .map 0 M] (ends [.cells [.ptr 1 0] 53, .cells [.fn 24 [], .own 2, .own 3] 69, .vec 2 L 74, .map 0 M] ⟨some (.tup [.raw (.int .i64 (bif calendarRight id kind && thereB (calendarNumber id kind) M then (at' tz L (whereI (calendarNumber id kind) M)).XAt else 0)), .raw (.bool (calendarRight id kind && thereB (calendarNumber id kind) M))]), [(2, some (.vec 2 L 74)), (3, some (.map 0 M))]⟩) = atCK0Text L M id kind := by kernel_rfl
theorem atCK0Holds (L : List Thing) (M : List (Int × Int)) (id kind : Int) (hp : (thereB (calendarNumber id kind) M = true → 0 ≤ whereI (calendarNumber id kind) M ∧ whereI (calendarNumber id kind) M < L.length)) : atCK0Text L M id kind := by
  unfold atCK0Text
  cases calendarRight id kind
  · repeat' first | trivial | rfl | apply And.intro
  · rw [decide_eq_true hp]
    repeat' first | trivial | rfl | apply And.intro
def atCK1Text (id kind : Int) : Prop := (((((0 : Int) = (0 : Int)) ∧ ((false = false) ∧ True)) ∧ True) ∧ (((Value.pointer none = Value.pointer none) ∧ True) ∧ True))
theorem atCK1Vc (id kind : Int) : fnX X9 (noAnn) Try.f19 [.ptr 0 0, .raw (.int .i64 id), .raw (.int .i64 kind)] [.cells [.raw (.pointer none)] 53] (ends [.cells [.raw (.pointer none)] 53] ⟨some (.tup [.raw (.int .i64 0), .raw (.bool false)]), []⟩) = atCK1Text id kind := by kernel_rfl
theorem atCK1Holds (id kind : Int) : atCK1Text id kind := by
  unfold atCK1Text
  repeat' first | trivial | rfl | apply And.intro
def atCK2Text (id kind : Int) : Prop := (((((0 : Int) = (0 : Int)) ∧ ((false = false) ∧ True)) ∧ True) ∧ True)
theorem atCK2Vc (id kind : Int) : fnX X9 (noAnn) Try.f19 [.raw (.pointer none), .raw (.int .i64 id), .raw (.int .i64 kind)] [] (ends [] ⟨some (.tup [.raw (.int .i64 0), .raw (.bool false)]), []⟩) = atCK2Text id kind := by kernel_rfl
theorem atCK2Holds (id kind : Int) : atCK2Text id kind := by
  unfold atCK2Text
  repeat' first | trivial | rfl | apply And.intro
noncomputable def atCCon : Con T O := fun args cs => match args, cs with
  | [.ptr 0 0, .raw (.int .i64 id), .raw (.int .i64 kind)], [.cells [.ptr 1 0] 53, .cells [.fn 24 [], .own 2, .own 3] 69, .vec 2 L 74, .map 0 M] => chk (decide ((thereB (calendarNumber id kind) M = true → 0 ≤ whereI (calendarNumber id kind) M ∧ whereI (calendarNumber id kind) M < L.length))) (.ret ⟨some (.tup [.raw (.int .i64 (bif calendarRight id kind && thereB (calendarNumber id kind) M then (at' tz L (whereI (calendarNumber id kind) M)).XAt else 0)), .raw (.bool (calendarRight id kind && thereB (calendarNumber id kind) M))]), [(2, some (.vec 2 L 74)), (3, some (.map 0 M))]⟩)
  | [.ptr 0 0, .raw (.int .i64 _), .raw (.int .i64 _)], [.cells [.raw (.pointer none)] 53] => .ret ⟨some (.tup [.raw (.int .i64 0), .raw (.bool false)]), []⟩
  | [.raw (.pointer none), .raw (.int .i64 _), .raw (.int .i64 _)], [] => .ret ⟨some (.tup [.raw (.int .i64 0), .raw (.bool false)]), []⟩
  | _, _ => .fail
theorem atCOk : ConOk R Try.prog 19 atCCon := con_of_fn R (X9) (TabOk.con R X9Ok) mixed Try.call19 Try.func19 atCCon (by
  intro args cs K h
  unfold atCCon at h
  split at h
  · rename_i id kind L M
    rw [Tree.holds_chk] at h
    obtain ⟨hp, h⟩ := h
    refine ⟨noAnn, _, fun v S hv => ⟨_, h, hv⟩, ?_⟩
    rw [atCK0Vc L M id kind]
    exact atCK0Holds L M id kind (of_decide_eq_true hp)
  · rename_i id kind
    refine ⟨noAnn, _, fun v S hv => ⟨_, h, hv⟩, ?_⟩
    rw [atCK1Vc id kind]
    exact atCK1Holds id kind
  · rename_i id kind
    refine ⟨noAnn, _, fun v S hv => ⟨_, h, hv⟩, ?_⟩
    rw [atCK2Vc id kind]
    exact atCK2Holds id kind
  · exact h.elim)
/-! ### (*regatta/calendar.Calendar).Put -/
def putCK0Text (L : List Thing) (M : List (Int × Int)) (e : Ev) : Prop := (match (!calendarRight e.ID e.Kind) with | true => (match (calendarRight e.ID e.Kind && decide ((0 : Int) ≤ e.At) && !thereB (calendarNumber e.ID e.Kind) M) with | true => ((((0 : Int) = (1 : Int)) ∧ True) ∧ ((True ∧ True) ∧ ((True ∧ (True ∧ (True ∧ True))) ∧ (((pushH (L, M) (calendarNumber e.ID e.Kind) e).snd = M) ∧ (((pushH (L, M) (calendarNumber e.ID e.Kind) e).fst = L) ∧ True))))) | false => ((((bif calendarRight e.ID e.Kind && decide ((0 : Int) ≤ e.At) then (14 : Int) else (1 : Int)) = (1 : Int)) ∧ True) ∧ ((True ∧ True) ∧ ((True ∧ (True ∧ (True ∧ True))) ∧ ((L = L) ∧ ((M = M) ∧ True)))))) | false => (match (decide (e.At < (0 : Int))) with | true => (match (calendarRight e.ID e.Kind && decide ((0 : Int) ≤ e.At) && !thereB (calendarNumber e.ID e.Kind) M) with | true => ((((0 : Int) = (1 : Int)) ∧ True) ∧ ((True ∧ True) ∧ ((True ∧ (True ∧ (True ∧ True))) ∧ (((pushH (L, M) (calendarNumber e.ID e.Kind) e).snd = M) ∧ (((pushH (L, M) (calendarNumber e.ID e.Kind) e).fst = L) ∧ True))))) | false => ((((bif calendarRight e.ID e.Kind && decide ((0 : Int) ≤ e.At) then (14 : Int) else (1 : Int)) = (1 : Int)) ∧ True) ∧ ((True ∧ True) ∧ ((True ∧ (True ∧ (True ∧ True))) ∧ ((L = L) ∧ ((M = M) ∧ True)))))) | false => (match (decide (L.length ≤ (1000 : Nat))) with | true => (match (thereB (calendarNumber e.ID e.Kind) M) with | true => (match (calendarRight e.ID e.Kind && decide ((0 : Int) ≤ e.At) && !thereB (calendarNumber e.ID e.Kind) M) with | true => ((((0 : Int) = (14 : Int)) ∧ True) ∧ ((True ∧ True) ∧ ((True ∧ (True ∧ (True ∧ True))) ∧ (((pushH (L, M) (calendarNumber e.ID e.Kind) e).snd = M) ∧ (((pushH (L, M) (calendarNumber e.ID e.Kind) e).fst = L) ∧ True))))) | false => ((((bif calendarRight e.ID e.Kind && decide ((0 : Int) ≤ e.At) then (14 : Int) else (1 : Int)) = (14 : Int)) ∧ True) ∧ ((True ∧ True) ∧ ((True ∧ (True ∧ (True ∧ True))) ∧ ((L = L) ∧ ((M = M) ∧ True)))))) | false => (match (calendarRight e.ID e.Kind && decide ((0 : Int) ≤ e.At) && !thereB (calendarNumber e.ID e.Kind) M) with | true => ((((0 : Int) = (0 : Int)) ∧ True) ∧ ((True ∧ True) ∧ ((True ∧ (True ∧ (True ∧ True))) ∧ (((pushH (L, M) (calendarNumber e.ID e.Kind) e).snd = (pushH (L, M) (calendarNumber e.ID e.Kind) e).snd) ∧ (((pushH (L, M) (calendarNumber e.ID e.Kind) e).fst = (pushH (L, M) (calendarNumber e.ID e.Kind) e).fst) ∧ True))))) | false => ((((bif calendarRight e.ID e.Kind && decide ((0 : Int) ≤ e.At) then (14 : Int) else (1 : Int)) = (0 : Int)) ∧ True) ∧ ((True ∧ True) ∧ ((True ∧ (False ∧ (True ∧ True))) ∧ (False ∧ ((M = (pushH (L, M) (calendarNumber e.ID e.Kind) e).snd) ∧ True))))))) | false => False)))
theorem putCK0Vc (L : List Thing) (M : List (Int × Int)) (e : Ev) : fnX X9 (noAnn) Try.f11 [.ptr 0 0, .agg [.raw (.int .i64 e.At), .raw (.int .i64 e.ID), .raw (.int .i64 e.Kind)]] [.cells [.ptr 1 0] 53, .cells [.fn 24 [], .own 2, .own 3] 69, .vec 2 L 74, .map 0 M] (endsIf (calendarRight e.ID e.Kind && decide (0 ≤ e.At) && !thereB (calendarNumber e.ID e.Kind) M) [.cells [.ptr 1 0] 53, .cells [.fn 24 [], .own 2, .own 3] 69, .vec 2 L 74, .map 0 M] ⟨some (.raw (.int .i64 0)), [(1, some (.cells [.fn 24 [], .own 4, .own 3] 69)), (2, none), (3, some (.map 0 (pushH (L, M) (calendarNumber e.ID e.Kind) e).2)), (4, some (.vec 2 (pushH (L, M) (calendarNumber e.ID e.Kind) e).1 74))]⟩ ⟨some (.raw (.int .i64 (bif calendarRight e.ID e.Kind && decide (0 ≤ e.At) then 14 else 1))), [(2, some (.vec 2 L 74)), (3, some (.map 0 M))]⟩) = putCK0Text L M e := by kernel_rfl
theorem putCK0Holds (L : List Thing) (M : List (Int × Int)) (e : Ev) (hp : L.length ≤ 1000) : putCK0Text L M e := by
  unfold putCK0Text
  cases calendarRight e.ID e.Kind
  · repeat' first | trivial | rfl | apply And.intro
  · by_cases h0 : 0 ≤ e.At
    · rw [decide_eq_true h0, show decide (e.At < 0) = false from decide_eq_false (by omega), decide_eq_true hp]
      cases thereB (calendarNumber e.ID e.Kind) M
      · repeat' first | trivial | rfl | apply And.intro
      · repeat' first | trivial | rfl | apply And.intro
    · rw [decide_eq_false h0, show decide (e.At < 0) = true from decide_eq_true (by omega)]
      repeat' first | trivial | rfl | apply And.intro
def putCK1Text (e : Ev) : Prop := ((((1 : Int) = (1 : Int)) ∧ True) ∧ (((Value.pointer none = Value.pointer none) ∧ True) ∧ True))
theorem putCK1Vc (e : Ev) : fnX X9 (noAnn) Try.f11 [.ptr 0 0, .agg [.raw (.int .i64 e.At), .raw (.int .i64 e.ID), .raw (.int .i64 e.Kind)]] [.cells [.raw (.pointer none)] 53] (ends [.cells [.raw (.pointer none)] 53] ⟨some (.raw (.int .i64 1)), []⟩) = putCK1Text e := by kernel_rfl
theorem putCK1Holds (e : Ev) : putCK1Text e := by
  unfold putCK1Text
  repeat' first | trivial | rfl | apply And.intro
def putCK2Text (e : Ev) : Prop := ((((1 : Int) = (1 : Int)) ∧ True) ∧ True)
theorem putCK2Vc (e : Ev) : fnX X9 (noAnn) Try.f11 [.raw (.pointer none), .agg [.raw (.int .i64 e.At), .raw (.int .i64 e.ID), .raw (.int .i64 e.Kind)]] [] (ends [] ⟨some (.raw (.int .i64 1)), []⟩) = putCK2Text e := by kernel_rfl
theorem putCK2Holds (e : Ev) : putCK2Text e := by
  unfold putCK2Text
  repeat' first | trivial | rfl | apply And.intro
noncomputable def putCCon : Con T O := fun args cs => match args, cs with
  | [.ptr 0 0, .agg [.raw (.int .i64 e_0), .raw (.int .i64 e_1), .raw (.int .i64 e_2)]], [.cells [.ptr 1 0] 53, .cells [.fn 24 [], .own 2, .own 3] 69, .vec 2 L 74, .map 0 M] => chk (decide (L.length ≤ 1000)) (.ite (calendarRight (⟨e_0, e_1, e_2⟩ : Ev).ID (⟨e_0, e_1, e_2⟩ : Ev).Kind && decide (0 ≤ (⟨e_0, e_1, e_2⟩ : Ev).At) && !thereB (calendarNumber (⟨e_0, e_1, e_2⟩ : Ev).ID (⟨e_0, e_1, e_2⟩ : Ev).Kind) M) (.ret ⟨some (.raw (.int .i64 0)), [(1, some (.cells [.fn 24 [], .own 4, .own 3] 69)), (2, none), (3, some (.map 0 (pushH (L, M) (calendarNumber (⟨e_0, e_1, e_2⟩ : Ev).ID (⟨e_0, e_1, e_2⟩ : Ev).Kind) (⟨e_0, e_1, e_2⟩ : Ev)).2)), (4, some (.vec 2 (pushH (L, M) (calendarNumber (⟨e_0, e_1, e_2⟩ : Ev).ID (⟨e_0, e_1, e_2⟩ : Ev).Kind) (⟨e_0, e_1, e_2⟩ : Ev)).1 74))]⟩) (.ret ⟨some (.raw (.int .i64 (bif calendarRight (⟨e_0, e_1, e_2⟩ : Ev).ID (⟨e_0, e_1, e_2⟩ : Ev).Kind && decide (0 ≤ (⟨e_0, e_1, e_2⟩ : Ev).At) then 14 else 1))), [(2, some (.vec 2 L 74)), (3, some (.map 0 M))]⟩))
  | [.ptr 0 0, .agg [.raw (.int .i64 _), .raw (.int .i64 _), .raw (.int .i64 _)]], [.cells [.raw (.pointer none)] 53] => .ret ⟨some (.raw (.int .i64 1)), []⟩
  | [.raw (.pointer none), .agg [.raw (.int .i64 _), .raw (.int .i64 _), .raw (.int .i64 _)]], [] => .ret ⟨some (.raw (.int .i64 1)), []⟩
  | _, _ => .fail
theorem putCOk : ConOk R Try.prog 11 putCCon := con_of_fn R (X9) (TabOk.con R X9Ok) mixed Try.call11 Try.func11 putCCon (by
  intro args cs K h
  unfold putCCon at h
  split at h
  · rename_i e_0 e_1 e_2 L M
    rw [Tree.holds_chk] at h
    obtain ⟨hp, h⟩ := h
    refine ⟨noAnn, _, fun v S hv => holds_if h v S hv, ?_⟩
    rw [putCK0Vc L M (⟨e_0, e_1, e_2⟩ : Ev)]
    exact putCK0Holds L M (⟨e_0, e_1, e_2⟩ : Ev) (of_decide_eq_true hp)
  · rename_i e_0 e_1 e_2
    refine ⟨noAnn, _, fun v S hv => ⟨_, h, hv⟩, ?_⟩
    rw [putCK1Vc (⟨e_0, e_1, e_2⟩ : Ev)]
    exact putCK1Holds (⟨e_0, e_1, e_2⟩ : Ev)
  · rename_i e_0 e_1 e_2
    refine ⟨noAnn, _, fun v S hv => ⟨_, h, hv⟩, ?_⟩
    rw [putCK2Vc (⟨e_0, e_1, e_2⟩ : Ev)]
    exact putCK2Holds (⟨e_0, e_1, e_2⟩ : Ev)
  · exact h.elim)
/-! ### (*regatta/calendar.Calendar).Drop -/
def dropCK0Text (L : List Thing) (M : List (Int × Int)) (id kind : Int) : Prop := (match (!calendarRight id kind) with | true => (match (calendarRight id kind && thereB (calendarNumber id kind) M) with | true => ((((((at' tz L (whereI (calendarNumber id kind) M)).XAt = (0 : Int)) ∧ (((at' tz L (whereI (calendarNumber id kind) M)).XID = (0 : Int)) ∧ (((at' tz L (whereI (calendarNumber id kind) M)).XKind = (0 : Int)) ∧ True))) ∧ ((true = false) ∧ True)) ∧ True) ∧ ((True ∧ True) ∧ ((True ∧ (True ∧ (True ∧ True))) ∧ (((takeH (L, M) (whereI (calendarNumber id kind) M).toNat).snd = M) ∧ (((takeH (L, M) (whereI (calendarNumber id kind) M).toNat).fst = L) ∧ True))))) | false => ((((((0 : Int) = (0 : Int)) ∧ (((0 : Int) = (0 : Int)) ∧ (((0 : Int) = (0 : Int)) ∧ True))) ∧ ((false = false) ∧ True)) ∧ True) ∧ ((True ∧ True) ∧ ((True ∧ (True ∧ (True ∧ True))) ∧ ((L = L) ∧ ((M = M) ∧ True)))))) | false => (match (decide (L.length ≤ (1000 : Nat) ∧ (thereB (calendarNumber id kind) M = true → (0 : Int) ≤ whereI (calendarNumber id kind) M ∧ whereI (calendarNumber id kind) M < (↑L.length : Int)))) with | true => (match (thereB (calendarNumber id kind) M) with | true => (match (calendarRight id kind && thereB (calendarNumber id kind) M) with | true => ((((((at' tz L (whereI (calendarNumber id kind) M)).XAt = (at' tz L (whereI (calendarNumber id kind) M)).XAt) ∧ (((at' tz L (whereI (calendarNumber id kind) M)).XID = (at' tz L (whereI (calendarNumber id kind) M)).XID) ∧ (((at' tz L (whereI (calendarNumber id kind) M)).XKind = (at' tz L (whereI (calendarNumber id kind) M)).XKind) ∧ True))) ∧ ((true = true) ∧ True)) ∧ True) ∧ ((True ∧ True) ∧ ((True ∧ (True ∧ (True ∧ True))) ∧ (((takeH (L, M) (whereI (calendarNumber id kind) M).toNat).snd = (takeH (L, M) (whereI (calendarNumber id kind) M).toNat).snd) ∧ (((takeH (L, M) (whereI (calendarNumber id kind) M).toNat).fst = (takeH (L, M) (whereI (calendarNumber id kind) M).toNat).fst) ∧ True))))) | false => ((((((0 : Int) = (at' tz L (whereI (calendarNumber id kind) M)).XAt) ∧ (((0 : Int) = (at' tz L (whereI (calendarNumber id kind) M)).XID) ∧ (((0 : Int) = (at' tz L (whereI (calendarNumber id kind) M)).XKind) ∧ True))) ∧ ((false = true) ∧ True)) ∧ True) ∧ ((True ∧ True) ∧ ((True ∧ (False ∧ (True ∧ True))) ∧ (False ∧ ((M = (takeH (L, M) (whereI (calendarNumber id kind) M).toNat).snd) ∧ True)))))) | false => (match (calendarRight id kind && thereB (calendarNumber id kind) M) with | true => ((((((at' tz L (whereI (calendarNumber id kind) M)).XAt = (0 : Int)) ∧ (((at' tz L (whereI (calendarNumber id kind) M)).XID = (0 : Int)) ∧ (((at' tz L (whereI (calendarNumber id kind) M)).XKind = (0 : Int)) ∧ True))) ∧ ((true = false) ∧ True)) ∧ True) ∧ ((True ∧ True) ∧ ((True ∧ (True ∧ (True ∧ True))) ∧ (((takeH (L, M) (whereI (calendarNumber id kind) M).toNat).snd = M) ∧ (((takeH (L, M) (whereI (calendarNumber id kind) M).toNat).fst = L) ∧ True))))) | false => ((((((0 : Int) = (0 : Int)) ∧ (((0 : Int) = (0 : Int)) ∧ (((0 : Int) = (0 : Int)) ∧ True))) ∧ ((false = false) ∧ True)) ∧ True) ∧ ((True ∧ True) ∧ ((True ∧ (True ∧ (True ∧ True))) ∧ ((L = L) ∧ ((M = M) ∧ True))))))) | false => False))
theorem dropCK0Vc (L : List Thing) (M : List (Int × Int)) (id kind : Int) : fnX X9 (noAnn) Try.f14 [.ptr 0 0, .raw (.int .i64 id), .raw (.int .i64 kind)] [.cells [.ptr 1 0] 53, .cells [.fn 24 [], .own 2, .own 3] 69, .vec 2 L 74, .map 0 M] (endsIf (calendarRight id kind && thereB (calendarNumber id kind) M) [.cells [.ptr 1 0] 53, .cells [.fn 24 [], .own 2, .own 3] 69, .vec 2 L 74, .map 0 M] ⟨some (.tup [.agg [.raw (.int .i64 (at' tz L (whereI (calendarNumber id kind) M)).XAt), .raw (.int .i64 (at' tz L (whereI (calendarNumber id kind) M)).XID), .raw (.int .i64 (at' tz L (whereI (calendarNumber id kind) M)).XKind)], .raw (.bool true)]), [(1, some (.cells [.fn 24 [], .own 4, .own 3] 69)), (2, none), (3, some (.map 0 (takeH (L, M) (whereI (calendarNumber id kind) M).toNat).2)), (4, some (.vec 2 (takeH (L, M) (whereI (calendarNumber id kind) M).toNat).1 74))]⟩ ⟨some (.tup [.agg [.raw (.int .i64 0), .raw (.int .i64 0), .raw (.int .i64 0)], .raw (.bool false)]), [(2, some (.vec 2 L 74)), (3, some (.map 0 M))]⟩) = dropCK0Text L M id kind := by kernel_rfl
theorem dropCK0Holds (L : List Thing) (M : List (Int × Int)) (id kind : Int) (hp : L.length ≤ 1000 ∧ (thereB (calendarNumber id kind) M = true → 0 ≤ whereI (calendarNumber id kind) M ∧ whereI (calendarNumber id kind) M < L.length)) : dropCK0Text L M id kind := by
  unfold dropCK0Text
  cases calendarRight id kind
  · repeat' first | trivial | rfl | apply And.intro
  · rw [decide_eq_true hp]
    cases thereB (calendarNumber id kind) M
    · repeat' first | trivial | rfl | apply And.intro
    · repeat' first | trivial | rfl | apply And.intro
def dropCK1Text (id kind : Int) : Prop := ((((((0 : Int) = (0 : Int)) ∧ (((0 : Int) = (0 : Int)) ∧ (((0 : Int) = (0 : Int)) ∧ True))) ∧ ((false = false) ∧ True)) ∧ True) ∧ (((Value.pointer none = Value.pointer none) ∧ True) ∧ True))
theorem dropCK1Vc (id kind : Int) : fnX X9 (noAnn) Try.f14 [.ptr 0 0, .raw (.int .i64 id), .raw (.int .i64 kind)] [.cells [.raw (.pointer none)] 53] (ends [.cells [.raw (.pointer none)] 53] ⟨some (.tup [.agg [.raw (.int .i64 0), .raw (.int .i64 0), .raw (.int .i64 0)], .raw (.bool false)]), []⟩) = dropCK1Text id kind := by kernel_rfl
theorem dropCK1Holds (id kind : Int) : dropCK1Text id kind := by
  unfold dropCK1Text
  repeat' first | trivial | rfl | apply And.intro
def dropCK2Text (id kind : Int) : Prop := ((((((0 : Int) = (0 : Int)) ∧ (((0 : Int) = (0 : Int)) ∧ (((0 : Int) = (0 : Int)) ∧ True))) ∧ ((false = false) ∧ True)) ∧ True) ∧ True)
theorem dropCK2Vc (id kind : Int) : fnX X9 (noAnn) Try.f14 [.raw (.pointer none), .raw (.int .i64 id), .raw (.int .i64 kind)] [] (ends [] ⟨some (.tup [.agg [.raw (.int .i64 0), .raw (.int .i64 0), .raw (.int .i64 0)], .raw (.bool false)]), []⟩) = dropCK2Text id kind := by kernel_rfl
theorem dropCK2Holds (id kind : Int) : dropCK2Text id kind := by
  unfold dropCK2Text
  repeat' first | trivial | rfl | apply And.intro
noncomputable def dropCCon : Con T O := fun args cs => match args, cs with
  | [.ptr 0 0, .raw (.int .i64 id), .raw (.int .i64 kind)], [.cells [.ptr 1 0] 53, .cells [.fn 24 [], .own 2, .own 3] 69, .vec 2 L 74, .map 0 M] => chk (decide (L.length ≤ 1000 ∧ (thereB (calendarNumber id kind) M = true → 0 ≤ whereI (calendarNumber id kind) M ∧ whereI (calendarNumber id kind) M < L.length))) (.ite (calendarRight id kind && thereB (calendarNumber id kind) M) (.ret ⟨some (.tup [.agg [.raw (.int .i64 (at' tz L (whereI (calendarNumber id kind) M)).XAt), .raw (.int .i64 (at' tz L (whereI (calendarNumber id kind) M)).XID), .raw (.int .i64 (at' tz L (whereI (calendarNumber id kind) M)).XKind)], .raw (.bool true)]), [(1, some (.cells [.fn 24 [], .own 4, .own 3] 69)), (2, none), (3, some (.map 0 (takeH (L, M) (whereI (calendarNumber id kind) M).toNat).2)), (4, some (.vec 2 (takeH (L, M) (whereI (calendarNumber id kind) M).toNat).1 74))]⟩) (.ret ⟨some (.tup [.agg [.raw (.int .i64 0), .raw (.int .i64 0), .raw (.int .i64 0)], .raw (.bool false)]), [(2, some (.vec 2 L 74)), (3, some (.map 0 M))]⟩))
  | [.ptr 0 0, .raw (.int .i64 _), .raw (.int .i64 _)], [.cells [.raw (.pointer none)] 53] => .ret ⟨some (.tup [.agg [.raw (.int .i64 0), .raw (.int .i64 0), .raw (.int .i64 0)], .raw (.bool false)]), []⟩
  | [.raw (.pointer none), .raw (.int .i64 _), .raw (.int .i64 _)], [] => .ret ⟨some (.tup [.agg [.raw (.int .i64 0), .raw (.int .i64 0), .raw (.int .i64 0)], .raw (.bool false)]), []⟩
  | _, _ => .fail
theorem dropCOk : ConOk R Try.prog 14 dropCCon := con_of_fn R (X9) (TabOk.con R X9Ok) mixed Try.call14 Try.func14 dropCCon (by
  intro args cs K h
  unfold dropCCon at h
  split at h
  · rename_i id kind L M
    rw [Tree.holds_chk] at h
    obtain ⟨hp, h⟩ := h
    refine ⟨noAnn, _, fun v S hv => holds_if h v S hv, ?_⟩
    rw [dropCK0Vc L M id kind]
    exact dropCK0Holds L M id kind (of_decide_eq_true hp)
  · rename_i id kind
    refine ⟨noAnn, _, fun v S hv => ⟨_, h, hv⟩, ?_⟩
    rw [dropCK1Vc id kind]
    exact dropCK1Holds id kind
  · rename_i id kind
    refine ⟨noAnn, _, fun v S hv => ⟨_, h, hv⟩, ?_⟩
    rw [dropCK2Vc id kind]
    exact dropCK2Holds id kind
  · exact h.elim)
/-! ### (*regatta/calendar.Calendar).Next -/
def nextCK0Text (L : List Thing) (M : List (Int × Int)) : Prop := (match (decide (L.length ≤ (1000 : Nat))) with | true => ((((((bif L.length == (0 : Nat) then (0 : Int) else (at' tz L (0 : Int)).XAt) = bif L.length == (0 : Nat) then (0 : Int) else (at' tz L (0 : Int)).XAt) ∧ (((bif L.length == (0 : Nat) then (0 : Int) else (at' tz L (0 : Int)).XID) = bif L.length == (0 : Nat) then (0 : Int) else (at' tz L (0 : Int)).XID) ∧ (((bif L.length == (0 : Nat) then (0 : Int) else (at' tz L (0 : Int)).XKind) = bif L.length == (0 : Nat) then (0 : Int) else (at' tz L (0 : Int)).XKind) ∧ True))) ∧ (((!L.length == (0 : Nat)) = !L.length == (0 : Nat)) ∧ True)) ∧ True) ∧ ((True ∧ True) ∧ ((True ∧ (True ∧ (True ∧ True))) ∧ ((L = L) ∧ ((M = M) ∧ True))))) | false => False)
theorem nextCK0Vc (L : List Thing) (M : List (Int × Int)) : fnX X9 (noAnn) Try.f18 [.ptr 0 0] [.cells [.ptr 1 0] 53, .cells [.fn 24 [], .own 2, .own 3] 69, .vec 2 L 74, .map 0 M] (ends [.cells [.ptr 1 0] 53, .cells [.fn 24 [], .own 2, .own 3] 69, .vec 2 L 74, .map 0 M] ⟨some (.tup [.agg [.raw (.int .i64 (bif L.length == 0 then 0 else (at' tz L 0).XAt)), .raw (.int .i64 (bif L.length == 0 then 0 else (at' tz L 0).XID)), .raw (.int .i64 (bif L.length == 0 then 0 else (at' tz L 0).XKind))], .raw (.bool (!(L.length == 0)))]), [(2, some (.vec 2 L 74)), (3, some (.map 0 M))]⟩) = nextCK0Text L M := by kernel_rfl
theorem nextCK0Holds (L : List Thing) (M : List (Int × Int)) (hp : L.length ≤ 1000) : nextCK0Text L M := by
  unfold nextCK0Text
  rw [decide_eq_true hp]
  repeat' first | trivial | rfl | apply And.intro
def nextCK1Text  : Prop := ((((((0 : Int) = (0 : Int)) ∧ (((0 : Int) = (0 : Int)) ∧ (((0 : Int) = (0 : Int)) ∧ True))) ∧ ((false = false) ∧ True)) ∧ True) ∧ (((Value.pointer none = Value.pointer none) ∧ True) ∧ True))
theorem nextCK1Vc  : fnX X9 (noAnn) Try.f18 [.ptr 0 0] [.cells [.raw (.pointer none)] 53] (ends [.cells [.raw (.pointer none)] 53] ⟨some (.tup [.agg [.raw (.int .i64 0), .raw (.int .i64 0), .raw (.int .i64 0)], .raw (.bool false)]), []⟩) = nextCK1Text  := by kernel_rfl
theorem nextCK1Holds  : nextCK1Text  := by
  unfold nextCK1Text
  repeat' first | trivial | rfl | apply And.intro
def nextCK2Text  : Prop := ((((((0 : Int) = (0 : Int)) ∧ (((0 : Int) = (0 : Int)) ∧ (((0 : Int) = (0 : Int)) ∧ True))) ∧ ((false = false) ∧ True)) ∧ True) ∧ True)
theorem nextCK2Vc  : fnX X9 (noAnn) Try.f18 [.raw (.pointer none)] [] (ends [] ⟨some (.tup [.agg [.raw (.int .i64 0), .raw (.int .i64 0), .raw (.int .i64 0)], .raw (.bool false)]), []⟩) = nextCK2Text  := by kernel_rfl
theorem nextCK2Holds  : nextCK2Text  := by
  unfold nextCK2Text
  repeat' first | trivial | rfl | apply And.intro
noncomputable def nextCCon : Con T O := fun args cs => match args, cs with
  | [.ptr 0 0], [.cells [.ptr 1 0] 53, .cells [.fn 24 [], .own 2, .own 3] 69, .vec 2 L 74, .map 0 M] => chk (decide (L.length ≤ 1000)) (.ret ⟨some (.tup [.agg [.raw (.int .i64 (bif L.length == 0 then 0 else (at' tz L 0).XAt)), .raw (.int .i64 (bif L.length == 0 then 0 else (at' tz L 0).XID)), .raw (.int .i64 (bif L.length == 0 then 0 else (at' tz L 0).XKind))], .raw (.bool (!(L.length == 0)))]), [(2, some (.vec 2 L 74)), (3, some (.map 0 M))]⟩)
  | [.ptr 0 0], [.cells [.raw (.pointer none)] 53] => .ret ⟨some (.tup [.agg [.raw (.int .i64 0), .raw (.int .i64 0), .raw (.int .i64 0)], .raw (.bool false)]), []⟩
  | [.raw (.pointer none)], [] => .ret ⟨some (.tup [.agg [.raw (.int .i64 0), .raw (.int .i64 0), .raw (.int .i64 0)], .raw (.bool false)]), []⟩
  | _, _ => .fail
theorem nextCOk : ConOk R Try.prog 18 nextCCon := con_of_fn R (X9) (TabOk.con R X9Ok) mixed Try.call18 Try.func18 nextCCon (by
  intro args cs K h
  unfold nextCCon at h
  split at h
  · rename_i L M
    rw [Tree.holds_chk] at h
    obtain ⟨hp, h⟩ := h
    refine ⟨noAnn, _, fun v S hv => ⟨_, h, hv⟩, ?_⟩
    rw [nextCK0Vc L M]
    exact nextCK0Holds L M (of_decide_eq_true hp)
  ·
    refine ⟨noAnn, _, fun v S hv => ⟨_, h, hv⟩, ?_⟩
    rw [nextCK1Vc ]
    exact nextCK1Holds 
  ·
    refine ⟨noAnn, _, fun v S hv => ⟨_, h, hv⟩, ?_⟩
    rw [nextCK2Vc ]
    exact nextCK2Holds 
  · exact h.elim)
noncomputable def tab10 : Tab T O := (13, lenCCon) :: (19, atCCon) :: (11, putCCon) :: (14, dropCCon) :: (18, nextCCon) :: tab9
theorem tabOk10 : TabOk R Try.prog tab10 := TabOk.cons R lenCOk <| TabOk.cons R atCOk <| TabOk.cons R putCOk <| TabOk.cons R dropCOk <| TabOk.cons R nextCOk <| tabOk9
noncomputable def X10 : Ctx T O := { X0 with con := conOf tab10 }
theorem X10Ok : TabOk R X10.P tab10 := tabOk10
end Go.Proofs.Ythihpebdcamilaa
