/-
  Part of a proof over the seat Ytkcnocigkblbiaa: printed by a small program or typed by hand.
-/
import Derived.Test.YtkcnocigkblbiaaWindS16
import Derived.KernelRfl
namespace Go.Proofs.Ytkcnocigkblbiaa
open Go.Sx Go.Proofs Classical

def notRef (e p : Int) (n : Note) : Bool := !ref20Of n e p

/-! ### regatta/audit.Windows -/
def windowsWK0Text (L : List Note) (e p : Int) : Prop := (match (decide (L.length ≤ (140737488355328 : Nat) ∧ ∀ (n : Note), auditOfPre n e p = true)) with | true => (((firstI (notOf e p) L (0 : Int) = firstI (notOf e p) L (0 : Int)) ∧ True) ∧ ((L = L) ∧ (((e = e) ∧ ((p = p) ∧ True)) ∧ True))) | false => False)
theorem windowsWK0Vc (L : List Note) (e p : Int) : fnX X16 (noAnn) Try.f20 [.own 0, .fn 22 [.ptr 1 0]] [.ro 2 L, .cells [.raw (.int .i64 e), .raw (.int .i64 p)] 41] (ends [.ro 2 L, .cells [.raw (.int .i64 e), .raw (.int .i64 p)] 41] ⟨some (.raw (.int .i64 (firstI (notOf e p) L 0))), []⟩) = windowsWK0Text L e p := by kernel_rfl
theorem windowsWK0Holds (L : List Note) (e p : Int) (hp : L.length ≤ 140737488355328 ∧ ∀ n, auditOfPre n e p = true) : windowsWK0Text L e p := by
  unfold windowsWK0Text
  rw [decide_eq_true hp]
  repeat' first | trivial | rfl | apply And.intro
def windowsWK1Text (L : List Note) (e p : Int) : Prop := (match (decide (L.length ≤ (140737488355328 : Nat) ∧ ∀ (n : Note), auditOfPre n e p = true)) with | true => (((firstI (notOf e p) L (0 : Int) = firstI (notOf e p) L (0 : Int)) ∧ True) ∧ ((L = L) ∧ (((e = e) ∧ ((p = p) ∧ True)) ∧ True))) | false => False)
theorem windowsWK1Vc (L : List Note) (e p : Int) : fnX X16 (noAnn) Try.f20 [.own 0, .fn 18 [.ptr 1 0]] [.ro 2 L, .cells [.raw (.int .i64 e), .raw (.int .i64 p)] 41] (ends [.ro 2 L, .cells [.raw (.int .i64 e), .raw (.int .i64 p)] 41] ⟨some (.raw (.int .i64 (firstI (notOf e p) L 0))), []⟩) = windowsWK1Text L e p := by kernel_rfl
theorem windowsWK1Holds (L : List Note) (e p : Int) (hp : L.length ≤ 140737488355328 ∧ ∀ n, auditOfPre n e p = true) : windowsWK1Text L e p := by
  unfold windowsWK1Text
  rw [decide_eq_true hp]
  repeat' first | trivial | rfl | apply And.intro
def windowsWK2Text (L : List Note) : Prop := ((((bif L.length == (0 : Nat) then (-1 : Int) else (0 : Int)) = IntKind.i64.wrap ((if (1 : Int) < (↑L.length : Int) then (1 : Int) else (↑L.length : Int)) - (1 : Int))) ∧ True) ∧ ((L = L) ∧ True))
theorem windowsWK2Vc (L : List Note) : fnX X16 (noAnn) Try.f20 [.own 0, .raw .nilFunc] [.ro 2 L] (ends [.ro 2 L] ⟨some (.raw (.int .i64 (bif L.length == 0 then -1 else 0))), []⟩) = windowsWK2Text L := by kernel_rfl
theorem windowsWK2Holds (L : List Note) (hp : L.length ≤ 140737488355328) : windowsWK2Text L := by
  unfold windowsWK2Text
  have e : (bif L.length == 0 then (-1 : Int) else 0) = IntKind.i64.wrap ((if (1 : Int) < (L.length : Int) then (1 : Int) else (L.length : Int)) - 1) := by
    by_cases h : L.length = 0
    · rw [h]; rfl
    · rw [show (L.length == 0) = false from beq_eq_false_iff_ne.2 h, show (if (1 : Int) < (L.length : Int) then (1 : Int) else (L.length : Int)) = 1 by split <;> omega]
      rfl
  repeat' first | exact e | trivial | rfl | apply And.intro
def windowsWK3Text  : Prop := ((((-1 : Int) = IntKind.i64.wrap ((if (1 : Int) < (↑(0 : Nat) : Int) then (1 : Int) else (↑(0 : Nat) : Int)) - (1 : Int))) ∧ True) ∧ True)
theorem windowsWK3Vc  : fnX X16 (noAnn) Try.f20 [.raw (.slice none 0 0), .raw .nilFunc] [] (ends [] ⟨some (.raw (.int .i64 (-1))), []⟩) = windowsWK3Text  := by kernel_rfl
theorem windowsWK3Holds  : windowsWK3Text  := by
  unfold windowsWK3Text
  repeat' first | trivial | rfl | apply And.intro
noncomputable def windowsWCon : Con T O := fun args cs => match args, cs with
  | [.own 0, .fn 22 [.ptr 1 0]], [.ro 2 L, .cells [.raw (.int .i64 e), .raw (.int .i64 p)] 41] => chk (decide (L.length ≤ 140737488355328 ∧ ∀ n, auditOfPre n e p = true)) (.ret ⟨some (.raw (.int .i64 (firstI (notOf e p) L 0))), []⟩)
  | [.own 0, .fn 18 [.ptr 1 0]], [.ro 2 L, .cells [.raw (.int .i64 e), .raw (.int .i64 p)] 41] => chk (decide (L.length ≤ 140737488355328 ∧ ∀ n, auditOfPre n e p = true)) (.ret ⟨some (.raw (.int .i64 (firstI (notOf e p) L 0))), []⟩)
  | [.own 0, .raw .nilFunc], [.ro 2 L] => chk (decide (L.length ≤ 140737488355328)) (.ret ⟨some (.raw (.int .i64 (bif L.length == 0 then -1 else 0))), []⟩)
  | [.raw (.slice none 0 0), .raw .nilFunc], [] => .ret ⟨some (.raw (.int .i64 (-1))), []⟩
  | _, _ => .fail
theorem windowsWOk : ConOk R Try.prog 20 windowsWCon := con_of_fn R (X16) (TabOk.con R X16Ok) mixed Try.call20 Try.func20 windowsWCon (by
  intro args cs K h
  unfold windowsWCon at h
  split at h
  · rename_i L e p
    rw [Tree.holds_chk] at h
    obtain ⟨hp, h⟩ := h
    refine ⟨noAnn, _, fun v S hv => ⟨_, h, hv⟩, ?_⟩
    rw [windowsWK0Vc L e p]
    exact windowsWK0Holds L e p (of_decide_eq_true hp)
  · rename_i L e p
    rw [Tree.holds_chk] at h
    obtain ⟨hp, h⟩ := h
    refine ⟨noAnn, _, fun v S hv => ⟨_, h, hv⟩, ?_⟩
    rw [windowsWK1Vc L e p]
    exact windowsWK1Holds L e p (of_decide_eq_true hp)
  · rename_i L
    rw [Tree.holds_chk] at h
    obtain ⟨hp, h⟩ := h
    refine ⟨noAnn, _, fun v S hv => ⟨_, h, hv⟩, ?_⟩
    rw [windowsWK2Vc L]
    exact windowsWK2Holds L (of_decide_eq_true hp)
  ·
    refine ⟨noAnn, _, fun v S hv => ⟨_, h, hv⟩, ?_⟩
    rw [windowsWK3Vc ]
    exact windowsWK3Holds 
  · exact h.elim)
/-! ### regatta/regattalaw20.windows -/
def windowsRText (L : List Note) (e p : Int) : Prop := ((∃ x : Nat, (((x ≤ L.length) ∧ (firstI (notRef e p) L (0 : Int) = firstI (notRef e p) (List.drop x L) (↑x : Int))) ∧ ((True ∧ (True ∧ (((↑x : Int) = (0 : Int)) ∧ True))) ∧ ((L = L) ∧ (((e = e) ∧ ((p = p) ∧ True)) ∧ True))))) ∧ (∀ x : Nat, (((x ≤ L.length) ∧ (firstI (notRef e p) L (0 : Int) = firstI (notRef e p) (List.drop x L) (↑x : Int))) → (match (decide ((↑x : Int) < (↑L.length : Int))) with | true => (match (inb (↑x : Int) L.length) with | true => (match (inb (↑x : Int) L.length) with | true => (match (ref20OfPre (at' noteE.zero L (↑x : Int)) e p) with | true => (match (!ref20Of (at' noteE.zero L (↑x : Int)) e p) with | true => (((firstI (notRef e p) L (0 : Int) = (↑x : Int)) ∧ True) ∧ ((L = L) ∧ True)) | false => (∃ x' : Nat, (((x' ≤ L.length) ∧ (firstI (notRef e p) L (0 : Int) = firstI (notRef e p) (List.drop x' L) (↑x' : Int))) ∧ ((L.length - x' < L.length - x) ∧ ((True ∧ (True ∧ (((↑x' : Int) = IntKind.i64.wrap ((↑x : Int) + (1 : Int))) ∧ True))) ∧ ((L = L) ∧ (((e = e) ∧ ((p = p) ∧ True)) ∧ True))))))) | false => False) | false => False) | false => False) | false => (((firstI (notRef e p) L (0 : Int) = (-1 : Int)) ∧ True) ∧ ((L = L) ∧ True))))))
theorem windowsRVc (L : List Note) (e p : Int) : fnX X16 (oneLoop 2 { σ := Nat, st := fun S x => (S.keep [0, 3]).int 5 x, inv := fun _ x => x ≤ L.length ∧ firstI (notRef e p) L 0 = firstI (notRef e p) (L.drop x) x, m := fun x => L.length - x }) Try.f19 [.own 0, .agg [.raw (.int .i64 e), .raw (.int .i64 p)]] [.ro 2 L] (ends [.ro 2 L] ⟨some (.raw (.int .i64 (firstI (notRef e p) L 0))), []⟩) = windowsRText L e p := by kernel_rfl
theorem windowsRHolds (L : List Note) (e p : Int) (hp : L.length ≤ 140737488355328 ∧ ∀ n, ref20OfPre n e p = true) : windowsRText L e p := by
  unfold windowsRText
  obtain ⟨hp, hpre⟩ := hp
  refine ⟨⟨0, ⟨by omega, rfl⟩, by repeat' first | trivial | rfl | apply And.intro⟩, ?_⟩
  rintro x ⟨hx, hs⟩
  by_cases h : x < L.length
  · rw [dec_lt h, inb_nat h, show at' noteE.zero L (x : Int) = L[x] from at_nat h, hpre]
    rw [drop_at h] at hs
    simp only [firstI] at hs
    have hw := wrap_succ h hp
    cases hq : !ref20Of L[x] e p
    · have hq : notRef e p L[x] = false := hq
      rw [hq] at hs
      refine ⟨x + 1, ⟨by omega, by simpa using hs⟩, by omega, ?_⟩
      repeat' first | exact hw.symm | trivial | rfl | apply And.intro
    · have hq : notRef e p L[x] = true := hq
      rw [hq] at hs
      have hs : firstI (notRef e p) L 0 = (x : Int) := by simpa using hs
      repeat' first | exact hs | trivial | rfl | apply And.intro
  · rw [dec_ge (by omega)]
    rw [List.drop_of_length_le (by omega)] at hs
    have hs : firstI (notRef e p) L 0 = -1 := hs
    repeat' first | exact hs | trivial | rfl | apply And.intro
noncomputable def windowsRCon : Con T O := fun args cs => match args, cs with
  | [.own 0, .agg [.raw (.int .i64 e), .raw (.int .i64 p)]], [.ro 2 L] => chk (decide (L.length ≤ 140737488355328 ∧ ∀ n, ref20OfPre n e p = true)) (.ret ⟨some (.raw (.int .i64 (firstI (notRef e p) L 0))), []⟩)
  | _, _ => .fail
theorem windowsROk : ConOk R Try.prog 19 windowsRCon := con_of_fn R (X16) (TabOk.con R X16Ok) mixed Try.call19 Try.func19 windowsRCon (by
  intro args cs K h
  unfold windowsRCon at h
  split at h
  · rename_i e p L
    rw [Tree.holds_chk] at h
    obtain ⟨hp, h⟩ := h
    refine ⟨oneLoop 2 { σ := Nat, st := fun S x => (S.keep [0, 3]).int 5 x, inv := fun _ x => x ≤ L.length ∧ firstI (notRef e p) L 0 = firstI (notRef e p) (L.drop x) x, m := fun x => L.length - x }, _, fun v S hv => ⟨_, h, hv⟩, ?_⟩
    rw [windowsRVc L e p]
    exact windowsRHolds L e p (of_decide_eq_true hp)
  · exact h.elim)
noncomputable def tab17 : Tab T O := (20, windowsWCon) :: (19, windowsRCon) :: tab16
theorem tabOk17 : TabOk R Try.prog tab17 := TabOk.cons R windowsWOk <| TabOk.cons R windowsROk <| tabOk16
noncomputable def X17 : Ctx T O := { X0 with con := conOf tab17 }
theorem X17Ok : TabOk R X17.P tab17 := tabOk17
end Go.Proofs.Ytkcnocigkblbiaa
