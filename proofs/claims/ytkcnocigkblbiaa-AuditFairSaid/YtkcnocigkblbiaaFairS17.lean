/-
  Part of a proof over the seat Ytkcnocigkblbiaa: printed by a small program or typed by hand.
-/
import Derived.Test.YtkcnocigkblbiaaFairS16
import Derived.KernelRfl
namespace Go.Proofs.Ytkcnocigkblbiaa
open Go.Sx Go.Proofs Classical
/-! ### regatta/audit.Windows -/
def windowsWK0Text (L : List Note) (e p : Int) : Prop := (match (decide (L.length ≤ (140737488355328 : Nat) ∧ ∀ (n : Note), auditOfPre n e p = true)) with | true => (((firstI (notOf e p) L (0 : Int) = firstI (notOf e p) L (0 : Int)) ∧ True) ∧ ((L = L) ∧ (((e = e) ∧ ((p = p) ∧ True)) ∧ True))) | false => False)
theorem windowsWK0Vc (L : List Note) (e p : Int) : fnX X16 (noAnn) Try.f20 [.own 0, .fn 22 [.ptr 1 0]] [.ro 2 L, .cells [.raw (.int .i64 e), .raw (.int .i64 p)] 41] (ends [.ro 2 L, .cells [.raw (.int .i64 e), .raw (.int .i64 p)] 41] ⟨some (.raw (.int .i64 (firstI (notOf e p) L 0))), []⟩) = windowsWK0Text L e p := by kernel_rfl
theorem windowsWK0Holds (L : List Note) (e p : Int) (hp : L.length ≤ 140737488355328 ∧ ∀ n, auditOfPre n e p = true) : windowsWK0Text L e p := by
  unfold windowsWK0Text
  rw [decide_eq_true hp]
  repeat' first | trivial | rfl | apply And.intro
def windowsWK1Text (L : List Note) (e p : Int) : Prop := (match (decide (L.length ≤ (140737488355328 : Nat) ∧ ∀ (n : Note), auditOfPre n e p = true)) with | true => (((firstI (notOf e p) L (0 : Int) = firstI (notOf e p) L (0 : Int)) ∧ True) ∧ ((L = L) ∧ (((e = e) ∧ ((p = p) ∧ True)) ∧ True))) | false => False)
theorem windowsWK1Vc (L : List Note) (e p : Int) : fnX X16 (noAnn) Try.f20 [.own 0, .fn 18 [.ptr 1 0]] [.ro 2 L, .cells [.raw (.int .i64 e), .raw (.int .i64 p)] 41] (ends [.ro 2 L, .cells [.raw (.int .i64 e), .raw (.int .i64 p)] 41] ⟨some (.raw (.int .i64 (firstI (notOf e p) L 0))), []⟩) = windowsWK1Text L e p := by kernel_rfl
theorem windowsWK1Holds (L : List Note) (e p : Int) (hp : L.length ≤ 140737488355328 ∧ ∀ n, auditOfPre n e p = true) : windowsWK1Text L e p := by
  unfold windowsWK1Text
  rw [decide_eq_true hp]
  repeat' first | trivial | rfl | apply And.intro
noncomputable def windowsWCon : Con T O := fun args cs => match args, cs with
  | [.own 0, .fn 22 [.ptr 1 0]], [.ro 2 L, .cells [.raw (.int .i64 e), .raw (.int .i64 p)] 41] => chk (decide (L.length ≤ 140737488355328 ∧ ∀ n, auditOfPre n e p = true)) (.ret ⟨some (.raw (.int .i64 (firstI (notOf e p) L 0))), []⟩)
  | [.own 0, .fn 18 [.ptr 1 0]], [.ro 2 L, .cells [.raw (.int .i64 e), .raw (.int .i64 p)] 41] => chk (decide (L.length ≤ 140737488355328 ∧ ∀ n, auditOfPre n e p = true)) (.ret ⟨some (.raw (.int .i64 (firstI (notOf e p) L 0))), []⟩)
  | _, _ => .fail
theorem windowsWOk : ConOk R Try.prog 20 windowsWCon := con_of_fn R (X16) (TabOk.con R X16Ok) mixed Try.call20 Try.func20 windowsWCon (by
  intro args cs K h
  unfold windowsWCon at h
  split at h
  · rename_i L e p
    rw [Tree.holds_chk] at h
    obtain ⟨hp, h⟩ := h
    refine ⟨noAnn, _, fun v S hv => ⟨_, h, hv⟩, ?_⟩
    rw [windowsWK0Vc L e p]
    exact windowsWK0Holds L e p (of_decide_eq_true hp)
  · rename_i L e p
    rw [Tree.holds_chk] at h
    obtain ⟨hp, h⟩ := h
    refine ⟨noAnn, _, fun v S hv => ⟨_, h, hv⟩, ?_⟩
    rw [windowsWK1Vc L e p]
    exact windowsWK1Holds L e p (of_decide_eq_true hp)
  · exact h.elim)
noncomputable def tab17 : Tab T O := (20, windowsWCon) :: tab16
theorem tabOk17 : TabOk R Try.prog tab17 := TabOk.cons R windowsWOk <| tabOk16
noncomputable def X17 : Ctx T O := { X0 with con := conOf tab17 }
theorem X17Ok : TabOk R X17.P tab17 := tabOk17
end Go.Proofs.Ytkcnocigkblbiaa
