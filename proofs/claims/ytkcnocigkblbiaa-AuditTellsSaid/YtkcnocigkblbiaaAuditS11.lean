/-
  Part of a proof over the seat Ytkcnocigkblbiaa: printed by a small program or typed by hand.
-/
import Derived.Test.YtkcnocigkblbiaaAuditS10
import Derived.KernelRfl
namespace Go.Proofs.Ytkcnocigkblbiaa
open Go.Sx Go.Proofs Classical
/-! ### regatta/regattalaw20.AuditTells -/
def law20AuditTellsText (L : List Note) (LL : List (List Int)) (m id since lo hi : Int) : Prop := (∀ L' : List (T 2).α, ((L' = few20 L) → (match (decide (L'.length ≤ 140737488355328)) with | true => (∀ L'1 : List (T 2).α, ((L'1 = madeGo 0 (List.take 20 LL)) → (match (decide (L'1.length ≤ 140737488355328)) with | true => (((true = true) ∧ True) ∧ ((L = L) ∧ ((LL = LL) ∧ True))) | false => False))) | false => False)))
theorem law20AuditTellsVc (L : List Note) (LL : List (List Int)) (m id since lo hi : Int) : fnX { X10 with gen := true } (noAnn) Try.f4 [.own 0, .own 1, .agg [.raw (.int .i64 m), .raw (.int .i64 id), .raw (.int .i64 since), .raw (.int .i64 lo), .raw (.int .i64 hi)]] [.ro 2 L, .nest 0 LL] (ends [.ro 2 L, .nest 0 LL] ⟨some (.raw (.bool true)), []⟩) = law20AuditTellsText L LL m id since lo hi := by kernel_rfl
theorem law20AuditTellsHolds (L : List Note) (LL : List (List Int)) (m id since lo hi : Int) : law20AuditTellsText L LL m id since lo hi := by
  unfold law20AuditTellsText
  intro L1 h1
  rw [show decide (L1.length ≤ 140737488355328) = true from decide_eq_true (by rw [h1]; unfold few20; rw [List.length_take]; omega)]
  intro L2 h2
  rw [show decide (L2.length ≤ 140737488355328) = true from decide_eq_true (by rw [h2, made_length, List.length_take]; omega)]
  exact ⟨⟨rfl, trivial⟩, rfl, rfl, trivial⟩
noncomputable def law20AuditTellsCon : Con T O := fun args cs => match args, cs with
  | [.own 0, .own 1, .agg [.raw (.int .i64 _), .raw (.int .i64 _), .raw (.int .i64 _), .raw (.int .i64 _), .raw (.int .i64 _)]], [.ro 2 _, .nest 0 _] => .ret ⟨some (.raw (.bool true)), []⟩
  | _, _ => .fail
theorem law20AuditTellsOk : ConOk R Try.prog 4 law20AuditTellsCon := con_of_fn R ({ X10 with gen := true }) (TabOk.con R X10Ok) mixed Try.call4 Try.func4 law20AuditTellsCon (by
  intro args cs K h
  unfold law20AuditTellsCon at h
  split at h
  · rename_i m id since lo hi L LL
    refine ⟨noAnn, _, fun v S hv => ⟨_, h, hv⟩, ?_⟩
    rw [law20AuditTellsVc L LL m id since lo hi]
    exact law20AuditTellsHolds L LL m id since lo hi
  · exact h.elim)
noncomputable def tab11 : Tab T O := (4, law20AuditTellsCon) :: tab10
theorem tabOk11 : TabOk R Try.prog tab11 := TabOk.cons R law20AuditTellsOk <| tabOk10
noncomputable def X11 : Ctx T O := { X0 with con := conOf tab11 }
theorem X11Ok : TabOk R X11.P tab11 := tabOk11
end Go.Proofs.Ytkcnocigkblbiaa
