/-
  Part of a proof over the seat Ytjhkokdcjikkiaa: printed by a small program or typed by hand.
-/
import Derived.Test.YtjhkokdcjikkiaaPrioS16
import Derived.KernelRfl
namespace Go.Proofs.Ytjhkokdcjikkiaa
open Go.Sx Go.Proofs Classical
/-! ### regatta/regattalaw06.PrioTells -/
def prioTellsText (L : List Ent) (q0 q1 : Int) (a b : Ent) : Prop := (match (decide ((List.take (20 : Nat) L).length ≤ (20 : Nat))) with | true => (match (decide ((List.take (20 : Nat) L).length ≤ (1000 : Nat))) with | true => (match (decide ((isortN (List.take (20 : Nat) L) (List.take (20 : Nat) L).length).length ≤ (1000 : Nat))) with | true => (match (decide ((List.take (20 : Nat) L).length ≤ (20 : Nat))) with | true => (match (decide ((List.take (20 : Nat) L).length ≤ (20 : Nat))) with | true => (match (decide ((List.take q0.toNat (srt (List.take (20 : Nat) L))).length ≤ (1000 : Nat))) with | true => (match (sameB (isortN (List.take (20 : Nat) L) (List.take (20 : Nat) L).length) (srt (List.take (20 : Nat) L))) with | true => (match (sameB (List.take q0.toNat (srt (List.take (20 : Nat) L))) (List.take q0.toNat (srt (List.take (20 : Nat) L)))) with | true => (match (decide ((List.take (20 : Nat) L).length ≤ (1000 : Nat))) with | true => (match (decide ((List.take (20 : Nat) L).length ≤ (1000 : Nat))) with | true => (match (rankL (List.take (20 : Nat) L) q1 == rankL (List.take (20 : Nat) L) q1) with | true => (((true = (prioLess a b == ref06Less a b)) ∧ True) ∧ ((L = L) ∧ True)) | false => (((true = false) ∧ True) ∧ ((L = L) ∧ True))) | false => False) | false => False) | false => (((true = false) ∧ True) ∧ ((L = L) ∧ True))) | false => (((true = false) ∧ True) ∧ ((L = L) ∧ True))) | false => False) | false => False) | false => False) | false => False) | false => False) | false => False)
theorem prioTellsVc (L : List Ent) (q0 q1 : Int) (a b : Ent) : fnX X16 (noAnn) Try.f8 [.own 0, .agg [.raw (.int .i64 q0), .raw (.int .i64 q1)], .agg [.raw (.int .i64 a.ID), .raw (.int .i64 a.SubIndex), .raw (.int .i64 a.SubRelease), .raw (.int .i64 a.SubDeadline), .raw (.int .i64 a.SubBit), .raw (.int .i64 a.SubGroup), .raw (.int .i64 b.ID), .raw (.int .i64 b.SubIndex), .raw (.int .i64 b.SubRelease), .raw (.int .i64 b.SubDeadline), .raw (.int .i64 b.SubBit), .raw (.int .i64 b.SubGroup)]] [.ro 2 L] (ends [.ro 2 L] ⟨some (.raw (.bool true)), []⟩) = prioTellsText L q0 q1 a b := by kernel_rfl
theorem prioTellsHolds (L : List Ent) (q0 q1 : Int) (a b : Ent) : prioTellsText L q0 q1 a b := by
  unfold prioTellsText
  have hl : (L.take 20).length ≤ 20 := by rw [List.length_take]; omega
  generalize L.take 20 = M at hl ⊢
  rw [isortN_all, srt_length, decide_eq_true hl, decide_eq_true (show M.length ≤ 1000 by omega), decide_eq_true (show ((srt M).take q0.toNat).length ≤ 1000 by rw [List.length_take, srt_length]; omega), show sameB (srt M) (srt M) = true from sameB_eq rfl, show sameB ((srt M).take q0.toNat) ((srt M).take q0.toNat) = true from sameB_eq rfl, beq_self_eq_true, refLess_eq, beq_self_eq_true]
  exact ⟨⟨rfl, trivial⟩, rfl, trivial⟩
noncomputable def prioTellsCon : Con T O := fun args cs => match args, cs with
  | [.own 0, .agg [.raw (.int .i64 _), .raw (.int .i64 _)], .agg [.raw (.int .i64 _), .raw (.int .i64 _), .raw (.int .i64 _), .raw (.int .i64 _), .raw (.int .i64 _), .raw (.int .i64 _), .raw (.int .i64 _), .raw (.int .i64 _), .raw (.int .i64 _), .raw (.int .i64 _), .raw (.int .i64 _), .raw (.int .i64 _)]], [.ro 2 _] => .ret ⟨some (.raw (.bool true)), []⟩
  | _, _ => .fail
theorem prioTellsOk : ConOk R Try.prog 8 prioTellsCon := con_of_fn R (X16) (TabOk.con R X16Ok) mixed Try.call8 Try.func8 prioTellsCon (by
  intro args cs K h
  unfold prioTellsCon at h
  split at h
  · rename_i q0 q1 a_0 a_1 a_2 a_3 a_4 a_5 b_0 b_1 b_2 b_3 b_4 b_5 L
    refine ⟨noAnn, _, fun v S hv => ⟨_, h, hv⟩, ?_⟩
    rw [prioTellsVc L q0 q1 (⟨a_0, a_1, a_2, a_3, a_4, a_5⟩ : Ent) (⟨b_0, b_1, b_2, b_3, b_4, b_5⟩ : Ent)]
    exact prioTellsHolds L q0 q1 (⟨a_0, a_1, a_2, a_3, a_4, a_5⟩ : Ent) (⟨b_0, b_1, b_2, b_3, b_4, b_5⟩ : Ent)
  · exact h.elim)
noncomputable def tab17 : Tab T O := (8, prioTellsCon) :: tab16
theorem tabOk17 : TabOk R Try.prog tab17 := TabOk.cons R prioTellsOk <| tabOk16
noncomputable def X17 : Ctx T O := { X0 with con := conOf tab17 }
theorem X17Ok : TabOk R X17.P tab17 := tabOk17
end Go.Proofs.Ytjhkokdcjikkiaa
