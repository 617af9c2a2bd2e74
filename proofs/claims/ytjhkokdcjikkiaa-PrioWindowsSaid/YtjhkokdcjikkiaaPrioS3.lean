/-
  Part of a proof over the seat Ytjhkokdcjikkiaa: printed by a small program or typed by hand.
-/
import Derived.Test.YtjhkokdcjikkiaaPrioS2
import Derived.KernelRfl
namespace Go.Proofs.Ytjhkokdcjikkiaa
open Go.Sx Go.Proofs Classical
/-! ### regatta/prio.order -/
def prioOrder (a0 : Ent) (a1 : Ent) : Int := (match (prioOverlaps a0.SubIndex a0.SubRelease a0.SubDeadline a0.SubBit a0.SubGroup) with | true => (match (prioOverlaps a1.SubIndex a1.SubRelease a1.SubDeadline a1.SubBit a1.SubGroup) with | true => (orL [cmpL a0.SubDeadline a1.SubDeadline, cmpI (1 : Int) (1 : Int), cmpL a1.SubGroup a0.SubGroup, cmpI a0.ID a1.ID]) | false => (orL [cmpL a0.SubDeadline a1.SubDeadline, cmpI (0 : Int) (1 : Int), (0 : Int), cmpI a0.ID a1.ID])) | false => (match (prioOverlaps a1.SubIndex a1.SubRelease a1.SubDeadline a1.SubBit a1.SubGroup) with | true => (orL [cmpL a0.SubDeadline a1.SubDeadline, cmpI (1 : Int) (0 : Int), (0 : Int), cmpI a0.ID a1.ID]) | false => (orL [cmpL a0.SubDeadline a1.SubDeadline, cmpI (0 : Int) (0 : Int), (0 : Int), cmpI a0.ID a1.ID])))
noncomputable def prioOrderCon : Con T O := fun args cs => match args, cs with
  | [.agg [.raw (.int .i64 a0_0), .raw (.int .i64 a0_1), .raw (.int .i64 a0_2), .raw (.int .i64 a0_3), .raw (.int .i64 a0_4), .raw (.int .i64 a0_5)], .agg [.raw (.int .i64 a1_0), .raw (.int .i64 a1_1), .raw (.int .i64 a1_2), .raw (.int .i64 a1_3), .raw (.int .i64 a1_4), .raw (.int .i64 a1_5)]], [] => retv (.raw (.int .i64 (prioOrder (⟨a0_0, a0_1, a0_2, a0_3, a0_4, a0_5⟩ : Ent) (⟨a1_0, a1_1, a1_2, a1_3, a1_4, a1_5⟩ : Ent))))
  | _, _ => .fail
theorem prioOrderVc (a0 : Ent) (a1 : Ent) : fnX X2 noAnn Try.f22 [.agg [.raw (.int .i64 a0.ID), .raw (.int .i64 a0.SubIndex), .raw (.int .i64 a0.SubRelease), .raw (.int .i64 a0.SubDeadline), .raw (.int .i64 a0.SubBit), .raw (.int .i64 a0.SubGroup)], .agg [.raw (.int .i64 a1.ID), .raw (.int .i64 a1.SubIndex), .raw (.int .i64 a1.SubRelease), .raw (.int .i64 a1.SubDeadline), .raw (.int .i64 a1.SubBit), .raw (.int .i64 a1.SubGroup)]] [] (ends [] ⟨some (.raw (.int .i64 (prioOrder a0 a1))), []⟩) = ((match (prioOverlaps a0.SubIndex a0.SubRelease a0.SubDeadline a0.SubBit a0.SubGroup) with | true => (match (prioOverlaps a1.SubIndex a1.SubRelease a1.SubDeadline a1.SubBit a1.SubGroup) with | true => ((prioOrder a0 a1 = (orL [cmpL a0.SubDeadline a1.SubDeadline, cmpI (1 : Int) (1 : Int), cmpL a1.SubGroup a0.SubGroup, cmpI a0.ID a1.ID])) ∧ True) ∧ True | false => ((prioOrder a0 a1 = (orL [cmpL a0.SubDeadline a1.SubDeadline, cmpI (0 : Int) (1 : Int), (0 : Int), cmpI a0.ID a1.ID])) ∧ True) ∧ True) | false => (match (prioOverlaps a1.SubIndex a1.SubRelease a1.SubDeadline a1.SubBit a1.SubGroup) with | true => ((prioOrder a0 a1 = (orL [cmpL a0.SubDeadline a1.SubDeadline, cmpI (1 : Int) (0 : Int), (0 : Int), cmpI a0.ID a1.ID])) ∧ True) ∧ True | false => ((prioOrder a0 a1 = (orL [cmpL a0.SubDeadline a1.SubDeadline, cmpI (0 : Int) (0 : Int), (0 : Int), cmpI a0.ID a1.ID])) ∧ True) ∧ True))) := by kernel_rfl
theorem prioOrderOk : ConOk R Try.prog 22 prioOrderCon := con_of_fn R X2 (TabOk.con R X2Ok) mixed Try.call22 Try.func22 prioOrderCon (by
  intro args cs K h
  unfold prioOrderCon at h
  split at h
  · rename_i a0_0 a0_1 a0_2 a0_3 a0_4 a0_5 a1_0 a1_1 a1_2 a1_3 a1_4 a1_5
    refine ⟨noAnn, _, fun v S hv => ⟨_, h, hv⟩, ?_⟩
    rw [prioOrderVc (⟨a0_0, a0_1, a0_2, a0_3, a0_4, a0_5⟩ : Ent) (⟨a1_0, a1_1, a1_2, a1_3, a1_4, a1_5⟩ : Ent)]
    unfold prioOrder
    cases (prioOverlaps (⟨a0_0, a0_1, a0_2, a0_3, a0_4, a0_5⟩ : Ent).SubIndex (⟨a0_0, a0_1, a0_2, a0_3, a0_4, a0_5⟩ : Ent).SubRelease (⟨a0_0, a0_1, a0_2, a0_3, a0_4, a0_5⟩ : Ent).SubDeadline (⟨a0_0, a0_1, a0_2, a0_3, a0_4, a0_5⟩ : Ent).SubBit (⟨a0_0, a0_1, a0_2, a0_3, a0_4, a0_5⟩ : Ent).SubGroup)
    ·
      cases (prioOverlaps (⟨a1_0, a1_1, a1_2, a1_3, a1_4, a1_5⟩ : Ent).SubIndex (⟨a1_0, a1_1, a1_2, a1_3, a1_4, a1_5⟩ : Ent).SubRelease (⟨a1_0, a1_1, a1_2, a1_3, a1_4, a1_5⟩ : Ent).SubDeadline (⟨a1_0, a1_1, a1_2, a1_3, a1_4, a1_5⟩ : Ent).SubBit (⟨a1_0, a1_1, a1_2, a1_3, a1_4, a1_5⟩ : Ent).SubGroup)
      ·
        exact ⟨⟨rfl, trivial⟩, trivial⟩
      ·
        exact ⟨⟨rfl, trivial⟩, trivial⟩
    ·
      cases (prioOverlaps (⟨a1_0, a1_1, a1_2, a1_3, a1_4, a1_5⟩ : Ent).SubIndex (⟨a1_0, a1_1, a1_2, a1_3, a1_4, a1_5⟩ : Ent).SubRelease (⟨a1_0, a1_1, a1_2, a1_3, a1_4, a1_5⟩ : Ent).SubDeadline (⟨a1_0, a1_1, a1_2, a1_3, a1_4, a1_5⟩ : Ent).SubBit (⟨a1_0, a1_1, a1_2, a1_3, a1_4, a1_5⟩ : Ent).SubGroup)
      ·
        exact ⟨⟨rfl, trivial⟩, trivial⟩
      ·
        exact ⟨⟨rfl, trivial⟩, trivial⟩
  · exact h.elim)
noncomputable def tab3 : Tab T O := (22, prioOrderCon) :: tab2
theorem tabOk3 : TabOk R Try.prog tab3 := TabOk.cons R prioOrderOk <| tabOk2
noncomputable def X3 : Ctx T O := { X0 with con := conOf tab3 }
theorem X3Ok : TabOk R X3.P tab3 := tabOk3
end Go.Proofs.Ytjhkokdcjikkiaa
