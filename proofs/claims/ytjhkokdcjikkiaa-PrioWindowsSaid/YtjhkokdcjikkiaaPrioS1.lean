/-
  Part of a proof over the seat Ytjhkokdcjikkiaa: printed by a small program or typed by hand.
-/
import Derived.Test.YtjhkokdcjikkiaaPrioBase
import Derived.KernelRfl
namespace Go.Proofs.Ytjhkokdcjikkiaa
open Go.Sx Go.Proofs Classical
/-! ### cmp.isNaN[int64] -/
def nanL (a0 : Int) : Bool := (a0 != a0)
noncomputable def nanLCon : Con T O := fun args cs => match args, cs with
  | [.raw (.int .i64 a0)], [] => retv (.raw (.bool (nanL a0)))
  | _, _ => .fail
theorem nanLVc (a0 : Int) : fnX X0 noAnn Try.f42 [.raw (.int .i64 a0)] [] (ends [] ⟨some (.raw (.bool (nanL a0))), []⟩) = (((nanL a0 = (a0 != a0)) ∧ True) ∧ True) := by kernel_rfl
theorem nanLOk : ConOk R Try.prog 42 nanLCon := con_of_fn R X0 (TabOk.con R X0Ok) mixed Try.call42 Try.func42 nanLCon (by
  intro args cs K h
  unfold nanLCon at h
  split at h
  · rename_i a0
    refine ⟨noAnn, _, fun v S hv => ⟨_, h, hv⟩, ?_⟩
    rw [nanLVc a0]
    unfold nanL
    exact ⟨⟨rfl, trivial⟩, trivial⟩
  · exact h.elim)
/-! ### cmp.isNaN[int] -/
def nanI (a0 : Int) : Bool := (a0 != a0)
noncomputable def nanICon : Con T O := fun args cs => match args, cs with
  | [.raw (.int .i64 a0)], [] => retv (.raw (.bool (nanI a0)))
  | _, _ => .fail
theorem nanIVc (a0 : Int) : fnX X0 noAnn Try.f43 [.raw (.int .i64 a0)] [] (ends [] ⟨some (.raw (.bool (nanI a0))), []⟩) = (((nanI a0 = (a0 != a0)) ∧ True) ∧ True) := by kernel_rfl
theorem nanIOk : ConOk R Try.prog 43 nanICon := con_of_fn R X0 (TabOk.con R X0Ok) mixed Try.call43 Try.func43 nanICon (by
  intro args cs K h
  unfold nanICon at h
  split at h
  · rename_i a0
    refine ⟨noAnn, _, fun v S hv => ⟨_, h, hv⟩, ?_⟩
    rw [nanIVc a0]
    unfold nanI
    exact ⟨⟨rfl, trivial⟩, trivial⟩
  · exact h.elim)
/-! ### regatta/prio.overlaps -/
def prioOverlaps (_a0Index : Int) (_a0Release : Int) (_a0Deadline : Int) (a0Bit : Int) (_a0Group : Int) : Bool := (a0Bit == (1 : Int))
noncomputable def prioOverlapsCon : Con T O := fun args cs => match args, cs with
  | [.agg [.raw (.int .i64 a0Index), .raw (.int .i64 a0Release), .raw (.int .i64 a0Deadline), .raw (.int .i64 a0Bit), .raw (.int .i64 a0Group)]], [] => retv (.raw (.bool (prioOverlaps a0Index a0Release a0Deadline a0Bit a0Group)))
  | _, _ => .fail
theorem prioOverlapsVc (a0Index : Int) (a0Release : Int) (a0Deadline : Int) (a0Bit : Int) (a0Group : Int) : fnX X0 noAnn Try.f32 [.agg [.raw (.int .i64 a0Index), .raw (.int .i64 a0Release), .raw (.int .i64 a0Deadline), .raw (.int .i64 a0Bit), .raw (.int .i64 a0Group)]] [] (ends [] ⟨some (.raw (.bool (prioOverlaps a0Index a0Release a0Deadline a0Bit a0Group))), []⟩) = (((prioOverlaps a0Index a0Release a0Deadline a0Bit a0Group = (a0Bit == (1 : Int))) ∧ True) ∧ True) := by kernel_rfl
theorem prioOverlapsOk : ConOk R Try.prog 32 prioOverlapsCon := con_of_fn R X0 (TabOk.con R X0Ok) mixed Try.call32 Try.func32 prioOverlapsCon (by
  intro args cs K h
  unfold prioOverlapsCon at h
  split at h
  · rename_i a0Index a0Release a0Deadline a0Bit a0Group
    refine ⟨noAnn, _, fun v S hv => ⟨_, h, hv⟩, ?_⟩
    rw [prioOverlapsVc a0Index a0Release a0Deadline a0Bit a0Group]
    unfold prioOverlaps
    exact ⟨⟨rfl, trivial⟩, trivial⟩
  · exact h.elim)
/-! ### regatta/regattaref06.Less -/
def ref06Less (a0 : Ent) (a1 : Ent) : Bool := (match (a0.SubDeadline != a1.SubDeadline) with | true => (decide (a0.SubDeadline < a1.SubDeadline)) | false => (match ((a0.SubBit == (1 : Int)) != (a1.SubBit == (1 : Int))) with | true => (a0.SubBit == (1 : Int)) | false => (match (a0.SubBit == (1 : Int)) with | true => (match (a0.SubGroup != a1.SubGroup) with | true => (decide (a0.SubGroup > a1.SubGroup)) | false => (decide (a0.ID < a1.ID))) | false => (decide (a0.ID < a1.ID)))))
noncomputable def ref06LessCon : Con T O := fun args cs => match args, cs with
  | [.agg [.raw (.int .i64 a0_0), .raw (.int .i64 a0_1), .raw (.int .i64 a0_2), .raw (.int .i64 a0_3), .raw (.int .i64 a0_4), .raw (.int .i64 a0_5)], .agg [.raw (.int .i64 a1_0), .raw (.int .i64 a1_1), .raw (.int .i64 a1_2), .raw (.int .i64 a1_3), .raw (.int .i64 a1_4), .raw (.int .i64 a1_5)]], [] => retv (.raw (.bool (ref06Less (⟨a0_0, a0_1, a0_2, a0_3, a0_4, a0_5⟩ : Ent) (⟨a1_0, a1_1, a1_2, a1_3, a1_4, a1_5⟩ : Ent))))
  | _, _ => .fail
theorem ref06LessVc (a0 : Ent) (a1 : Ent) : fnX X0 noAnn Try.f20 [.agg [.raw (.int .i64 a0.ID), .raw (.int .i64 a0.SubIndex), .raw (.int .i64 a0.SubRelease), .raw (.int .i64 a0.SubDeadline), .raw (.int .i64 a0.SubBit), .raw (.int .i64 a0.SubGroup)], .agg [.raw (.int .i64 a1.ID), .raw (.int .i64 a1.SubIndex), .raw (.int .i64 a1.SubRelease), .raw (.int .i64 a1.SubDeadline), .raw (.int .i64 a1.SubBit), .raw (.int .i64 a1.SubGroup)]] [] (ends [] ⟨some (.raw (.bool (ref06Less a0 a1))), []⟩) = ((match (a0.SubDeadline != a1.SubDeadline) with | true => ((ref06Less a0 a1 = (decide (a0.SubDeadline < a1.SubDeadline))) ∧ True) ∧ True | false => (match ((a0.SubBit == (1 : Int)) != (a1.SubBit == (1 : Int))) with | true => ((ref06Less a0 a1 = (a0.SubBit == (1 : Int))) ∧ True) ∧ True | false => (match (a0.SubBit == (1 : Int)) with | true => (match (a0.SubGroup != a1.SubGroup) with | true => ((ref06Less a0 a1 = (decide (a0.SubGroup > a1.SubGroup))) ∧ True) ∧ True | false => ((ref06Less a0 a1 = (decide (a0.ID < a1.ID))) ∧ True) ∧ True) | false => ((ref06Less a0 a1 = (decide (a0.ID < a1.ID))) ∧ True) ∧ True)))) := by kernel_rfl
theorem ref06LessOk : ConOk R Try.prog 20 ref06LessCon := con_of_fn R X0 (TabOk.con R X0Ok) mixed Try.call20 Try.func20 ref06LessCon (by
  intro args cs K h
  unfold ref06LessCon at h
  split at h
  · rename_i a0_0 a0_1 a0_2 a0_3 a0_4 a0_5 a1_0 a1_1 a1_2 a1_3 a1_4 a1_5
    refine ⟨noAnn, _, fun v S hv => ⟨_, h, hv⟩, ?_⟩
    rw [ref06LessVc (⟨a0_0, a0_1, a0_2, a0_3, a0_4, a0_5⟩ : Ent) (⟨a1_0, a1_1, a1_2, a1_3, a1_4, a1_5⟩ : Ent)]
    unfold ref06Less
    cases ((⟨a0_0, a0_1, a0_2, a0_3, a0_4, a0_5⟩ : Ent).SubDeadline != (⟨a1_0, a1_1, a1_2, a1_3, a1_4, a1_5⟩ : Ent).SubDeadline)
    ·
      cases (((⟨a0_0, a0_1, a0_2, a0_3, a0_4, a0_5⟩ : Ent).SubBit == (1 : Int)) != ((⟨a1_0, a1_1, a1_2, a1_3, a1_4, a1_5⟩ : Ent).SubBit == (1 : Int)))
      ·
        cases ((⟨a0_0, a0_1, a0_2, a0_3, a0_4, a0_5⟩ : Ent).SubBit == (1 : Int))
        ·
          exact ⟨⟨rfl, trivial⟩, trivial⟩
        ·
          cases ((⟨a0_0, a0_1, a0_2, a0_3, a0_4, a0_5⟩ : Ent).SubGroup != (⟨a1_0, a1_1, a1_2, a1_3, a1_4, a1_5⟩ : Ent).SubGroup)
          ·
            exact ⟨⟨rfl, trivial⟩, trivial⟩
          ·
            exact ⟨⟨rfl, trivial⟩, trivial⟩
      ·
        exact ⟨⟨rfl, trivial⟩, trivial⟩
    ·
      exact ⟨⟨rfl, trivial⟩, trivial⟩
  · exact h.elim)
/-! ### regatta/regattalaw06.entry -/
def law06EntryC0 (a0 : Int) (_a1 : Int) (_a2 : Int) (_a3 : Int) : Int := (a0)
def law06EntryC1 (_a0 : Int) (_a1 : Int) (_a2 : Int) (_a3 : Int) : Int := ((1 : Int))
def law06EntryC2 (_a0 : Int) (_a1 : Int) (_a2 : Int) (_a3 : Int) : Int := ((0 : Int))
def law06EntryC3 (_a0 : Int) (a1 : Int) (_a2 : Int) (_a3 : Int) : Int := (a1)
def law06EntryC4 (_a0 : Int) (_a1 : Int) (a2 : Int) (_a3 : Int) : Int := (a2)
def law06EntryC5 (_a0 : Int) (_a1 : Int) (_a2 : Int) (a3 : Int) : Int := (a3)
noncomputable def law06EntryCon : Con T O := fun args cs => match args, cs with
  | [.raw (.int .i64 a0), .raw (.int .i64 a1), .raw (.int .i64 a2), .raw (.int .i64 a3)], [] => retv (.agg [.raw (.int .i64 (law06EntryC0 a0 a1 a2 a3)), .raw (.int .i64 (law06EntryC1 a0 a1 a2 a3)), .raw (.int .i64 (law06EntryC2 a0 a1 a2 a3)), .raw (.int .i64 (law06EntryC3 a0 a1 a2 a3)), .raw (.int .i64 (law06EntryC4 a0 a1 a2 a3)), .raw (.int .i64 (law06EntryC5 a0 a1 a2 a3))])
  | _, _ => .fail
theorem law06EntryVc (a0 : Int) (a1 : Int) (a2 : Int) (a3 : Int) : fnX X0 noAnn Try.f21 [.raw (.int .i64 a0), .raw (.int .i64 a1), .raw (.int .i64 a2), .raw (.int .i64 a3)] [] (ends [] ⟨some (.agg [.raw (.int .i64 (law06EntryC0 a0 a1 a2 a3)), .raw (.int .i64 (law06EntryC1 a0 a1 a2 a3)), .raw (.int .i64 (law06EntryC2 a0 a1 a2 a3)), .raw (.int .i64 (law06EntryC3 a0 a1 a2 a3)), .raw (.int .i64 (law06EntryC4 a0 a1 a2 a3)), .raw (.int .i64 (law06EntryC5 a0 a1 a2 a3))]), []⟩) = (((((law06EntryC0 a0 a1 a2 a3 = (a0)) ∧ ((law06EntryC1 a0 a1 a2 a3 = ((1 : Int))) ∧ ((law06EntryC2 a0 a1 a2 a3 = ((0 : Int))) ∧ ((law06EntryC3 a0 a1 a2 a3 = (a1)) ∧ ((law06EntryC4 a0 a1 a2 a3 = (a2)) ∧ ((law06EntryC5 a0 a1 a2 a3 = (a3)) ∧ True))))))) ∧ True) ∧ True) := by kernel_rfl
theorem law06EntryOk : ConOk R Try.prog 21 law06EntryCon := con_of_fn R X0 (TabOk.con R X0Ok) mixed Try.call21 Try.func21 law06EntryCon (by
  intro args cs K h
  unfold law06EntryCon at h
  split at h
  · rename_i a0 a1 a2 a3
    refine ⟨noAnn, _, fun v S hv => ⟨_, h, hv⟩, ?_⟩
    rw [law06EntryVc a0 a1 a2 a3]
    unfold law06EntryC0 law06EntryC1 law06EntryC2 law06EntryC3 law06EntryC4 law06EntryC5
    exact ⟨⟨⟨rfl, ⟨rfl, ⟨rfl, ⟨rfl, ⟨rfl, ⟨rfl, trivial⟩⟩⟩⟩⟩⟩, trivial⟩, trivial⟩
  · exact h.elim)
noncomputable def tab1 : Tab T O := (42, nanLCon) :: (43, nanICon) :: (32, prioOverlapsCon) :: (20, ref06LessCon) :: (21, law06EntryCon) :: tab0
theorem tabOk1 : TabOk R Try.prog tab1 := TabOk.cons R nanLOk <| TabOk.cons R nanIOk <| TabOk.cons R prioOverlapsOk <| TabOk.cons R ref06LessOk <| TabOk.cons R law06EntryOk <| tabOk0
noncomputable def X1 : Ctx T O := { X0 with con := conOf tab1 }
theorem X1Ok : TabOk R X1.P tab1 := tabOk1
end Go.Proofs.Ytjhkokdcjikkiaa
