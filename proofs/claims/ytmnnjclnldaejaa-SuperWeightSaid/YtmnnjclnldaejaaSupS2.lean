/-
  Part of a proof over the seat Ytmnnjclnldaejaa: printed by a small program or typed by hand.
-/
import Derived.Test.YtmnnjclnldaejaaSupS1
import Derived.KernelRfl
namespace Go.Proofs.Ytmnnjclnldaejaa
open Go.Sx Go.Proofs Classical
/-! ### cmp.Compare[int] -/
def cmpI (a0 : Int) (a1 : Int) : Int := (match (nanI a0) with | true => (match (nanI a1) with | true => ((0 : Int)) | false => ((-1 : Int))) | false => (match (nanI a1) with | true => ((1 : Int)) | false => (match (decide (a0 < a1)) with | true => ((-1 : Int)) | false => (match (decide (a0 > a1)) with | true => ((1 : Int)) | false => ((0 : Int))))))
noncomputable def cmpICon : Con T O := fun args cs => match args, cs with
  | [.raw (.int .i64 a0), .raw (.int .i64 a1)], [] => retv (.raw (.int .i64 (cmpI a0 a1)))
  | _, _ => .fail
theorem cmpIVc (a0 : Int) (a1 : Int) : fnX X1 noAnn Try.f82 [.raw (.int .i64 a0), .raw (.int .i64 a1)] [] (ends [] ⟨some (.raw (.int .i64 (cmpI a0 a1))), []⟩) = ((match (nanI a0) with | true => (match (nanI a1) with | true => ((cmpI a0 a1 = ((0 : Int))) ∧ True) ∧ True | false => ((cmpI a0 a1 = ((-1 : Int))) ∧ True) ∧ True) | false => (match (nanI a1) with | true => ((cmpI a0 a1 = ((1 : Int))) ∧ True) ∧ True | false => (match (decide (a0 < a1)) with | true => ((cmpI a0 a1 = ((-1 : Int))) ∧ True) ∧ True | false => (match (decide (a0 > a1)) with | true => ((cmpI a0 a1 = ((1 : Int))) ∧ True) ∧ True | false => ((cmpI a0 a1 = ((0 : Int))) ∧ True) ∧ True))))) := by kernel_rfl
theorem cmpIOk : ConOk R Try.prog 82 cmpICon := con_of_fn R X1 (TabOk.con R X1Ok) mixed Try.call82 Try.func82 cmpICon (by
  intro args cs K h
  unfold cmpICon at h
  split at h
  · rename_i a0 a1
    refine ⟨noAnn, _, fun v S hv => ⟨_, h, hv⟩, ?_⟩
    rw [cmpIVc a0 a1]
    unfold cmpI
    cases (nanI a0)
    ·
      cases (nanI a1)
      ·
        cases (decide (a0 < a1))
        ·
          cases (decide (a0 > a1))
          ·
            exact ⟨⟨rfl, trivial⟩, trivial⟩
          ·
            exact ⟨⟨rfl, trivial⟩, trivial⟩
        ·
          exact ⟨⟨rfl, trivial⟩, trivial⟩
      ·
        exact ⟨⟨rfl, trivial⟩, trivial⟩
    ·
      cases (nanI a1)
      ·
        exact ⟨⟨rfl, trivial⟩, trivial⟩
      ·
        exact ⟨⟨rfl, trivial⟩, trivial⟩
  · exact h.elim)
/-! ### cmp.Compare[uint32] -/
def cmpU (a0 : Int) (a1 : Int) : Int := (match (nanU a0) with | true => (match (nanU a1) with | true => ((0 : Int)) | false => ((-1 : Int))) | false => (match (nanU a1) with | true => ((1 : Int)) | false => (match (decide (a0 < a1)) with | true => ((-1 : Int)) | false => (match (decide (a0 > a1)) with | true => ((1 : Int)) | false => ((0 : Int))))))
noncomputable def cmpUCon : Con T O := fun args cs => match args, cs with
  | [.raw (.int .u32 a0), .raw (.int .u32 a1)], [] => retv (.raw (.int .i64 (cmpU a0 a1)))
  | _, _ => .fail
theorem cmpUVc (a0 : Int) (a1 : Int) : fnX X1 noAnn Try.f91 [.raw (.int .u32 a0), .raw (.int .u32 a1)] [] (ends [] ⟨some (.raw (.int .i64 (cmpU a0 a1))), []⟩) = ((match (nanU a0) with | true => (match (nanU a1) with | true => ((cmpU a0 a1 = ((0 : Int))) ∧ True) ∧ True | false => ((cmpU a0 a1 = ((-1 : Int))) ∧ True) ∧ True) | false => (match (nanU a1) with | true => ((cmpU a0 a1 = ((1 : Int))) ∧ True) ∧ True | false => (match (decide (a0 < a1)) with | true => ((cmpU a0 a1 = ((-1 : Int))) ∧ True) ∧ True | false => (match (decide (a0 > a1)) with | true => ((cmpU a0 a1 = ((1 : Int))) ∧ True) ∧ True | false => ((cmpU a0 a1 = ((0 : Int))) ∧ True) ∧ True))))) := by kernel_rfl
theorem cmpUOk : ConOk R Try.prog 91 cmpUCon := con_of_fn R X1 (TabOk.con R X1Ok) mixed Try.call91 Try.func91 cmpUCon (by
  intro args cs K h
  unfold cmpUCon at h
  split at h
  · rename_i a0 a1
    refine ⟨noAnn, _, fun v S hv => ⟨_, h, hv⟩, ?_⟩
    rw [cmpUVc a0 a1]
    unfold cmpU
    cases (nanU a0)
    ·
      cases (nanU a1)
      ·
        cases (decide (a0 < a1))
        ·
          cases (decide (a0 > a1))
          ·
            exact ⟨⟨rfl, trivial⟩, trivial⟩
          ·
            exact ⟨⟨rfl, trivial⟩, trivial⟩
        ·
          exact ⟨⟨rfl, trivial⟩, trivial⟩
      ·
        exact ⟨⟨rfl, trivial⟩, trivial⟩
    ·
      cases (nanU a1)
      ·
        exact ⟨⟨rfl, trivial⟩, trivial⟩
      ·
        exact ⟨⟨rfl, trivial⟩, trivial⟩
  · exact h.elim)
/-! ### regatta/nat.Of -/
def natOfText (n : Int) : Prop := ((True ∧ True) ∧ ((lim n.toNat = cutD [IntKind.u32.wrap n, IntKind.u32.wrap (n.fdiv ((2 : Int) ^ min (Int.toNat (32 : Int)) IntKind.u64.bits))]) ∧ True))
theorem natOfVc (n : Int) : fnX X1 (noAnn) Try.f72 [.raw (.int .u64 n)] [] (ends [] ⟨some (.own 0), [(0, some (.ro 2 (lim n.toNat)))]⟩) = natOfText n := by kernel_rfl
theorem natOfHolds (n : Int) (hp : 0 ≤ n ∧ n < 18446744073709551616) : natOfText n := by
  unfold natOfText
  obtain ⟨h0, h1⟩ := hp
  obtain ⟨n, rfl⟩ := Int.eq_ofNat_of_zero_le h0
  rw [shr32, u32_mod, u32_mod, Int.toNat_natCast]
  have e : lim n = cutD [(n : Int) % 4294967296, (n : Int) / 4294967296 % 4294967296] := by
    have hok : OkB b32 [(n : Int) % 4294967296, (n : Int) / 4294967296 % 4294967296] := by
      intro x hx
      simp only [List.mem_cons, List.not_mem_nil, or_false] at hx
      show 0 ≤ x ∧ x < 4294967296
      rcases hx with rfl | rfl <;> omega
    rw [cutD_lim b32_gt hok]
    unfold lim
    congr 1
    simp only [nvB]
    rw [show b32 = 4294967296 from rfl]
    omega
  exact ⟨⟨trivial, trivial⟩, e, trivial⟩
noncomputable def natOfCon : Con T O := fun args cs => match args, cs with
  | [.raw (.int .u64 n)], [] => chk (decide (0 ≤ n ∧ n < 18446744073709551616)) (.ret ⟨some (.own 0), [(0, some (.ro 2 (lim n.toNat)))]⟩)
  | _, _ => .fail
theorem natOfOk : ConOk R Try.prog 72 natOfCon := con_of_fn R (X1) (TabOk.con R X1Ok) mixed Try.call72 Try.func72 natOfCon (by
  intro args cs K h
  unfold natOfCon at h
  split at h
  · rename_i n
    rw [Tree.holds_chk] at h
    obtain ⟨hp, h⟩ := h
    refine ⟨noAnn, _, fun v S hv => ⟨_, h, hv⟩, ?_⟩
    rw [natOfVc n]
    exact natOfHolds n (of_decide_eq_true hp)
  · exact h.elim)
noncomputable def tab2 : Tab T O := (82, cmpICon) :: (91, cmpUCon) :: (72, natOfCon) :: tab1
theorem tabOk2 : TabOk R Try.prog tab2 := TabOk.cons R cmpIOk <| TabOk.cons R cmpUOk <| TabOk.cons R natOfOk <| tabOk1
noncomputable def X2 : Ctx T O := { X0 with con := conOf tab2 }
theorem X2Ok : TabOk R X2.P tab2 := tabOk2
end Go.Proofs.Ytmnnjclnldaejaa
