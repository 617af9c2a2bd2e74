/-
  Part of a proof over the seat Ythfggjfpokknlaa: printed by a small program or typed by hand.
-/
import Derived.Test.YthfggjfpokknlaaStaS12
import Derived.KernelRfl
namespace Go.Proofs.Ythfggjfpokknlaa
open Go.Sx Go.Proofs Classical
/-! ### regatta/regattalaw21.awake -/
def awakeText  : Prop := (match ((↑(List.take (Int.toNat (2 : Int)) (topS (addM (addM (addM noCount (↑(UInt8.toNat (97 : UInt8)) : Int) (2 : Int)) (↑(UInt8.toNat (98 : UInt8)) : Int) (3 : Int)) (↑(UInt8.toNat (99 : UInt8)) : Int) (2 : Int)))).length : Int) == (2 : Int)) with | true => (match (inb (0 : Int) (List.take (Int.toNat (2 : Int)) (topS (addM (addM (addM noCount (↑(UInt8.toNat (97 : UInt8)) : Int) (2 : Int)) (↑(UInt8.toNat (98 : UInt8)) : Int) (3 : Int)) (↑(UInt8.toNat (99 : UInt8)) : Int) (2 : Int)))).length) with | true => (match (inb (0 : Int) (List.take (Int.toNat (2 : Int)) (topS (addM (addM (addM noCount (↑(UInt8.toNat (97 : UInt8)) : Int) (2 : Int)) (↑(UInt8.toNat (98 : UInt8)) : Int) (3 : Int)) (↑(UInt8.toNat (99 : UInt8)) : Int) (2 : Int)))).length) with | true => (match ((oneB (at' (T (2 : Nat)).zero (List.take (Int.toNat (2 : Int)) (topS (addM (addM (addM noCount (↑(UInt8.toNat (97 : UInt8)) : Int) (2 : Int)) (↑(UInt8.toNat (98 : UInt8)) : Int) (3 : Int)) (↑(UInt8.toNat (99 : UInt8)) : Int) (2 : Int)))) (0 : Int))).data.toList == #[(98 : UInt8)].toList) with | true => (match (inb (1 : Int) (List.take (Int.toNat (2 : Int)) (topS (addM (addM (addM noCount (↑(UInt8.toNat (97 : UInt8)) : Int) (2 : Int)) (↑(UInt8.toNat (98 : UInt8)) : Int) (3 : Int)) (↑(UInt8.toNat (99 : UInt8)) : Int) (2 : Int)))).length) with | true => (match (inb (1 : Int) (List.take (Int.toNat (2 : Int)) (topS (addM (addM (addM noCount (↑(UInt8.toNat (97 : UInt8)) : Int) (2 : Int)) (↑(UInt8.toNat (98 : UInt8)) : Int) (3 : Int)) (↑(UInt8.toNat (99 : UInt8)) : Int) (2 : Int)))).length) with | true => (match ((oneB (at' (T (2 : Nat)).zero (List.take (Int.toNat (2 : Int)) (topS (addM (addM (addM noCount (↑(UInt8.toNat (97 : UInt8)) : Int) (2 : Int)) (↑(UInt8.toNat (98 : UInt8)) : Int) (3 : Int)) (↑(UInt8.toNat (99 : UInt8)) : Int) (2 : Int)))) (1 : Int))).data.toList == #[(97 : UInt8)].toList) with | true => (((true = (sumL codeS (addM (addM (addM noCount (↑(UInt8.toNat (97 : UInt8)) : Int) (2 : Int)) (↑(UInt8.toNat (98 : UInt8)) : Int) (3 : Int)) (↑(UInt8.toNat (99 : UInt8)) : Int) (2 : Int)) (keysS (addM (addM (addM noCount (↑(UInt8.toNat (97 : UInt8)) : Int) (2 : Int)) (↑(UInt8.toNat (98 : UInt8)) : Int) (3 : Int)) (↑(UInt8.toNat (99 : UInt8)) : Int) (2 : Int))) == (7 : Int))) ∧ True) ∧ True) | false => (((true = false) ∧ True) ∧ True)) | false => False) | false => False) | false => (((true = false) ∧ True) ∧ True)) | false => False) | false => False) | false => (((true = false) ∧ True) ∧ True))
theorem awakeVc  : fnX X12 (noAnn) Try.f9 [] [] (ends [] ⟨some (.raw (.bool true)), []⟩) = awakeText  := by kernel_rfl
theorem awakeHolds  : awakeText  := by
  unfold awakeText
  have hM : addM (addM (addM noCount ((UInt8.toNat 97 : Nat) : Int) 2) ((UInt8.toNat 98 : Nat) : Int) 3) ((UInt8.toNat 99 : Nat) : Int) 2 = [(97, 2), (98, 3), (99, 2)] := by kernel_rfl
  have hk : keysS [(97, 2), (98, 3), (99, 2)] = [97, 98, 99] := by
    unfold keysS
    exact List.mergeSort_of_pairwise (by simp)
  have ht : topS [(97, 2), (98, 3), (99, 2)] = [98, 97, 99] := by
    unfold topS
    rw [hk]
    kernel_rfl
  have hs : sumL codeS [(97, 2), (98, 3), (99, 2)] (keysS [(97, 2), (98, 3), (99, 2)]) = 7 := by
    rw [hk]
    kernel_rfl
  rw [hM, ht, hs]
  exact ⟨⟨rfl, trivial⟩, trivial⟩
noncomputable def awakeCon : Con T O := fun args cs => match args, cs with
  | [], [] => .ret ⟨some (.raw (.bool true)), []⟩
  | _, _ => .fail
theorem awakeOk : ConOk R Try.prog 9 awakeCon := con_of_fn R (X12) (TabOk.con R X12Ok) mixed Try.call9 Try.func9 awakeCon (by
  intro args cs K h
  unfold awakeCon at h
  split at h
  ·
    refine ⟨noAnn, _, fun v S hv => ⟨_, h, hv⟩, ?_⟩
    rw [awakeVc ]
    exact awakeHolds 
  · exact h.elim)
noncomputable def tab13 : Tab T O := (9, awakeCon) :: tab12
theorem tabOk13 : TabOk R Try.prog tab13 := TabOk.cons R awakeOk <| tabOk12
noncomputable def X13 : Ctx T O := { X0 with con := conOf tab13 }
theorem X13Ok : TabOk R X13.P tab13 := tabOk13
end Go.Proofs.Ythfggjfpokknlaa
