/-
  Part of a proof over the seat Ythfggjfpokknlaa: printed by a small program or typed by hand.
-/
import Derived.Test.YthfggjfpokknlaaSxKit
import Derived.Test.YthfggjfpokknlaaChecked
namespace Go.Proofs.Ythfggjfpokknlaa
open Go.Sx Go.Proofs Classical
def noEnc : Enc := { α := Unit, zero := (), n := 0, agg := true, enc := fun _ => [], dec := fun | [] => some () | _ => none, len := fun _ => rfl, back := by intro cs a h; cases cs <;> simp_all, cell := by intro a c h; cases h }
abbrev intE : Enc := { α := Int, zero := 0, n := 1, agg := false, enc := fun a => [.raw (.int .i64 a)], dec := fun | [.raw (.int .i64 a)] => some a | _ => none, len := fun _ => rfl, back := by intro cs a h; split at h <;> simp_all, cell := by intro a c h; simp at h; exact ⟨_, h, rfl⟩ }
abbrev boolE : Enc := { α := Bool, zero := false, n := 1, agg := false, enc := fun a => [.raw (.bool a)], dec := fun | [.raw (.bool a)] => some a | _ => none, len := fun _ => rfl, back := by intro cs a h; split at h <;> simp_all, cell := by intro a c h; simp at h; exact ⟨_, h, rfl⟩ }
def strEnc (a : Int) : List SV := [.raw (.string (oneB a))]
def strDec : List SV → Option Int
  | [.raw (.string b)] => (match b.data.toList with
    | [c] => some (c.toNat : Int)
    | _ => none)
  | _ => none
theorem strBack (cs : List SV) (a : Int) (h : strDec cs = some a) : strEnc a = cs := by
  unfold strDec at h
  split at h
  · rename_i b
    split at h
    · rename_i c hc
      simp only [Option.some.injEq] at h
      subst h
      unfold strEnc
      rw [oneB_code]
      obtain ⟨⟨l⟩⟩ := b
      have hc : l = [c] := hc
      rw [hc]
    · cases h
  · cases h
abbrev strE : Enc := { α := Int, zero := 0, n := 1, agg := false, enc := strEnc, dec := strDec, len := fun _ => rfl, back := strBack, cell := by intro a c h; simp [strEnc] at h; exact ⟨_, h, rfl⟩ }
abbrev sintE : Enc := { α := Int, zero := 0, n := 1, agg := false, enc := fun a => [.raw (.int .i64 a)], dec := fun | [.raw (.int .i64 a)] => some a | _ => none, len := fun _ => rfl, back := by intro cs a h; split at h <;> simp_all, cell := by intro a c h; simp at h; exact ⟨_, h, rfl⟩, skey := true }
structure Note where
  ID : Int
  Since : Int
  SubIndex : Int
  SubRelease : Int
  SubDeadline : Int
  SubBit : Int
  SubGroup : Int
  Ready : Int
  At : Int
  Core : Int
  deriving DecidableEq
abbrev noteE : Enc := { α := Note, zero := ⟨0, 0, 0, 0, 0, 0, 0, 0, 0, 0⟩, n := 10, agg := true, enc := fun a => [.raw (.int .i64 a.ID), .raw (.int .i64 a.Since), .raw (.int .i64 a.SubIndex), .raw (.int .i64 a.SubRelease), .raw (.int .i64 a.SubDeadline), .raw (.int .i64 a.SubBit), .raw (.int .i64 a.SubGroup), .raw (.int .i64 a.Ready), .raw (.int .i64 a.At), .raw (.int .i64 a.Core)], dec := fun | [.raw (.int .i64 x0), .raw (.int .i64 x1), .raw (.int .i64 x2), .raw (.int .i64 x3), .raw (.int .i64 x4), .raw (.int .i64 x5), .raw (.int .i64 x6), .raw (.int .i64 x7), .raw (.int .i64 x8), .raw (.int .i64 x9)] => some ⟨x0, x1, x2, x3, x4, x5, x6, x7, x8, x9⟩ | _ => none, len := fun _ => rfl, back := by intro cs a h; split at h <;> simp_all <;> (subst h; simp), cell := by intro a c h; simp at h; rcases h with h | h | h | h | h | h | h | h | h | h <;> exact ⟨_, h, rfl⟩ }
structure Cnt where
  K : Int
  N : Int
  deriving DecidableEq
abbrev cntE : Enc := { α := Cnt, zero := ⟨0, 0⟩, n := 2, agg := true, enc := fun a => [.raw (.int .i64 a.K), .raw (.int .i64 a.N)], dec := fun | [.raw (.int .i64 x0), .raw (.int .i64 x1)] => some ⟨x0, x1⟩ | _ => none, len := fun _ => rfl, back := by intro cs a h; split at h <;> simp_all <;> (subst h; simp), cell := by intro a c h; simp at h; rcases h with h | h <;> exact ⟨_, h, rfl⟩ }
structure Op where
  K : Int
  N : Int
  Raw : Bool
  deriving DecidableEq
abbrev opE : Enc := { α := Op, zero := ⟨0, 0, false⟩, n := 3, agg := true, enc := fun a => [.raw (.int .i64 a.K), .raw (.int .i64 a.N), .raw (.bool a.Raw)], dec := fun | [.raw (.int .i64 x0), .raw (.int .i64 x1), .raw (.bool x2)] => some ⟨x0, x1, x2⟩ | _ => none, len := fun _ => rfl, back := by intro cs a h; split at h <;> simp_all <;> (subst h; simp), cell := by intro a c h; simp at h; rcases h with h | h | h <;> exact ⟨_, h, rfl⟩ }
abbrev T : Nat → Enc
  | 0 => intE
  | 1 => boolE
  | 2 => strE
  | 3 => sintE
  | 4 => noteE
  | 5 => cntE
  | 6 => opE
  | _ => noEnc
abbrev O : Nat → Type := fun _ => Empty
def R : Objs O := { rep := fun _ d => d.elim, stable := fun _ d => d.elim, lt := fun _ d => d.elim, ptr := fun _ d => d.elim }
noncomputable def tab0 : Tab T O := []
theorem tabOk0 : TabOk R Try.prog tab0 := TabOk.nil R _
noncomputable def X0 : Ctx T O := { P := Try.prog, te := fun | 3 => some 0 | 2 => some 0 | 4 => some 1 | 9 => some 2 | 79 => some 4 | 60 => some 5 | 31 => some 6 | 68 => some 3 | _ => none, arr := fun  | _ => none, con := conOf tab0 }
theorem X0Ok : TabOk R X0.P tab0 := tabOk0
theorem mixed : Try.prog.follows .mixedOrders = true := by kernel_rfl
end Go.Proofs.Ythfggjfpokknlaa
