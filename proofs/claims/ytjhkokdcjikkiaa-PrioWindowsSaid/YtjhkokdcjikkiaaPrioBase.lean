/-
  Part of a proof over the seat Ytjhkokdcjikkiaa: printed by a small program or typed by hand.
-/
import Derived.Test.YtjhkokdcjikkiaaSxKit
import Derived.Test.YtjhkokdcjikkiaaChecked
namespace Go.Proofs.Ytjhkokdcjikkiaa
open Go.Sx Go.Proofs Classical
def noEnc : Enc := { α := Unit, zero := (), n := 0, agg := true, enc := fun _ => [], dec := fun | [] => some () | _ => none, len := fun _ => rfl, back := by intro cs a h; cases cs <;> simp_all, cell := by intro a c h; cases h }
abbrev intE : Enc := { α := Int, zero := 0, n := 1, agg := false, enc := fun a => [.raw (.int .i64 a)], dec := fun | [.raw (.int .i64 a)] => some a | _ => none, len := fun _ => rfl, back := by intro cs a h; split at h <;> simp_all, cell := by intro a c h; simp at h; exact ⟨_, h, rfl⟩ }
abbrev boolE : Enc := { α := Bool, zero := false, n := 1, agg := false, enc := fun a => [.raw (.bool a)], dec := fun | [.raw (.bool a)] => some a | _ => none, len := fun _ => rfl, back := by intro cs a h; split at h <;> simp_all, cell := by intro a c h; simp at h; exact ⟨_, h, rfl⟩ }
structure Ent where
  ID : Int
  SubIndex : Int
  SubRelease : Int
  SubDeadline : Int
  SubBit : Int
  SubGroup : Int
  deriving DecidableEq
abbrev entE : Enc := { α := Ent, zero := ⟨0, 0, 0, 0, 0, 0⟩, n := 6, agg := true, enc := fun a => [.raw (.int .i64 a.ID), .raw (.int .i64 a.SubIndex), .raw (.int .i64 a.SubRelease), .raw (.int .i64 a.SubDeadline), .raw (.int .i64 a.SubBit), .raw (.int .i64 a.SubGroup)], dec := fun | [.raw (.int .i64 x0), .raw (.int .i64 x1), .raw (.int .i64 x2), .raw (.int .i64 x3), .raw (.int .i64 x4), .raw (.int .i64 x5)] => some ⟨x0, x1, x2, x3, x4, x5⟩ | _ => none, len := fun _ => rfl, back := by intro cs a h; split at h <;> simp_all <;> (subst h; simp), cell := by intro a c h; simp at h; rcases h with h | h | h | h | h | h <;> exact ⟨_, h, rfl⟩ }
abbrev T : Nat → Enc
  | 0 => intE
  | 1 => boolE
  | 2 => entE
  | _ => noEnc
abbrev O : Nat → Type := fun _ => Empty
def R : Objs O := { rep := fun _ d => d.elim, stable := fun _ d => d.elim, lt := fun _ d => d.elim, ptr := fun _ d => d.elim }
noncomputable def tab0 : Tab T O := []
theorem tabOk0 : TabOk R Try.prog tab0 := TabOk.nil R _
noncomputable def X0 : Ctx T O := { P := Try.prog, te := fun | 3 => some 0 | 2 => some 0 | 4 => some 1 | 25 => some 2 | _ => none, arr := fun | 40 => some 1 | _ => none, con := conOf tab0 }
theorem X0Ok : TabOk R X0.P tab0 := tabOk0
theorem mixed : Try.prog.follows .mixedOrders = true := by kernel_rfl
end Go.Proofs.Ytjhkokdcjikkiaa
