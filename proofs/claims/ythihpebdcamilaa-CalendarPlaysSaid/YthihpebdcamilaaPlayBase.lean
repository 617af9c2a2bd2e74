/-
  Part of a proof over the seat Ythihpebdcamilaa: printed by a small program or typed by hand.
-/
import Derived.Test.YthihpebdcamilaaSxKit
import Derived.Test.YthihpebdcamilaaChecked
namespace Go.Proofs.Ythihpebdcamilaa
open Go.Sx Go.Proofs Classical
def noEnc : Enc := { α := Unit, zero := (), n := 0, agg := true, enc := fun _ => [], dec := fun | [] => some () | _ => none, len := fun _ => rfl, back := by intro cs a h; cases cs <;> simp_all, cell := by intro a c h; cases h }
abbrev intE : Enc := { α := Int, zero := 0, n := 1, agg := false, enc := fun a => [.raw (.int .i64 a)], dec := fun | [.raw (.int .i64 a)] => some a | _ => none, len := fun _ => rfl, back := by intro cs a h; split at h <;> simp_all, cell := by intro a c h; simp at h; exact ⟨_, h, rfl⟩ }
abbrev boolE : Enc := { α := Bool, zero := false, n := 1, agg := false, enc := fun a => [.raw (.bool a)], dec := fun | [.raw (.bool a)] => some a | _ => none, len := fun _ => rfl, back := by intro cs a h; split at h <;> simp_all, cell := by intro a c h; simp at h; exact ⟨_, h, rfl⟩ }
structure Thing where
  Id : Int
  XAt : Int
  XID : Int
  XKind : Int
  deriving DecidableEq
abbrev thingE : Enc := { α := Thing, zero := ⟨0, 0, 0, 0⟩, n := 4, agg := true, enc := fun a => [.raw (.int .i64 a.Id), .raw (.int .i64 a.XAt), .raw (.int .i64 a.XID), .raw (.int .i64 a.XKind)], dec := fun | [.raw (.int .i64 x0), .raw (.int .i64 x1), .raw (.int .i64 x2), .raw (.int .i64 x3)] => some ⟨x0, x1, x2, x3⟩ | _ => none, len := fun _ => rfl, back := by intro cs a h; split at h <;> simp_all <;> (subst h; simp), cell := by intro a c h; simp at h; rcases h with h | h | h | h <;> exact ⟨_, h, rfl⟩ }
structure Ev where
  At : Int
  ID : Int
  Kind : Int
  deriving DecidableEq
abbrev evE : Enc := { α := Ev, zero := ⟨0, 0, 0⟩, n := 3, agg := true, enc := fun a => [.raw (.int .i64 a.At), .raw (.int .i64 a.ID), .raw (.int .i64 a.Kind)], dec := fun | [.raw (.int .i64 x0), .raw (.int .i64 x1), .raw (.int .i64 x2)] => some ⟨x0, x1, x2⟩ | _ => none, len := fun _ => rfl, back := by intro cs a h; split at h <;> simp_all <;> (subst h; simp), cell := by intro a c h; simp at h; rcases h with h | h | h <;> exact ⟨_, h, rfl⟩ }
structure Op where
  Kind : Int
  Near : Bool
  EventAt : Int
  EventID : Int
  EventKind : Int
  deriving DecidableEq
abbrev opE : Enc := { α := Op, zero := ⟨0, false, 0, 0, 0⟩, n := 5, agg := true, enc := fun a => [.raw (.int .i64 a.Kind), .raw (.bool a.Near), .raw (.int .i64 a.EventAt), .raw (.int .i64 a.EventID), .raw (.int .i64 a.EventKind)], dec := fun | [.raw (.int .i64 x0), .raw (.bool x1), .raw (.int .i64 x2), .raw (.int .i64 x3), .raw (.int .i64 x4)] => some ⟨x0, x1, x2, x3, x4⟩ | _ => none, len := fun _ => rfl, back := by intro cs a h; split at h <;> simp_all <;> (subst h; simp), cell := by intro a c h; simp at h; rcases h with h | h | h | h | h <;> exact ⟨_, h, rfl⟩ }
abbrev T : Nat → Enc
  | 0 => intE
  | 1 => boolE
  | 2 => thingE
  | 3 => evE
  | 4 => opE
  | _ => noEnc
abbrev O : Nat → Type := fun _ => Empty
def R : Objs O := { rep := fun _ d => d.elim, stable := fun _ d => d.elim, lt := fun _ d => d.elim, ptr := fun _ d => d.elim }
noncomputable def tab0 : Tab T O := []
theorem tabOk0 : TabOk R Try.prog tab0 := TabOk.nil R _
noncomputable def X0 : Ctx T O := { P := Try.prog, te := fun | 3 => some 0 | 2 => some 0 | 4 => some 1 | 74 => some 2 | 27 => some 3 | 29 => some 4 | _ => none, arr := fun | 65 => some 1 | _ => none, con := conOf tab0 }
theorem X0Ok : TabOk R X0.P tab0 := tabOk0
theorem mixed : Try.prog.follows .mixedOrders = true := by kernel_rfl
end Go.Proofs.Ythihpebdcamilaa
