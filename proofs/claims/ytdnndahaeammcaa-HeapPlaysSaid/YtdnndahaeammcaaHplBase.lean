/-
  Part of a proof over the seat Ytdnndahaeammcaa: printed by a small program or typed by hand.
-/
import Derived.Test.YtdnndahaeammcaaSxKit
import Derived.Test.YtdnndahaeammcaaChecked
namespace Go.Proofs.Ytdnndahaeammcaa
open Go.Sx Go.Proofs Classical
def noEnc : Enc := { α := Unit, zero := (), n := 0, agg := true, enc := fun _ => [], dec := fun | [] => some () | _ => none, len := fun _ => rfl, back := by intro cs a h; cases cs <;> simp_all, cell := by intro a c h; cases h }
abbrev intE : Enc := { α := Int, zero := 0, n := 1, agg := false, enc := fun a => [.raw (.int .i64 a)], dec := fun | [.raw (.int .i64 a)] => some a | _ => none, len := fun _ => rfl, back := by intro cs a h; split at h <;> simp_all, cell := by intro a c h; simp at h; exact ⟨_, h, rfl⟩ }
abbrev boolE : Enc := { α := Bool, zero := false, n := 1, agg := false, enc := fun a => [.raw (.bool a)], dec := fun | [.raw (.bool a)] => some a | _ => none, len := fun _ => rfl, back := by intro cs a h; split at h <;> simp_all, cell := by intro a c h; simp at h; exact ⟨_, h, rfl⟩ }
structure Thing where
  Id : Int
  X : Int
  deriving DecidableEq
abbrev thingE : Enc := { α := Thing, zero := ⟨0, 0⟩, n := 2, agg := true, enc := fun a => [.raw (.int .i64 a.Id), .raw (.int .i64 a.X)], dec := fun | [.raw (.int .i64 x0), .raw (.int .i64 x1)] => some ⟨x0, x1⟩ | _ => none, len := fun _ => rfl, back := by intro cs a h; split at h <;> simp_all <;> (subst h; simp), cell := by intro a c h; simp at h; rcases h with h | h <;> exact ⟨_, h, rfl⟩ }
structure RThing where
  ID : Int
  X : Int
  deriving DecidableEq
abbrev rThingE : Enc := { α := RThing, zero := ⟨0, 0⟩, n := 2, agg := true, enc := fun a => [.raw (.int .i64 a.ID), .raw (.int .i64 a.X)], dec := fun | [.raw (.int .i64 x0), .raw (.int .i64 x1)] => some ⟨x0, x1⟩ | _ => none, len := fun _ => rfl, back := by intro cs a h; split at h <;> simp_all <;> (subst h; simp), cell := by intro a c h; simp at h; rcases h with h | h <;> exact ⟨_, h, rfl⟩ }
structure Op where
  Kind : Int
  ID : Int
  X : Int
  deriving DecidableEq
abbrev opE : Enc := { α := Op, zero := ⟨0, 0, 0⟩, n := 3, agg := true, enc := fun a => [.raw (.int .i64 a.Kind), .raw (.int .i64 a.ID), .raw (.int .i64 a.X)], dec := fun | [.raw (.int .i64 x0), .raw (.int .i64 x1), .raw (.int .i64 x2)] => some ⟨x0, x1, x2⟩ | _ => none, len := fun _ => rfl, back := by intro cs a h; split at h <;> simp_all <;> (subst h; simp), cell := by intro a c h; simp at h; rcases h with h | h | h <;> exact ⟨_, h, rfl⟩ }
abbrev T : Nat → Enc
  | 0 => intE
  | 1 => boolE
  | 2 => thingE
  | 3 => rThingE
  | 4 => opE
  | _ => noEnc
abbrev O : Nat → Type := fun _ => Empty
def R : Objs O := { rep := fun _ d => d.elim, stable := fun _ d => d.elim, lt := fun _ d => d.elim, ptr := fun _ d => d.elim }
noncomputable def tab0 : Tab T O := []
theorem tabOk0 : TabOk R Try.prog tab0 := TabOk.nil R _
noncomputable def X0 : Ctx T O := { P := Try.prog, te := fun | 3 => some 0 | 2 => some 0 | 4 => some 1 | 57 => some 2 | 45 => some 3 | 43 => some 4 | _ => none, arr := fun | 27 => some 1 | _ => none, con := conOf tab0 }
theorem X0Ok : TabOk R X0.P tab0 := tabOk0
theorem mixed : Try.prog.follows .mixedOrders = true := by kernel_rfl
end Go.Proofs.Ytdnndahaeammcaa
