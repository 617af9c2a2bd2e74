/-
  Part of a proof over the seat Ytmnnjclnldaejaa: printed by a small program or typed by hand.
-/
import Derived.Test.YtmnnjclnldaejaaSxKit
import Derived.Test.YtmnnjclnldaejaaSxRelax
import Derived.Test.YtmnnjclnldaejaaSxAnn2
import Derived.Test.YtmnnjclnldaejaaSxStable
import Derived.Test.YtmnnjclnldaejaaSxDigits
import Derived.Test.YtmnnjclnldaejaaChecked
namespace Go.Proofs.Ytmnnjclnldaejaa
open Go.Sx Go.Proofs Classical
def noEnc : Enc := { α := Unit, zero := (), n := 0, agg := true, enc := fun _ => [], dec := fun | [] => some () | _ => none, len := fun _ => rfl, back := by intro cs a h; cases cs <;> simp_all, cell := by intro a c h; cases h }
abbrev intE : Enc := { α := Int, zero := 0, n := 1, agg := false, enc := fun a => [.raw (.int .i64 a)], dec := fun | [.raw (.int .i64 a)] => some a | _ => none, len := fun _ => rfl, back := by intro cs a h; split at h <;> simp_all, cell := by intro a c h; simp at h; exact ⟨_, h, rfl⟩ }
abbrev boolE : Enc := { α := Bool, zero := false, n := 1, agg := false, enc := fun a => [.raw (.bool a)], dec := fun | [.raw (.bool a)] => some a | _ => none, len := fun _ => rfl, back := by intro cs a h; split at h <;> simp_all, cell := by intro a c h; simp at h; exact ⟨_, h, rfl⟩ }
abbrev u32E : Enc := { α := Int, zero := 0, n := 1, agg := false, enc := fun a => [.raw (.int .u32 a)], dec := fun | [.raw (.int .u32 a)] => some a | _ => none, len := fun _ => rfl, back := by intro cs a h; split at h <;> simp_all, cell := by intro a c h; simp at h; exact ⟨_, h, rfl⟩ }
structure Part where
  E : Int
  P : Int
  deriving DecidableEq
abbrev partE : Enc := { α := Part, zero := ⟨0, 0⟩, n := 2, agg := true, enc := fun a => [.raw (.int .i64 a.E), .raw (.int .i64 a.P)], dec := fun | [.raw (.int .i64 x0), .raw (.int .i64 x1)] => some ⟨x0, x1⟩ | _ => none, len := fun _ => rfl, back := by intro cs a h; split at h <;> simp_all <;> (subst h; simp), cell := by intro a c h; simp at h; rcases h with h | h <;> exact ⟨_, h, rfl⟩ }
structure Job where
  Part : Int
  Index : Int
  Release : Int
  Deadline : Int
  Left : Int
  deriving DecidableEq
abbrev jobE : Enc := { α := Job, zero := ⟨0, 0, 0, 0, 0⟩, n := 5, agg := true, enc := fun a => [.raw (.int .i64 a.Part), .raw (.int .i64 a.Index), .raw (.int .i64 a.Release), .raw (.int .i64 a.Deadline), .raw (.int .i64 a.Left)], dec := fun | [.raw (.int .i64 x0), .raw (.int .i64 x1), .raw (.int .i64 x2), .raw (.int .i64 x3), .raw (.int .i64 x4)] => some ⟨x0, x1, x2, x3, x4⟩ | _ => none, len := fun _ => rfl, back := by intro cs a h; split at h <;> simp_all <;> (subst h; simp), cell := by intro a c h; simp at h; rcases h with h | h | h | h | h <;> exact ⟨_, h, rfl⟩ }
structure Weight where
  E : Int
  P : Int
  deriving DecidableEq
abbrev weightE : Enc := { α := Weight, zero := ⟨0, 0⟩, n := 2, agg := true, enc := fun a => [.raw (.int .i64 a.E), .raw (.int .i64 a.P)], dec := fun | [.raw (.int .i64 x0), .raw (.int .i64 x1)] => some ⟨x0, x1⟩ | _ => none, len := fun _ => rfl, back := by intro cs a h; split at h <;> simp_all <;> (subst h; simp), cell := by intro a c h; simp at h; rcases h with h | h <;> exact ⟨_, h, rfl⟩ }
structure Pair where
  i0 : Int
  i1 : Int
  deriving DecidableEq
abbrev pairE : Enc := { α := Pair, zero := ⟨0, 0⟩, n := 2, agg := true, enc := fun a => [.raw (.int .i64 a.i0), .raw (.int .i64 a.i1)], dec := fun | [.raw (.int .i64 x0), .raw (.int .i64 x1)] => some ⟨x0, x1⟩ | _ => none, len := fun _ => rfl, back := by intro cs a h; split at h <;> simp_all <;> (subst h; simp), cell := by intro a c h; simp at h; rcases h with h | h <;> exact ⟨_, h, rfl⟩ }
structure Own where
  PartE : Int
  PartP : Int
  JobPart : Int
  JobIndex : Int
  JobRelease : Int
  JobDeadline : Int
  JobLeft : Int
  deriving DecidableEq
abbrev ownE : Enc := { α := Own, zero := ⟨0, 0, 0, 0, 0, 0, 0⟩, n := 7, agg := true, enc := fun a => [.raw (.int .i64 a.PartE), .raw (.int .i64 a.PartP), .raw (.int .i64 a.JobPart), .raw (.int .i64 a.JobIndex), .raw (.int .i64 a.JobRelease), .raw (.int .i64 a.JobDeadline), .raw (.int .i64 a.JobLeft)], dec := fun | [.raw (.int .i64 x0), .raw (.int .i64 x1), .raw (.int .i64 x2), .raw (.int .i64 x3), .raw (.int .i64 x4), .raw (.int .i64 x5), .raw (.int .i64 x6)] => some ⟨x0, x1, x2, x3, x4, x5, x6⟩ | _ => none, len := fun _ => rfl, back := by intro cs a h; split at h <;> simp_all <;> (subst h; simp), cell := by intro a c h; simp at h; rcases h with h | h | h | h | h | h | h <;> exact ⟨_, h, rfl⟩ }
abbrev T : Nat → Enc
  | 0 => intE
  | 1 => boolE
  | 2 => u32E
  | 3 => partE
  | 4 => jobE
  | 5 => weightE
  | 6 => pairE
  | 7 => ownE
  | _ => noEnc
abbrev O : Nat → Type := fun _ => Empty
def R : Objs O := { rep := fun _ d => d.elim, stable := fun _ d => d.elim, lt := fun _ d => d.elim, ptr := fun _ d => d.elim }
noncomputable def tab0 : Tab T O := []
theorem tabOk0 : TabOk R Try.prog tab0 := TabOk.nil R _
noncomputable def X0 : Ctx T O := { P := Try.prog, te := fun | 3 => some 0 | 2 => some 0 | 4 => some 1 | 104 => some 2 | 39 => some 3 | 52 => some 4 | 29 => some 5 | 68 => some 6 | 84 => some 7 | _ => none, arr := fun | 60 => some 0 | _ => none, con := conOf tab0 }
theorem X0Ok : TabOk R X0.P tab0 := tabOk0
theorem mixed : Try.prog.follows .mixedOrders = true := by kernel_rfl
end Go.Proofs.Ytmnnjclnldaejaa
