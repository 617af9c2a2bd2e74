/-
  No cell of these rows narrows 'for every input' (looked for: loops, veiled, ifaces, maps, wideKeys, modest, calm, conditions, laid).
  DERIVED. THE GIVEN ROWS OF THIS SEAT. 8 by the template 'for every input the law returns true; each argument reads behind the call as it read before'; 0 by the template 'total and deterministic' (their statements: YtlfjbnflfdnoaaaGreatTotals.lean).
  GIVEN WITH THE SEED: the statements are not yours to turn. If you find one false, say at which input.
  Laid BY PROGRAM, IN A SANDBOX (cutbox-rows.mjs): the forced cells as the released guide's own fill.sh prints them over the translation 7baa5d87a6af3626… (all of the seat's roots in one cut). By AI agents, Wed Nov 11 2026. No macro, syntax, notation, axiom, sorry.
-/
import Derived.Test.YtlfjbnflfdnoaaaGreatChecked
import GoSem.Claim
import GoSem.ClaimJoined
import GoSem.ClaimMapViews
import Derived.JoinedTies
import Derived.KernelRfl
namespace Go.Proofs.YtlfjbnflfdnoaaaGreat
/- THE CELL 'sum', in the pinned program and in every row, IS THE sha256 OF THE DUMP (.gsa) THAT YtlfjbnflfdnoaaaGreatProg.lean LOADS. Nothing in Lean hashes anything: it is a label: what it is worth is what the hold of that sum in a sandbox is worth. -/
noncomputable def Tryz.pinned : Pinned := { name := "ytlfjbnflfdnoaaagreat", sum := "7baa5d87a6af362677dd039d31a092dec8452f0aef74ae2c3ba55b8e1d77f271", checked := Tryz.checked }
namespace Rows
def none {H : Type} : Left H := { results := [], args := [] }

/-- 'regattalaw19.EngineBusy': WHATEVER THE INPUT: true; the input reads as it did. -/
def engineBusySpec : ChangeSpec := { name := "engineBusy", fn := fun _ => fun
  | [d1, d2] => { results := [.lit (.bool true)], args := [d1, d2] }
  | _ => none }
def engineBusyRow : OpenClaim := { program := "ytlfjbnflfdnoaaagreat", sum := "7baa5d87a6af362677dd039d31a092dec8452f0aef74ae2c3ba55b8e1d77f271", func := "regatta/regattalaw19.EngineBusy", spec := "engineBusy", unfollowed := true, recurses := true, apart := false }
def EngineBusySaid : Prop := engineBusyRow.holds Tryz.pinned (OpenSpec.ofChange engineBusySpec)

/-- ITS FALSE NEIGHBOUR: 'it returns false'. Refute it at one input. -/
def engineBusyWrong : ChangeSpec := { name := "engineBusy", fn := fun _ => fun
  | [d1, d2] => { results := [.lit (.bool false)], args := [d1, d2] }
  | _ => none }
def EngineBusyWrongFalsely : Prop := engineBusyRow.holds Tryz.pinned (OpenSpec.ofChange engineBusyWrong)

/-- 'regattalaw19.EngineMoves': WHATEVER THE INPUT: true; the input reads as it did. -/
def engineMovesSpec : ChangeSpec := { name := "engineMoves", fn := fun _ => fun
  | [d1, d2] => { results := [.lit (.bool true)], args := [d1, d2] }
  | _ => none }
def engineMovesRow : OpenClaim := { program := "ytlfjbnflfdnoaaagreat", sum := "7baa5d87a6af362677dd039d31a092dec8452f0aef74ae2c3ba55b8e1d77f271", func := "regatta/regattalaw19.EngineMoves", spec := "engineMoves", unfollowed := true, recurses := true, apart := false }
def EngineMovesSaid : Prop := engineMovesRow.holds Tryz.pinned (OpenSpec.ofChange engineMovesSpec)

/-- ITS FALSE NEIGHBOUR: 'it returns false'. Refute it at one input. -/
def engineMovesWrong : ChangeSpec := { name := "engineMoves", fn := fun _ => fun
  | [d1, d2] => { results := [.lit (.bool false)], args := [d1, d2] }
  | _ => none }
def EngineMovesWrongFalsely : Prop := engineMovesRow.holds Tryz.pinned (OpenSpec.ofChange engineMovesWrong)

/-- 'regattalaw19.EngineFair': WHATEVER THE INPUT: true; the input reads as it did. -/
def engineFairSpec : ChangeSpec := { name := "engineFair", fn := fun _ => fun
  | [d1, d2, d3] => { results := [.lit (.bool true)], args := [d1, d2, d3] }
  | _ => none }
def engineFairRow : OpenClaim := { program := "ytlfjbnflfdnoaaagreat", sum := "7baa5d87a6af362677dd039d31a092dec8452f0aef74ae2c3ba55b8e1d77f271", func := "regatta/regattalaw19.EngineFair", spec := "engineFair", unfollowed := true, recurses := true, apart := false }
def EngineFairSaid : Prop := engineFairRow.holds Tryz.pinned (OpenSpec.ofChange engineFairSpec)

/-- ITS FALSE NEIGHBOUR: 'it returns false'. Refute it at one input. -/
def engineFairWrong : ChangeSpec := { name := "engineFair", fn := fun _ => fun
  | [d1, d2, d3] => { results := [.lit (.bool false)], args := [d1, d2, d3] }
  | _ => none }
def EngineFairWrongFalsely : Prop := engineFairRow.holds Tryz.pinned (OpenSpec.ofChange engineFairWrong)

/-- 'regattalaw19.EngineLeaves': WHATEVER THE INPUT: true; the input reads as it did. -/
def engineLeavesSpec : ChangeSpec := { name := "engineLeaves", fn := fun _ => fun
  | [d1, d2, d3] => { results := [.lit (.bool true)], args := [d1, d2, d3] }
  | _ => none }
def engineLeavesRow : OpenClaim := { program := "ytlfjbnflfdnoaaagreat", sum := "7baa5d87a6af362677dd039d31a092dec8452f0aef74ae2c3ba55b8e1d77f271", func := "regatta/regattalaw19.EngineLeaves", spec := "engineLeaves", unfollowed := true, recurses := true, apart := false }
def EngineLeavesSaid : Prop := engineLeavesRow.holds Tryz.pinned (OpenSpec.ofChange engineLeavesSpec)

/-- ITS FALSE NEIGHBOUR: 'it returns false'. Refute it at one input. -/
def engineLeavesWrong : ChangeSpec := { name := "engineLeaves", fn := fun _ => fun
  | [d1, d2, d3] => { results := [.lit (.bool false)], args := [d1, d2, d3] }
  | _ => none }
def EngineLeavesWrongFalsely : Prop := engineLeavesRow.holds Tryz.pinned (OpenSpec.ofChange engineLeavesWrong)

/-- 'regattalaw19.EngineMeets': WHATEVER THE INPUT: true; the input reads as it did. -/
def engineMeetsSpec : ChangeSpec := { name := "engineMeets", fn := fun _ => fun
  | [d1, d2] => { results := [.lit (.bool true)], args := [d1, d2] }
  | _ => none }
def engineMeetsRow : OpenClaim := { program := "ytlfjbnflfdnoaaagreat", sum := "7baa5d87a6af362677dd039d31a092dec8452f0aef74ae2c3ba55b8e1d77f271", func := "regatta/regattalaw19.EngineMeets", spec := "engineMeets", unfollowed := true, recurses := true, apart := false }
def EngineMeetsSaid : Prop := engineMeetsRow.holds Tryz.pinned (OpenSpec.ofChange engineMeetsSpec)

/-- ITS FALSE NEIGHBOUR: 'it returns false'. Refute it at one input. -/
def engineMeetsWrong : ChangeSpec := { name := "engineMeets", fn := fun _ => fun
  | [d1, d2] => { results := [.lit (.bool false)], args := [d1, d2] }
  | _ => none }
def EngineMeetsWrongFalsely : Prop := engineMeetsRow.holds Tryz.pinned (OpenSpec.ofChange engineMeetsWrong)

/-- 'regattalaw19.EngineOrder': WHATEVER THE INPUT: true; the input reads as it did. -/
def engineOrderSpec : ChangeSpec := { name := "engineOrder", fn := fun _ => fun
  | [d1, d2] => { results := [.lit (.bool true)], args := [d1, d2] }
  | _ => none }
def engineOrderRow : OpenClaim := { program := "ytlfjbnflfdnoaaagreat", sum := "7baa5d87a6af362677dd039d31a092dec8452f0aef74ae2c3ba55b8e1d77f271", func := "regatta/regattalaw19.EngineOrder", spec := "engineOrder", unfollowed := true, recurses := true, apart := false }
def EngineOrderSaid : Prop := engineOrderRow.holds Tryz.pinned (OpenSpec.ofChange engineOrderSpec)

/-- ITS FALSE NEIGHBOUR: 'it returns false'. Refute it at one input. -/
def engineOrderWrong : ChangeSpec := { name := "engineOrder", fn := fun _ => fun
  | [d1, d2] => { results := [.lit (.bool false)], args := [d1, d2] }
  | _ => none }
def EngineOrderWrongFalsely : Prop := engineOrderRow.holds Tryz.pinned (OpenSpec.ofChange engineOrderWrong)

/-- 'regattalaw19.EngineEnd': WHATEVER THE INPUT: true; the input reads as it did. -/
def engineEndSpec : ChangeSpec := { name := "engineEnd", fn := fun _ => fun
  | [d1, d2, d3] => { results := [.lit (.bool true)], args := [d1, d2, d3] }
  | _ => none }
def engineEndRow : OpenClaim := { program := "ytlfjbnflfdnoaaagreat", sum := "7baa5d87a6af362677dd039d31a092dec8452f0aef74ae2c3ba55b8e1d77f271", func := "regatta/regattalaw19.EngineEnd", spec := "engineEnd", unfollowed := true, recurses := true, apart := false }
def EngineEndSaid : Prop := engineEndRow.holds Tryz.pinned (OpenSpec.ofChange engineEndSpec)

/-- ITS FALSE NEIGHBOUR: 'it returns false'. Refute it at one input. -/
def engineEndWrong : ChangeSpec := { name := "engineEnd", fn := fun _ => fun
  | [d1, d2, d3] => { results := [.lit (.bool false)], args := [d1, d2, d3] }
  | _ => none }
def EngineEndWrongFalsely : Prop := engineEndRow.holds Tryz.pinned (OpenSpec.ofChange engineEndWrong)

/-- 'regattalaw20.AuditEngine': WHATEVER THE INPUT: true; the input reads as it did. -/
def auditEngineSpec : ChangeSpec := { name := "auditEngine", fn := fun _ => fun
  | [d1, d2] => { results := [.lit (.bool true)], args := [d1, d2] }
  | _ => none }
def auditEngineRow : OpenClaim := { program := "ytlfjbnflfdnoaaagreat", sum := "7baa5d87a6af362677dd039d31a092dec8452f0aef74ae2c3ba55b8e1d77f271", func := "regatta/regattalaw20.AuditEngine", spec := "auditEngine", unfollowed := true, recurses := true, apart := false }
def AuditEngineSaid : Prop := auditEngineRow.holds Tryz.pinned (OpenSpec.ofChange auditEngineSpec)

/-- ITS FALSE NEIGHBOUR: 'it returns false'. Refute it at one input. -/
def auditEngineWrong : ChangeSpec := { name := "auditEngine", fn := fun _ => fun
  | [d1, d2] => { results := [.lit (.bool false)], args := [d1, d2] }
  | _ => none }
def AuditEngineWrongFalsely : Prop := auditEngineRow.holds Tryz.pinned (OpenSpec.ofChange auditEngineWrong)

/- THE SECOND FORM. 'bulk': how many values and letters a reading holds, each counted each time it is reached (what is shared counts as often as it is met; a slice's spare places count too). A statement '..UptoSaid' is the law's where the arguments, and the package variables that the reading takes, are together of bulk at most 1048576: NARROWER than '..Said'. Prove '..Said' where nothing that the law and all that it calls make is longer than what came in: it says more and counts as full. Else prove '..UptoSaid'. A law counts once. -/
mutual
def uptoBulk {H : Type} : DataW H → Nat
  | .lit (.string bytes) => bytes.length + 1
  | .lit _ => 1
  | .nil => 1
  | .ptr d => uptoBulk d + 1
  | .slice elems spare => uptoBulkAll elems + uptoBulkAll spare + 1
  | .agg parts => uptoBulkAll parts + 1
  | .iface _ d => uptoBulk d + 1
  | .map entries => uptoBulkEntries entries + 1
  | .held _ => 1
def uptoBulkAll {H : Type} : List (DataW H) → Nat
  | [] => 0
  | d :: r => uptoBulk d + uptoBulkAll r
def uptoBulkEntries {H : Type} : List (Lit × DataW H) → Nat
  | [] => 0
  | x :: r => uptoBulkEntry x + uptoBulkEntries r
def uptoBulkEntry {H : Type} : Lit × DataW H → Nat
  | (.string bytes, d) => bytes.length + uptoBulk d + 1
  | (_, d) => uptoBulk d + 1
 end
def uptoSmall : (H : Type) → List (DataW H) → Bool := fun _ ds => decide (uptoBulkAll ds ≤ 1048576)
def OpenSpec.upto (s : _root_.Go.ChangeSpec) : _root_.Go.OpenSpec := { _root_.Go.OpenSpec.ofChange s with cond := some uptoSmall }

/-- 'regattalaw19.EngineBusy', WHERE WHAT IT READS IS OF BULK AT MOST 1048576: true; the input reads as it did. -/
def engineBusyUptoRow : OpenClaim := { program := "ytlfjbnflfdnoaaagreat", sum := "7baa5d87a6af362677dd039d31a092dec8452f0aef74ae2c3ba55b8e1d77f271", func := "regatta/regattalaw19.EngineBusy", spec := "engineBusy", unfollowed := true, recurses := true, apart := false, narrowed := true }
def EngineBusyUptoSaid : Prop := engineBusyUptoRow.holds Tryz.pinned (OpenSpec.upto engineBusySpec)

/-- 'regattalaw19.EngineMoves', WHERE WHAT IT READS IS OF BULK AT MOST 1048576: true; the input reads as it did. -/
def engineMovesUptoRow : OpenClaim := { program := "ytlfjbnflfdnoaaagreat", sum := "7baa5d87a6af362677dd039d31a092dec8452f0aef74ae2c3ba55b8e1d77f271", func := "regatta/regattalaw19.EngineMoves", spec := "engineMoves", unfollowed := true, recurses := true, apart := false, narrowed := true }
def EngineMovesUptoSaid : Prop := engineMovesUptoRow.holds Tryz.pinned (OpenSpec.upto engineMovesSpec)

/-- 'regattalaw19.EngineFair', WHERE WHAT IT READS IS OF BULK AT MOST 1048576: true; the input reads as it did. -/
def engineFairUptoRow : OpenClaim := { program := "ytlfjbnflfdnoaaagreat", sum := "7baa5d87a6af362677dd039d31a092dec8452f0aef74ae2c3ba55b8e1d77f271", func := "regatta/regattalaw19.EngineFair", spec := "engineFair", unfollowed := true, recurses := true, apart := false, narrowed := true }
def EngineFairUptoSaid : Prop := engineFairUptoRow.holds Tryz.pinned (OpenSpec.upto engineFairSpec)

/-- 'regattalaw19.EngineLeaves', WHERE WHAT IT READS IS OF BULK AT MOST 1048576: true; the input reads as it did. -/
def engineLeavesUptoRow : OpenClaim := { program := "ytlfjbnflfdnoaaagreat", sum := "7baa5d87a6af362677dd039d31a092dec8452f0aef74ae2c3ba55b8e1d77f271", func := "regatta/regattalaw19.EngineLeaves", spec := "engineLeaves", unfollowed := true, recurses := true, apart := false, narrowed := true }
def EngineLeavesUptoSaid : Prop := engineLeavesUptoRow.holds Tryz.pinned (OpenSpec.upto engineLeavesSpec)

/-- 'regattalaw19.EngineMeets', WHERE WHAT IT READS IS OF BULK AT MOST 1048576: true; the input reads as it did. -/
def engineMeetsUptoRow : OpenClaim := { program := "ytlfjbnflfdnoaaagreat", sum := "7baa5d87a6af362677dd039d31a092dec8452f0aef74ae2c3ba55b8e1d77f271", func := "regatta/regattalaw19.EngineMeets", spec := "engineMeets", unfollowed := true, recurses := true, apart := false, narrowed := true }
def EngineMeetsUptoSaid : Prop := engineMeetsUptoRow.holds Tryz.pinned (OpenSpec.upto engineMeetsSpec)

/-- 'regattalaw19.EngineOrder', WHERE WHAT IT READS IS OF BULK AT MOST 1048576: true; the input reads as it did. -/
def engineOrderUptoRow : OpenClaim := { program := "ytlfjbnflfdnoaaagreat", sum := "7baa5d87a6af362677dd039d31a092dec8452f0aef74ae2c3ba55b8e1d77f271", func := "regatta/regattalaw19.EngineOrder", spec := "engineOrder", unfollowed := true, recurses := true, apart := false, narrowed := true }
def EngineOrderUptoSaid : Prop := engineOrderUptoRow.holds Tryz.pinned (OpenSpec.upto engineOrderSpec)

/-- 'regattalaw19.EngineEnd', WHERE WHAT IT READS IS OF BULK AT MOST 1048576: true; the input reads as it did. -/
def engineEndUptoRow : OpenClaim := { program := "ytlfjbnflfdnoaaagreat", sum := "7baa5d87a6af362677dd039d31a092dec8452f0aef74ae2c3ba55b8e1d77f271", func := "regatta/regattalaw19.EngineEnd", spec := "engineEnd", unfollowed := true, recurses := true, apart := false, narrowed := true }
def EngineEndUptoSaid : Prop := engineEndUptoRow.holds Tryz.pinned (OpenSpec.upto engineEndSpec)

/-- 'regattalaw20.AuditEngine', WHERE WHAT IT READS IS OF BULK AT MOST 1048576: true; the input reads as it did. -/
def auditEngineUptoRow : OpenClaim := { program := "ytlfjbnflfdnoaaagreat", sum := "7baa5d87a6af362677dd039d31a092dec8452f0aef74ae2c3ba55b8e1d77f271", func := "regatta/regattalaw20.AuditEngine", spec := "auditEngine", unfollowed := true, recurses := true, apart := false, narrowed := true }
def AuditEngineUptoSaid : Prop := auditEngineUptoRow.holds Tryz.pinned (OpenSpec.upto auditEngineSpec)

end Rows
end Go.Proofs.YtlfjbnflfdnoaaaGreat
