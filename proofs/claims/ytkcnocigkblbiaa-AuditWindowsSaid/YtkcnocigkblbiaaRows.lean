/-
  No cell of these rows narrows 'for every input' (looked for: loops, veiled, ifaces, maps, wideKeys, modest, calm, conditions, laid).
  DERIVED. THE GIVEN ROWS OF THIS SEAT. 5 by the template 'for every input the law returns true; each argument reads behind the call as it read before'; 0 by the template 'total and deterministic' (their statements: YtkcnocigkblbiaaTotals.lean).
  GIVEN WITH THE SEED: the statements are not yours to turn. If you find one false, say at which input.
  Laid BY PROGRAM, IN A SANDBOX (cutbox-rows.mjs): the forced cells as the released guide's own fill.sh prints them over the translation f4d255b590df0297… (all of the seat's roots in one cut). By AI agents, Wed Nov 11 2026. No macro, syntax, notation, axiom, sorry.
-/
import Derived.Test.YtkcnocigkblbiaaChecked
import GoSem.Claim
import GoSem.ClaimJoined
import GoSem.ClaimMapViews
import Derived.JoinedTies
import Derived.KernelRfl
namespace Go.Proofs.Ytkcnocigkblbiaa
/- THE CELL 'sum', in the pinned program and in every row, IS THE sha256 OF THE DUMP (.gsa) THAT YtkcnocigkblbiaaProg.lean LOADS. Nothing in Lean hashes anything: it is a label: what it is worth is what the hold of that sum in a sandbox is worth. -/
noncomputable def Try.pinned : Pinned := { name := "ytkcnocigkblbiaa", sum := "f4d255b590df0297f00a6e1a816562f4cebd8e59c1e19ad0896b40ebe9ac07a1", checked := Try.checked }
namespace Rows
def none {H : Type} : Left H := { results := [], args := [] }

/-- 'regattalaw20.AuditPart': WHATEVER THE INPUT: true; the input reads as it did. -/
def auditPartSpec : ChangeSpec := { name := "auditPart", fn := fun _ => fun
  | [d1, d2, d3] => { results := [.lit (.bool true)], args := [d1, d2, d3] }
  | _ => none }
def auditPartRow : OpenClaim := { program := "ytkcnocigkblbiaa", sum := "f4d255b590df0297f00a6e1a816562f4cebd8e59c1e19ad0896b40ebe9ac07a1", func := "regatta/regattalaw20.AuditPart", spec := "auditPart", unfollowed := true, recurses := true, apart := false }
def AuditPartSaid : Prop := auditPartRow.holds Try.pinned (OpenSpec.ofChange auditPartSpec)

/-- ITS FALSE NEIGHBOUR: 'it returns false'. Refute it at one input. -/
def auditPartWrong : ChangeSpec := { name := "auditPart", fn := fun _ => fun
  | [d1, d2, d3] => { results := [.lit (.bool false)], args := [d1, d2, d3] }
  | _ => none }
def AuditPartWrongFalsely : Prop := auditPartRow.holds Try.pinned (OpenSpec.ofChange auditPartWrong)

/-- 'regattalaw20.AuditTells': WHATEVER THE INPUT: true; the input reads as it did. -/
def auditTellsSpec : ChangeSpec := { name := "auditTells", fn := fun _ => fun
  | [d1, d2, d3] => { results := [.lit (.bool true)], args := [d1, d2, d3] }
  | _ => none }
def auditTellsRow : OpenClaim := { program := "ytkcnocigkblbiaa", sum := "f4d255b590df0297f00a6e1a816562f4cebd8e59c1e19ad0896b40ebe9ac07a1", func := "regatta/regattalaw20.AuditTells", spec := "auditTells", unfollowed := true, recurses := true, apart := false }
def AuditTellsSaid : Prop := auditTellsRow.holds Try.pinned (OpenSpec.ofChange auditTellsSpec)

/-- ITS FALSE NEIGHBOUR: 'it returns false'. Refute it at one input. -/
def auditTellsWrong : ChangeSpec := { name := "auditTells", fn := fun _ => fun
  | [d1, d2, d3] => { results := [.lit (.bool false)], args := [d1, d2, d3] }
  | _ => none }
def AuditTellsWrongFalsely : Prop := auditTellsRow.holds Try.pinned (OpenSpec.ofChange auditTellsWrong)

/-- 'regattalaw20.AuditSums': WHATEVER THE INPUT: true; the input reads as it did. -/
def auditSumsSpec : ChangeSpec := { name := "auditSums", fn := fun _ => fun
  | [d1, d2] => { results := [.lit (.bool true)], args := [d1, d2] }
  | _ => none }
def auditSumsRow : OpenClaim := { program := "ytkcnocigkblbiaa", sum := "f4d255b590df0297f00a6e1a816562f4cebd8e59c1e19ad0896b40ebe9ac07a1", func := "regatta/regattalaw20.AuditSums", spec := "auditSums", unfollowed := true, recurses := true, apart := false }
def AuditSumsSaid : Prop := auditSumsRow.holds Try.pinned (OpenSpec.ofChange auditSumsSpec)

/-- ITS FALSE NEIGHBOUR: 'it returns false'. Refute it at one input. -/
def auditSumsWrong : ChangeSpec := { name := "auditSums", fn := fun _ => fun
  | [d1, d2] => { results := [.lit (.bool false)], args := [d1, d2] }
  | _ => none }
def AuditSumsWrongFalsely : Prop := auditSumsRow.holds Try.pinned (OpenSpec.ofChange auditSumsWrong)

/-- 'regattalaw20.AuditWindows': WHATEVER THE INPUT: true; the input reads as it did. -/
def auditWindowsSpec : ChangeSpec := { name := "auditWindows", fn := fun _ => fun
  | [d1, d2, d3] => { results := [.lit (.bool true)], args := [d1, d2, d3] }
  | _ => none }
def auditWindowsRow : OpenClaim := { program := "ytkcnocigkblbiaa", sum := "f4d255b590df0297f00a6e1a816562f4cebd8e59c1e19ad0896b40ebe9ac07a1", func := "regatta/regattalaw20.AuditWindows", spec := "auditWindows", unfollowed := true, recurses := true, apart := false }
def AuditWindowsSaid : Prop := auditWindowsRow.holds Try.pinned (OpenSpec.ofChange auditWindowsSpec)

/-- ITS FALSE NEIGHBOUR: 'it returns false'. Refute it at one input. -/
def auditWindowsWrong : ChangeSpec := { name := "auditWindows", fn := fun _ => fun
  | [d1, d2, d3] => { results := [.lit (.bool false)], args := [d1, d2, d3] }
  | _ => none }
def AuditWindowsWrongFalsely : Prop := auditWindowsRow.holds Try.pinned (OpenSpec.ofChange auditWindowsWrong)

/-- 'regattalaw20.AuditFair': WHATEVER THE INPUT: true; the input reads as it did. -/
def auditFairSpec : ChangeSpec := { name := "auditFair", fn := fun _ => fun
  | [d1, d2] => { results := [.lit (.bool true)], args := [d1, d2] }
  | _ => none }
def auditFairRow : OpenClaim := { program := "ytkcnocigkblbiaa", sum := "f4d255b590df0297f00a6e1a816562f4cebd8e59c1e19ad0896b40ebe9ac07a1", func := "regatta/regattalaw20.AuditFair", spec := "auditFair", unfollowed := true, recurses := true, apart := false }
def AuditFairSaid : Prop := auditFairRow.holds Try.pinned (OpenSpec.ofChange auditFairSpec)

/-- ITS FALSE NEIGHBOUR: 'it returns false'. Refute it at one input. -/
def auditFairWrong : ChangeSpec := { name := "auditFair", fn := fun _ => fun
  | [d1, d2] => { results := [.lit (.bool false)], args := [d1, d2] }
  | _ => none }
def AuditFairWrongFalsely : Prop := auditFairRow.holds Try.pinned (OpenSpec.ofChange auditFairWrong)

/- THE SECOND FORM. 'bulk': how many values and letters a reading holds, each counted each time it is reached (what is shared counts as often as it is met; a slice's spare places count too). A statement '..UptoSaid' is the law's where the arguments, and the package variables that the reading takes, are together of bulk at most 1048576: NARROWER than '..Said'. Prove '..Said' where nothing that the law and all that it calls make is longer than what came in: it says more and counts as full. Else prove '..UptoSaid'. A law counts once. -/
mutual
def uptoBulk {H : Type} : DataW H → Nat
  | .lit (.string bytes) => bytes.length + 1
  | .lit _ => 1
  | .nil => 1
  | .ptr d => uptoBulk d + 1
  | .slice elems spare => uptoBulkAll elems + uptoBulkAll spare + 1
  | .agg parts => uptoBulkAll parts + 1
  | .iface _ d => uptoBulk d + 1
  | .map entries => uptoBulkEntries entries + 1
  | .held _ => 1
def uptoBulkAll {H : Type} : List (DataW H) → Nat
  | [] => 0
  | d :: r => uptoBulk d + uptoBulkAll r
def uptoBulkEntries {H : Type} : List (Lit × DataW H) → Nat
  | [] => 0
  | x :: r => uptoBulkEntry x + uptoBulkEntries r
def uptoBulkEntry {H : Type} : Lit × DataW H → Nat
  | (.string bytes, d) => bytes.length + uptoBulk d + 1
  | (_, d) => uptoBulk d + 1
 end
def uptoSmall : (H : Type) → List (DataW H) → Bool := fun _ ds => decide (uptoBulkAll ds ≤ 1048576)
def OpenSpec.upto (s : _root_.Go.ChangeSpec) : _root_.Go.OpenSpec := { _root_.Go.OpenSpec.ofChange s with cond := some uptoSmall }

/-- 'regattalaw20.AuditPart', WHERE WHAT IT READS IS OF BULK AT MOST 1048576: true; the input reads as it did. -/
def auditPartUptoRow : OpenClaim := { program := "ytkcnocigkblbiaa", sum := "f4d255b590df0297f00a6e1a816562f4cebd8e59c1e19ad0896b40ebe9ac07a1", func := "regatta/regattalaw20.AuditPart", spec := "auditPart", unfollowed := true, recurses := true, apart := false, narrowed := true }
def AuditPartUptoSaid : Prop := auditPartUptoRow.holds Try.pinned (OpenSpec.upto auditPartSpec)

/-- 'regattalaw20.AuditTells', WHERE WHAT IT READS IS OF BULK AT MOST 1048576: true; the input reads as it did. -/
def auditTellsUptoRow : OpenClaim := { program := "ytkcnocigkblbiaa", sum := "f4d255b590df0297f00a6e1a816562f4cebd8e59c1e19ad0896b40ebe9ac07a1", func := "regatta/regattalaw20.AuditTells", spec := "auditTells", unfollowed := true, recurses := true, apart := false, narrowed := true }
def AuditTellsUptoSaid : Prop := auditTellsUptoRow.holds Try.pinned (OpenSpec.upto auditTellsSpec)

/-- 'regattalaw20.AuditSums', WHERE WHAT IT READS IS OF BULK AT MOST 1048576: true; the input reads as it did. -/
def auditSumsUptoRow : OpenClaim := { program := "ytkcnocigkblbiaa", sum := "f4d255b590df0297f00a6e1a816562f4cebd8e59c1e19ad0896b40ebe9ac07a1", func := "regatta/regattalaw20.AuditSums", spec := "auditSums", unfollowed := true, recurses := true, apart := false, narrowed := true }
def AuditSumsUptoSaid : Prop := auditSumsUptoRow.holds Try.pinned (OpenSpec.upto auditSumsSpec)

/-- 'regattalaw20.AuditWindows', WHERE WHAT IT READS IS OF BULK AT MOST 1048576: true; the input reads as it did. -/
def auditWindowsUptoRow : OpenClaim := { program := "ytkcnocigkblbiaa", sum := "f4d255b590df0297f00a6e1a816562f4cebd8e59c1e19ad0896b40ebe9ac07a1", func := "regatta/regattalaw20.AuditWindows", spec := "auditWindows", unfollowed := true, recurses := true, apart := false, narrowed := true }
def AuditWindowsUptoSaid : Prop := auditWindowsUptoRow.holds Try.pinned (OpenSpec.upto auditWindowsSpec)

/-- 'regattalaw20.AuditFair', WHERE WHAT IT READS IS OF BULK AT MOST 1048576: true; the input reads as it did. -/
def auditFairUptoRow : OpenClaim := { program := "ytkcnocigkblbiaa", sum := "f4d255b590df0297f00a6e1a816562f4cebd8e59c1e19ad0896b40ebe9ac07a1", func := "regatta/regattalaw20.AuditFair", spec := "auditFair", unfollowed := true, recurses := true, apart := false, narrowed := true }
def AuditFairUptoSaid : Prop := auditFairUptoRow.holds Try.pinned (OpenSpec.upto auditFairSpec)

end Rows
end Go.Proofs.Ytkcnocigkblbiaa
