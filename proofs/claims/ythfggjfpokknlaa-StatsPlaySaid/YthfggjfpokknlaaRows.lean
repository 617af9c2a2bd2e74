/-
  No cell of these rows narrows 'for every input' (looked for: loops, veiled, ifaces, maps, wideKeys, modest, calm, conditions, laid).
  DERIVED. THE GIVEN ROWS OF THIS SEAT. 6 by the template 'for every input the law returns true; each argument reads behind the call as it read before'; 0 by the template 'total and deterministic' (their statements: YthfggjfpokknlaaTotals.lean).
  GIVEN WITH THE SEED: the statements are not yours to turn. If you find one false, say at which input.
  Laid BY PROGRAM, IN A SANDBOX (cutbox-rows.mjs): the forced cells as the released guide's own fill.sh prints them over the translation 3248da6d1b0df79a… (all of the seat's roots in one cut). By AI agents, Wed Nov 11 2026. No macro, syntax, notation, axiom, sorry.
-/
import Derived.Test.YthfggjfpokknlaaChecked
import GoSem.Claim
import GoSem.ClaimJoined
import GoSem.ClaimMapViews
import Derived.JoinedTies
import Derived.KernelRfl
namespace Go.Proofs.Ythfggjfpokknlaa
/- THE CELL 'sum', in the pinned program and in every row, IS THE sha256 OF THE DUMP (.gsa) THAT YthfggjfpokknlaaProg.lean LOADS. Nothing in Lean hashes anything: it is a label: what it is worth is what the hold of that sum in a sandbox is worth. -/
noncomputable def Try.pinned : Pinned := { name := "ythfggjfpokknlaa", sum := "3248da6d1b0df79ac397316851a17ad782c166e4bef4de624c4d8d1b8cea2a50", checked := Try.checked }
namespace Rows
def none {H : Type} : Left H := { results := [], args := [] }

/-- 'regattalaw21.StatsPlay': WHATEVER THE INPUT: true; the input reads as it did. -/
def statsPlaySpec : ChangeSpec := { name := "statsPlay", fn := fun _ => fun
  | [d1, d2] => { results := [.lit (.bool true)], args := [d1, d2] }
  | _ => none }
def statsPlayRow : OpenClaim := { program := "ythfggjfpokknlaa", sum := "3248da6d1b0df79ac397316851a17ad782c166e4bef4de624c4d8d1b8cea2a50", func := "regatta/regattalaw21.StatsPlay", spec := "statsPlay", unfollowed := true, recurses := true, apart := false }
def StatsPlaySaid : Prop := statsPlayRow.holds Try.pinned (OpenSpec.ofChange statsPlaySpec)

/-- ITS FALSE NEIGHBOUR: 'it returns false'. Refute it at one input. -/
def statsPlayWrong : ChangeSpec := { name := "statsPlay", fn := fun _ => fun
  | [d1, d2] => { results := [.lit (.bool false)], args := [d1, d2] }
  | _ => none }
def StatsPlayWrongFalsely : Prop := statsPlayRow.holds Try.pinned (OpenSpec.ofChange statsPlayWrong)

/-- 'regattalaw21.StatsTop': WHATEVER THE INPUT: true; the input reads as it did. -/
def statsTopSpec : ChangeSpec := { name := "statsTop", fn := fun _ => fun
  | [d1, d2] => { results := [.lit (.bool true)], args := [d1, d2] }
  | _ => none }
def statsTopRow : OpenClaim := { program := "ythfggjfpokknlaa", sum := "3248da6d1b0df79ac397316851a17ad782c166e4bef4de624c4d8d1b8cea2a50", func := "regatta/regattalaw21.StatsTop", spec := "statsTop", unfollowed := true, recurses := true, apart := false }
def StatsTopSaid : Prop := statsTopRow.holds Try.pinned (OpenSpec.ofChange statsTopSpec)

/-- ITS FALSE NEIGHBOUR: 'it returns false'. Refute it at one input. -/
def statsTopWrong : ChangeSpec := { name := "statsTop", fn := fun _ => fun
  | [d1, d2] => { results := [.lit (.bool false)], args := [d1, d2] }
  | _ => none }
def StatsTopWrongFalsely : Prop := statsTopRow.holds Try.pinned (OpenSpec.ofChange statsTopWrong)

/-- 'regattalaw21.StatsBounds': WHATEVER THE INPUT: true; the input reads as it did. -/
def statsBoundsSpec : ChangeSpec := { name := "statsBounds", fn := fun _ => fun
  | [d1, d2] => { results := [.lit (.bool true)], args := [d1, d2] }
  | _ => none }
def statsBoundsRow : OpenClaim := { program := "ythfggjfpokknlaa", sum := "3248da6d1b0df79ac397316851a17ad782c166e4bef4de624c4d8d1b8cea2a50", func := "regatta/regattalaw21.StatsBounds", spec := "statsBounds", unfollowed := true, recurses := true, apart := false }
def StatsBoundsSaid : Prop := statsBoundsRow.holds Try.pinned (OpenSpec.ofChange statsBoundsSpec)

/-- ITS FALSE NEIGHBOUR: 'it returns false'. Refute it at one input. -/
def statsBoundsWrong : ChangeSpec := { name := "statsBounds", fn := fun _ => fun
  | [d1, d2] => { results := [.lit (.bool false)], args := [d1, d2] }
  | _ => none }
def StatsBoundsWrongFalsely : Prop := statsBoundsRow.holds Try.pinned (OpenSpec.ofChange statsBoundsWrong)

/-- 'regattalaw21.StatsNil': WHATEVER THE INPUT: true; the input reads as it did. -/
def statsNilSpec : ChangeSpec := { name := "statsNil", fn := fun _ => fun
  | [d1, d2] => { results := [.lit (.bool true)], args := [d1, d2] }
  | _ => none }
def statsNilRow : OpenClaim := { program := "ythfggjfpokknlaa", sum := "3248da6d1b0df79ac397316851a17ad782c166e4bef4de624c4d8d1b8cea2a50", func := "regatta/regattalaw21.StatsNil", spec := "statsNil", unfollowed := true, recurses := true, apart := false }
def StatsNilSaid : Prop := statsNilRow.holds Try.pinned (OpenSpec.ofChange statsNilSpec)

/-- ITS FALSE NEIGHBOUR: 'it returns false'. Refute it at one input. -/
def statsNilWrong : ChangeSpec := { name := "statsNil", fn := fun _ => fun
  | [d1, d2] => { results := [.lit (.bool false)], args := [d1, d2] }
  | _ => none }
def StatsNilWrongFalsely : Prop := statsNilRow.holds Try.pinned (OpenSpec.ofChange statsNilWrong)

/-- 'regattalaw21.StatsNotes': WHATEVER THE INPUT: true; the input reads as it did. -/
def statsNotesSpec : ChangeSpec := { name := "statsNotes", fn := fun _ => fun
  | [d] => { results := [.lit (.bool true)], args := [d] }
  | _ => none }
def statsNotesRow : OpenClaim := { program := "ythfggjfpokknlaa", sum := "3248da6d1b0df79ac397316851a17ad782c166e4bef4de624c4d8d1b8cea2a50", func := "regatta/regattalaw21.StatsNotes", spec := "statsNotes", unfollowed := true, recurses := true, apart := false }
def StatsNotesSaid : Prop := statsNotesRow.holds Try.pinned (OpenSpec.ofChange statsNotesSpec)

/-- ITS FALSE NEIGHBOUR: 'it returns false'. Refute it at one input. -/
def statsNotesWrong : ChangeSpec := { name := "statsNotes", fn := fun _ => fun
  | [d] => { results := [.lit (.bool false)], args := [d] }
  | _ => none }
def StatsNotesWrongFalsely : Prop := statsNotesRow.holds Try.pinned (OpenSpec.ofChange statsNotesWrong)

/-- 'regattalaw21.StatsRuns': WHATEVER THE INPUT: true; the input reads as it did. -/
def statsRunsSpec : ChangeSpec := { name := "statsRuns", fn := fun _ => fun
  | [d] => { results := [.lit (.bool true)], args := [d] }
  | _ => none }
def statsRunsRow : OpenClaim := { program := "ythfggjfpokknlaa", sum := "3248da6d1b0df79ac397316851a17ad782c166e4bef4de624c4d8d1b8cea2a50", func := "regatta/regattalaw21.StatsRuns", spec := "statsRuns", unfollowed := true, recurses := true, apart := false }
def StatsRunsSaid : Prop := statsRunsRow.holds Try.pinned (OpenSpec.ofChange statsRunsSpec)

/-- ITS FALSE NEIGHBOUR: 'it returns false'. Refute it at one input. -/
def statsRunsWrong : ChangeSpec := { name := "statsRuns", fn := fun _ => fun
  | [d] => { results := [.lit (.bool false)], args := [d] }
  | _ => none }
def StatsRunsWrongFalsely : Prop := statsRunsRow.holds Try.pinned (OpenSpec.ofChange statsRunsWrong)

/- THE SECOND FORM. 'bulk': how many values and letters a reading holds, each counted each time it is reached (what is shared counts as often as it is met; a slice's spare places count too). A statement '..UptoSaid' is the law's where the arguments, and the package variables that the reading takes, are together of bulk at most 1048576: NARROWER than '..Said'. Prove '..Said' where nothing that the law and all that it calls make is longer than what came in: it says more and counts as full. Else prove '..UptoSaid'. A law counts once. -/
mutual
def uptoBulk {H : Type} : DataW H → Nat
  | .lit (.string bytes) => bytes.length + 1
  | .lit _ => 1
  | .nil => 1
  | .ptr d => uptoBulk d + 1
  | .slice elems spare => uptoBulkAll elems + uptoBulkAll spare + 1
  | .agg parts => uptoBulkAll parts + 1
  | .iface _ d => uptoBulk d + 1
  | .map entries => uptoBulkEntries entries + 1
  | .held _ => 1
def uptoBulkAll {H : Type} : List (DataW H) → Nat
  | [] => 0
  | d :: r => uptoBulk d + uptoBulkAll r
def uptoBulkEntries {H : Type} : List (Lit × DataW H) → Nat
  | [] => 0
  | x :: r => uptoBulkEntry x + uptoBulkEntries r
def uptoBulkEntry {H : Type} : Lit × DataW H → Nat
  | (.string bytes, d) => bytes.length + uptoBulk d + 1
  | (_, d) => uptoBulk d + 1
 end
def uptoSmall : (H : Type) → List (DataW H) → Bool := fun _ ds => decide (uptoBulkAll ds ≤ 1048576)
def OpenSpec.upto (s : _root_.Go.ChangeSpec) : _root_.Go.OpenSpec := { _root_.Go.OpenSpec.ofChange s with cond := some uptoSmall }

/-- 'regattalaw21.StatsPlay', WHERE WHAT IT READS IS OF BULK AT MOST 1048576: true; the input reads as it did. -/
def statsPlayUptoRow : OpenClaim := { program := "ythfggjfpokknlaa", sum := "3248da6d1b0df79ac397316851a17ad782c166e4bef4de624c4d8d1b8cea2a50", func := "regatta/regattalaw21.StatsPlay", spec := "statsPlay", unfollowed := true, recurses := true, apart := false, narrowed := true }
def StatsPlayUptoSaid : Prop := statsPlayUptoRow.holds Try.pinned (OpenSpec.upto statsPlaySpec)

/-- 'regattalaw21.StatsTop', WHERE WHAT IT READS IS OF BULK AT MOST 1048576: true; the input reads as it did. -/
def statsTopUptoRow : OpenClaim := { program := "ythfggjfpokknlaa", sum := "3248da6d1b0df79ac397316851a17ad782c166e4bef4de624c4d8d1b8cea2a50", func := "regatta/regattalaw21.StatsTop", spec := "statsTop", unfollowed := true, recurses := true, apart := false, narrowed := true }
def StatsTopUptoSaid : Prop := statsTopUptoRow.holds Try.pinned (OpenSpec.upto statsTopSpec)

/-- 'regattalaw21.StatsBounds', WHERE WHAT IT READS IS OF BULK AT MOST 1048576: true; the input reads as it did. -/
def statsBoundsUptoRow : OpenClaim := { program := "ythfggjfpokknlaa", sum := "3248da6d1b0df79ac397316851a17ad782c166e4bef4de624c4d8d1b8cea2a50", func := "regatta/regattalaw21.StatsBounds", spec := "statsBounds", unfollowed := true, recurses := true, apart := false, narrowed := true }
def StatsBoundsUptoSaid : Prop := statsBoundsUptoRow.holds Try.pinned (OpenSpec.upto statsBoundsSpec)

/-- 'regattalaw21.StatsNil', WHERE WHAT IT READS IS OF BULK AT MOST 1048576: true; the input reads as it did. -/
def statsNilUptoRow : OpenClaim := { program := "ythfggjfpokknlaa", sum := "3248da6d1b0df79ac397316851a17ad782c166e4bef4de624c4d8d1b8cea2a50", func := "regatta/regattalaw21.StatsNil", spec := "statsNil", unfollowed := true, recurses := true, apart := false, narrowed := true }
def StatsNilUptoSaid : Prop := statsNilUptoRow.holds Try.pinned (OpenSpec.upto statsNilSpec)

/-- 'regattalaw21.StatsNotes', WHERE WHAT IT READS IS OF BULK AT MOST 1048576: true; the input reads as it did. -/
def statsNotesUptoRow : OpenClaim := { program := "ythfggjfpokknlaa", sum := "3248da6d1b0df79ac397316851a17ad782c166e4bef4de624c4d8d1b8cea2a50", func := "regatta/regattalaw21.StatsNotes", spec := "statsNotes", unfollowed := true, recurses := true, apart := false, narrowed := true }
def StatsNotesUptoSaid : Prop := statsNotesUptoRow.holds Try.pinned (OpenSpec.upto statsNotesSpec)

/-- 'regattalaw21.StatsRuns', WHERE WHAT IT READS IS OF BULK AT MOST 1048576: true; the input reads as it did. -/
def statsRunsUptoRow : OpenClaim := { program := "ythfggjfpokknlaa", sum := "3248da6d1b0df79ac397316851a17ad782c166e4bef4de624c4d8d1b8cea2a50", func := "regatta/regattalaw21.StatsRuns", spec := "statsRuns", unfollowed := true, recurses := true, apart := false, narrowed := true }
def StatsRunsUptoSaid : Prop := statsRunsUptoRow.holds Try.pinned (OpenSpec.upto statsRunsSpec)

end Rows
end Go.Proofs.Ythfggjfpokknlaa
