/-
  Part of a proof over the seat Ythfggjfpokknlaa: printed by a small program or typed by hand.
-/
import Derived.Test.YthfggjfpokknlaaStaS13
import Derived.KernelRfl
namespace Go.Proofs.Ythfggjfpokknlaa
open Go.Sx Go.Proofs Classical

def walkP {T : Nat → Enc} {O : Nat → Type} (S : SS T O) : SV → List Nat → Option Nat
  | v, [] => match v.head with
    | [k] => some k
    | _ => none
  | v, i :: p => match headC S.get v with
    | some (.cells cs _) => match cs[i]? with
      | some u => walkP S u p
      | none => none
    | _ => none
def atP {T : Nat → Enc} {O : Nat → Type} (S : SS T O) (t : Nat) (p : List Nat) (c : Chunk T O) : SS T O := match getT S.tmps t with
  | some v => match walkP S v p with
    | some k => { S with heap := setK k c S.heap }
    | none => S
  | none => S
def runsM (L : List Note) : CM := L.foldl (fun M n => addM M n.ID 1) noCount
def coresM (L : List Note) : CM := L.foldl (fun M n => addM M n.Core 1) noCount
def moved (Q : CM) (n : Note) : Bool := (mget n.ID Q).isSome && (mget n.ID Q).getD 0 != n.Core
def moveStep (s : CM × CM) (n : Note) : CM × CM := (bif moved s.2 n then addM s.1 n.ID 1 else s.1, mput n.ID n.Core s.2)
def movesQ (L : List Note) : CM × CM := L.foldl moveStep (noCount, noCount)
theorem runsM_snoc (L : List Note) (n : Note) : runsM (L ++ [n]) = addM (runsM L) n.ID 1 := by simp [runsM]
theorem coresM_snoc (L : List Note) (n : Note) : coresM (L ++ [n]) = addM (coresM L) n.Core 1 := by simp [coresM]
theorem movesQ_snoc (L : List Note) (n : Note) : movesQ (L ++ [n]) = moveStep (movesQ L) n := by simp [movesQ]

/-! ### regatta/stats.Runs$1 -/
def runsKeyText (n : Note) : Prop := ((((n.ID = n.ID) ∧ ((true = true) ∧ True)) ∧ True) ∧ True)
theorem runsKeyVc (n : Note) : fnX X13 (noAnn) Try.f43 [.agg [.raw (.int .i64 n.ID), .raw (.int .i64 n.Since), .raw (.int .i64 n.SubIndex), .raw (.int .i64 n.SubRelease), .raw (.int .i64 n.SubDeadline), .raw (.int .i64 n.SubBit), .raw (.int .i64 n.SubGroup), .raw (.int .i64 n.Ready), .raw (.int .i64 n.At), .raw (.int .i64 n.Core)]] [] (ends [] ⟨some (.tup [.raw (.int .i64 n.ID), .raw (.bool true)]), []⟩) = runsKeyText n := by kernel_rfl
theorem runsKeyHolds (n : Note) : runsKeyText n := by
  unfold runsKeyText
  repeat' first | trivial | rfl | apply And.intro
noncomputable def runsKeyCon : Con T O := fun args cs => match args, cs with
  | [.agg [.raw (.int .i64 n_0), .raw (.int .i64 n_1), .raw (.int .i64 n_2), .raw (.int .i64 n_3), .raw (.int .i64 n_4), .raw (.int .i64 n_5), .raw (.int .i64 n_6), .raw (.int .i64 n_7), .raw (.int .i64 n_8), .raw (.int .i64 n_9)]], [] => .ret ⟨some (.tup [.raw (.int .i64 (⟨n_0, n_1, n_2, n_3, n_4, n_5, n_6, n_7, n_8, n_9⟩ : Note).ID), .raw (.bool true)]), []⟩
  | _, _ => .fail
theorem runsKeyOk : ConOk R Try.prog 43 runsKeyCon := con_of_fn R (X13) (TabOk.con R X13Ok) mixed Try.call43 Try.func43 runsKeyCon (by
  intro args cs K h
  unfold runsKeyCon at h
  split at h
  · rename_i n_0 n_1 n_2 n_3 n_4 n_5 n_6 n_7 n_8 n_9
    refine ⟨noAnn, _, fun v S hv => ⟨_, h, hv⟩, ?_⟩
    rw [runsKeyVc (⟨n_0, n_1, n_2, n_3, n_4, n_5, n_6, n_7, n_8, n_9⟩ : Note)]
    exact runsKeyHolds (⟨n_0, n_1, n_2, n_3, n_4, n_5, n_6, n_7, n_8, n_9⟩ : Note)
  · exact h.elim)
/-! ### regatta/stats.Cores$1 -/
def coresKeyText (n : Note) : Prop := ((((n.Core = n.Core) ∧ ((true = true) ∧ True)) ∧ True) ∧ True)
theorem coresKeyVc (n : Note) : fnX X13 (noAnn) Try.f44 [.agg [.raw (.int .i64 n.ID), .raw (.int .i64 n.Since), .raw (.int .i64 n.SubIndex), .raw (.int .i64 n.SubRelease), .raw (.int .i64 n.SubDeadline), .raw (.int .i64 n.SubBit), .raw (.int .i64 n.SubGroup), .raw (.int .i64 n.Ready), .raw (.int .i64 n.At), .raw (.int .i64 n.Core)]] [] (ends [] ⟨some (.tup [.raw (.int .i64 n.Core), .raw (.bool true)]), []⟩) = coresKeyText n := by kernel_rfl
theorem coresKeyHolds (n : Note) : coresKeyText n := by
  unfold coresKeyText
  repeat' first | trivial | rfl | apply And.intro
noncomputable def coresKeyCon : Con T O := fun args cs => match args, cs with
  | [.agg [.raw (.int .i64 n_0), .raw (.int .i64 n_1), .raw (.int .i64 n_2), .raw (.int .i64 n_3), .raw (.int .i64 n_4), .raw (.int .i64 n_5), .raw (.int .i64 n_6), .raw (.int .i64 n_7), .raw (.int .i64 n_8), .raw (.int .i64 n_9)]], [] => .ret ⟨some (.tup [.raw (.int .i64 (⟨n_0, n_1, n_2, n_3, n_4, n_5, n_6, n_7, n_8, n_9⟩ : Note).Core), .raw (.bool true)]), []⟩
  | _, _ => .fail
theorem coresKeyOk : ConOk R Try.prog 44 coresKeyCon := con_of_fn R (X13) (TabOk.con R X13Ok) mixed Try.call44 Try.func44 coresKeyCon (by
  intro args cs K h
  unfold coresKeyCon at h
  split at h
  · rename_i n_0 n_1 n_2 n_3 n_4 n_5 n_6 n_7 n_8 n_9
    refine ⟨noAnn, _, fun v S hv => ⟨_, h, hv⟩, ?_⟩
    rw [coresKeyVc (⟨n_0, n_1, n_2, n_3, n_4, n_5, n_6, n_7, n_8, n_9⟩ : Note)]
    exact coresKeyHolds (⟨n_0, n_1, n_2, n_3, n_4, n_5, n_6, n_7, n_8, n_9⟩ : Note)
  · exact h.elim)
/-! ### regatta/stats.Moves$1 -/
def movesKeyText (n : Note) (Q : CM) : Prop := (match ((mget n.ID Q).isSome) with | true => ((((n.ID = n.ID) ∧ ((moved Q n = ((mget n.ID Q).getD (0 : Int) != n.Core)) ∧ True)) ∧ True) ∧ ((True ∧ True) ∧ ((mput n.ID n.Core Q = mput n.ID n.Core Q) ∧ True))) | false => ((((n.ID = n.ID) ∧ ((moved Q n = false) ∧ True)) ∧ True) ∧ ((True ∧ True) ∧ ((mput n.ID n.Core Q = mput n.ID n.Core Q) ∧ True))))
theorem movesKeyVc (n : Note) (Q : CM) : fnX X13 (noAnn) Try.f45 [.agg [.raw (.int .i64 n.ID), .raw (.int .i64 n.Since), .raw (.int .i64 n.SubIndex), .raw (.int .i64 n.SubRelease), .raw (.int .i64 n.SubDeadline), .raw (.int .i64 n.SubBit), .raw (.int .i64 n.SubGroup), .raw (.int .i64 n.Ready), .raw (.int .i64 n.At), .raw (.int .i64 n.Core)], .ptr 0 0] [.cells [.own 1] 81, .map 0 Q] (ends [.cells [.own 1] 81, .map 0 Q] ⟨some (.tup [.raw (.int .i64 n.ID), .raw (.bool (moved Q n))]), [(1, some (.map 0 (mput n.ID n.Core Q)))]⟩) = movesKeyText n Q := by kernel_rfl
theorem movesKeyHolds (n : Note) (Q : CM) : movesKeyText n Q := by
  unfold movesKeyText moved
  cases (mget n.ID Q).isSome
  · repeat' first | trivial | rfl | apply And.intro
  · rw [Bool.true_and]
    repeat' first | trivial | rfl | apply And.intro
noncomputable def movesKeyCon : Con T O := fun args cs => match args, cs with
  | [.agg [.raw (.int .i64 n_0), .raw (.int .i64 n_1), .raw (.int .i64 n_2), .raw (.int .i64 n_3), .raw (.int .i64 n_4), .raw (.int .i64 n_5), .raw (.int .i64 n_6), .raw (.int .i64 n_7), .raw (.int .i64 n_8), .raw (.int .i64 n_9)], .ptr 0 0], [.cells [.own 1] 81, .map 0 Q] => .ret ⟨some (.tup [.raw (.int .i64 (⟨n_0, n_1, n_2, n_3, n_4, n_5, n_6, n_7, n_8, n_9⟩ : Note).ID), .raw (.bool (moved Q (⟨n_0, n_1, n_2, n_3, n_4, n_5, n_6, n_7, n_8, n_9⟩ : Note)))]), [(1, some (.map 0 (mput (⟨n_0, n_1, n_2, n_3, n_4, n_5, n_6, n_7, n_8, n_9⟩ : Note).ID (⟨n_0, n_1, n_2, n_3, n_4, n_5, n_6, n_7, n_8, n_9⟩ : Note).Core Q)))]⟩
  | _, _ => .fail
theorem movesKeyOk : ConOk R Try.prog 45 movesKeyCon := con_of_fn R (X13) (TabOk.con R X13Ok) mixed Try.call45 Try.func45 movesKeyCon (by
  intro args cs K h
  unfold movesKeyCon at h
  split at h
  · rename_i n_0 n_1 n_2 n_3 n_4 n_5 n_6 n_7 n_8 n_9 Q
    refine ⟨noAnn, _, fun v S hv => ⟨_, h, hv⟩, ?_⟩
    rw [movesKeyVc (⟨n_0, n_1, n_2, n_3, n_4, n_5, n_6, n_7, n_8, n_9⟩ : Note) Q]
    exact movesKeyHolds (⟨n_0, n_1, n_2, n_3, n_4, n_5, n_6, n_7, n_8, n_9⟩ : Note) Q
  · exact h.elim)
noncomputable def tab14 : Tab T O := (43, runsKeyCon) :: (44, coresKeyCon) :: (45, movesKeyCon) :: tab13
theorem tabOk14 : TabOk R Try.prog tab14 := TabOk.cons R runsKeyOk <| TabOk.cons R coresKeyOk <| TabOk.cons R movesKeyOk <| tabOk13
noncomputable def X14 : Ctx T O := { X0 with con := conOf tab14 }
theorem X14Ok : TabOk R X14.P tab14 := tabOk14
end Go.Proofs.Ythfggjfpokknlaa
