/-
  Part of a proof over the seat Ytjhkokdcjikkiaa: printed by a small program or typed by hand.
-/
import Derived.Test.YtjhkokdcjikkiaaPrioS10
import Derived.KernelRfl
namespace Go.Proofs.Ytjhkokdcjikkiaa
open Go.Sx Go.Proofs Classical
/-! ### regatta/regattalaw06.awake -/
def awakeText  : Prop := (((true = ((at' (T (2 : Nat)).zero (isortN [Ent.mk (law06EntryC0 (1 : Int) (5 : Int) (0 : Int) (0 : Int)) (law06EntryC1 (1 : Int) (5 : Int) (0 : Int) (0 : Int)) (law06EntryC2 (1 : Int) (5 : Int) (0 : Int) (0 : Int)) (law06EntryC3 (1 : Int) (5 : Int) (0 : Int) (0 : Int)) (law06EntryC4 (1 : Int) (5 : Int) (0 : Int) (0 : Int)) (law06EntryC5 (1 : Int) (5 : Int) (0 : Int) (0 : Int)), Ent.mk (law06EntryC0 (2 : Int) (5 : Int) (1 : Int) (8 : Int)) (law06EntryC1 (2 : Int) (5 : Int) (1 : Int) (8 : Int)) (law06EntryC2 (2 : Int) (5 : Int) (1 : Int) (8 : Int)) (law06EntryC3 (2 : Int) (5 : Int) (1 : Int) (8 : Int)) (law06EntryC4 (2 : Int) (5 : Int) (1 : Int) (8 : Int)) (law06EntryC5 (2 : Int) (5 : Int) (1 : Int) (8 : Int)), Ent.mk (law06EntryC0 (3 : Int) (5 : Int) (1 : Int) (9 : Int)) (law06EntryC1 (3 : Int) (5 : Int) (1 : Int) (9 : Int)) (law06EntryC2 (3 : Int) (5 : Int) (1 : Int) (9 : Int)) (law06EntryC3 (3 : Int) (5 : Int) (1 : Int) (9 : Int)) (law06EntryC4 (3 : Int) (5 : Int) (1 : Int) (9 : Int)) (law06EntryC5 (3 : Int) (5 : Int) (1 : Int) (9 : Int)), Ent.mk (law06EntryC0 (4 : Int) (4 : Int) (0 : Int) (0 : Int)) (law06EntryC1 (4 : Int) (4 : Int) (0 : Int) (0 : Int)) (law06EntryC2 (4 : Int) (4 : Int) (0 : Int) (0 : Int)) (law06EntryC3 (4 : Int) (4 : Int) (0 : Int) (0 : Int)) (law06EntryC4 (4 : Int) (4 : Int) (0 : Int) (0 : Int)) (law06EntryC5 (4 : Int) (4 : Int) (0 : Int) (0 : Int))] (4 : Nat)) (3 : Int)).ID == (1 : Int))) ∧ True) ∧ True)
theorem awakeVc  : fnX X10 (noAnn) Try.f9 [] [] (ends [] ⟨some (.raw (.bool true)), []⟩) = awakeText  := by kernel_rfl
theorem awakeHolds  : awakeText  := by
  unfold awakeText
  exact ⟨⟨by kernel_rfl, trivial⟩, trivial⟩
noncomputable def awakeCon : Con T O := fun args cs => match args, cs with
  | [], [] => .ret ⟨some (.raw (.bool true)), []⟩
  | _, _ => .fail
theorem awakeOk : ConOk R Try.prog 9 awakeCon := con_of_fn R (X10) (TabOk.con R X10Ok) mixed Try.call9 Try.func9 awakeCon (by
  intro args cs K h
  unfold awakeCon at h
  split at h
  ·
    refine ⟨noAnn, _, fun v S hv => ⟨_, h, hv⟩, ?_⟩
    rw [awakeVc ]
    exact awakeHolds 
  · exact h.elim)
/-! ### regatta/regattalaw06.few -/
def fewText (L : List Ent) : Prop := (match (decide ((↑L.length : Int) > (20 : Int))) with | true => (match (slOk none (some (20 : Int)) none (↑L.length : Int)) with | true => ((True ∧ True) ∧ ((L = L) ∧ ((List.take (20 : Nat) L = cutL none (some (20 : Int)) L) ∧ True))) | false => False) | false => ((True ∧ True) ∧ ((L = L) ∧ ((List.take (20 : Nat) L = L) ∧ True))))
theorem fewVc (L : List Ent) : fnX X10 (noAnn) Try.f12 [.own 0] [.ro 2 L] (ends [.ro 2 L] ⟨some (.own 1), [(1, some (.ro 2 (L.take 20)))]⟩) = fewText L := by kernel_rfl
theorem fewHolds (L : List Ent) : fewText L := by
  unfold fewText
  by_cases h : 20 < L.length
  · rw [show decide ((L.length : Int) > 20) = true from decide_eq_true (by omega), show slOk none (some 20) none (L.length : Int) = true by (simp only [slOk, optB]; simp; exact decide_eq_true (by omega))]
    exact ⟨⟨trivial, trivial⟩, rfl, rfl, trivial⟩
  · rw [show decide ((L.length : Int) > 20) = false from decide_eq_false (by omega)]
    exact ⟨⟨trivial, trivial⟩, rfl, List.take_of_length_le (by omega), trivial⟩
noncomputable def fewCon : Con T O := fun args cs => match args, cs with
  | [.own 0], [.ro 2 L] => .ret ⟨some (.own 1), [(1, some (.ro 2 (L.take 20)))]⟩
  | _, _ => .fail
theorem fewOk : ConOk R Try.prog 12 fewCon := con_of_fn R (X10) (TabOk.con R X10Ok) mixed Try.call12 Try.func12 fewCon (by
  intro args cs K h
  unfold fewCon at h
  split at h
  · rename_i L
    refine ⟨noAnn, _, fun v S hv => ⟨_, h, hv⟩, ?_⟩
    rw [fewVc L]
    exact fewHolds L
  · exact h.elim)
/-! ### regatta/regattaref04.Check -/
def ref04Check (a0E : Int) (a0P : Int) : Bool := (match (decide (a0E ≥ (1 : Int))) with | true => (match (decide (a0E ≤ a0P)) with | true => (decide (a0P ≤ (1048576 : Int))) | false => (false)) | false => (false))
noncomputable def ref04CheckCon : Con T O := fun args cs => match args, cs with
  | [.agg [.raw (.int .i64 a0E), .raw (.int .i64 a0P)]], [] => retv (.raw (.bool (ref04Check a0E a0P)))
  | _, _ => .fail
theorem ref04CheckVc (a0E : Int) (a0P : Int) : fnX X10 noAnn Try.f36 [.agg [.raw (.int .i64 a0E), .raw (.int .i64 a0P)]] [] (ends [] ⟨some (.raw (.bool (ref04Check a0E a0P))), []⟩) = ((match (decide (a0E ≥ (1 : Int))) with | true => (match (decide (a0E ≤ a0P)) with | true => ((ref04Check a0E a0P = (decide (a0P ≤ (1048576 : Int)))) ∧ True) ∧ True | false => ((ref04Check a0E a0P = (false)) ∧ True) ∧ True) | false => ((ref04Check a0E a0P = (false)) ∧ True) ∧ True)) := by kernel_rfl
theorem ref04CheckOk : ConOk R Try.prog 36 ref04CheckCon := con_of_fn R X10 (TabOk.con R X10Ok) mixed Try.call36 Try.func36 ref04CheckCon (by
  intro args cs K h
  unfold ref04CheckCon at h
  split at h
  · rename_i a0E a0P
    refine ⟨noAnn, _, fun v S hv => ⟨_, h, hv⟩, ?_⟩
    rw [ref04CheckVc a0E a0P]
    unfold ref04Check
    cases (decide (a0E ≥ (1 : Int)))
    ·
      exact ⟨⟨rfl, trivial⟩, trivial⟩
    ·
      cases (decide (a0E ≤ a0P))
      ·
        exact ⟨⟨rfl, trivial⟩, trivial⟩
      ·
        exact ⟨⟨rfl, trivial⟩, trivial⟩
  · exact h.elim)
/-! ### regatta/regattaref04.up -/
def ref04Up (a0 : Int) (a1 : Int) : Int := (match (a1 != (0 : Int)) with | true => (match (decide (IntKind.i64.wrap (IntKind.i64.wrap (a0.tdiv a1) * a1) < a0)) with | true => (IntKind.i64.wrap (IntKind.i64.wrap (a0.tdiv a1) + (1 : Int))) | false => (IntKind.i64.wrap (a0.tdiv a1))) | false => 0)
def ref04UpPre (a0 : Int) (a1 : Int) : Bool := (match (a1 != (0 : Int)) with | true => (match (decide (IntKind.i64.wrap (IntKind.i64.wrap (a0.tdiv a1) * a1) < a0)) with | true => true | false => true) | false => false)
noncomputable def ref04UpCon : Con T O := fun args cs => match args, cs with
  | [.raw (.int .i64 a0), .raw (.int .i64 a1)], [] => chk (ref04UpPre a0 a1) (retv (.raw (.int .i64 (ref04Up a0 a1))))
  | _, _ => .fail
theorem ref04UpVc (a0 : Int) (a1 : Int) : fnX X10 noAnn Try.f38 [.raw (.int .i64 a0), .raw (.int .i64 a1)] [] (ends [] ⟨some (.raw (.int .i64 (ref04Up a0 a1))), []⟩) = ((match (a1 != (0 : Int)) with | true => (match (decide (IntKind.i64.wrap (IntKind.i64.wrap (a0.tdiv a1) * a1) < a0)) with | true => ((ref04Up a0 a1 = (IntKind.i64.wrap (IntKind.i64.wrap (a0.tdiv a1) + (1 : Int)))) ∧ True) ∧ True | false => ((ref04Up a0 a1 = (IntKind.i64.wrap (a0.tdiv a1))) ∧ True) ∧ True) | false => False)) := by kernel_rfl
theorem ref04UpOk : ConOk R Try.prog 38 ref04UpCon := con_of_fn R X10 (TabOk.con R X10Ok) mixed Try.call38 Try.func38 ref04UpCon (by
  intro args cs K h
  unfold ref04UpCon at h
  split at h
  · rename_i a0 a1
    rw [Tree.holds_chk] at h
    obtain ⟨hp, h⟩ := h
    refine ⟨noAnn, _, fun v S hv => ⟨_, h, hv⟩, ?_⟩
    rw [ref04UpVc a0 a1]
    revert hp
    unfold ref04Up ref04UpPre
    cases (a1 != (0 : Int))
    ·
      intro hp; cases hp
    ·
      cases (decide (IntKind.i64.wrap (IntKind.i64.wrap (a0.tdiv a1) * a1) < a0))
      ·
        intro _; exact ⟨⟨rfl, trivial⟩, trivial⟩
      ·
        intro _; exact ⟨⟨rfl, trivial⟩, trivial⟩
  · exact h.elim)
noncomputable def tab11 : Tab T O := (9, awakeCon) :: (12, fewCon) :: (36, ref04CheckCon) :: (38, ref04UpCon) :: tab10
theorem tabOk11 : TabOk R Try.prog tab11 := TabOk.cons R awakeOk <| TabOk.cons R fewOk <| TabOk.cons R ref04CheckOk <| TabOk.cons R ref04UpOk <| tabOk10
noncomputable def X11 : Ctx T O := { X0 with con := conOf tab11 }
theorem X11Ok : TabOk R X11.P tab11 := tabOk11
end Go.Proofs.Ytjhkokdcjikkiaa
