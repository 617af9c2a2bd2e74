/-
  Part of a proof over the seat Ytjhkokdcjikkiaa: printed by a small program or typed by hand.
-/
import Derived.RangeFuncBox
import Derived.RangeFuncLeaves
import Derived.RangeFuncKeeps
import Derived.Shelf.Abstract
import Derived.WalkKit
import Derived.OwnWalkIn
import Derived.TacticsInMore
import Derived.LoopNIn
import Derived.LoopIn
import Derived.Test.YtjhkokdcjikkiaaChecked
namespace Go.Proofs.Ytjhkokdcjikkiaa
open Go.Proofs Go.RowKit Go.Shelf
attribute [local go_sem] Oper.semAt_some
abbrev Ent6 := Int × Int × Int × Int × Int × Int
def ent6 (x : Ent6) : Value := .agg #[.int .i64 x.1, .int .i64 x.2.1, .int .i64 x.2.2.1, .int .i64 x.2.2.2.1, .int .i64 x.2.2.2.2.1, .int .i64 x.2.2.2.2.2]
def upto {α : Type} (f : Nat → α) (k : Nat) : List α := (List.range k).map f
theorem upto_succ {α : Type} (f : Nat → α) (k : Nat) : upto f (k + 1) = upto f k ++ [f k] := by simp [upto, List.range_succ]
theorem upto_length {α : Type} (f : Nat → α) (k : Nat) : (upto f k).length = k := by simp [upto]

set_option maxRecDepth 100000 in
set_option maxHeartbeats 2000000 in
theorem values1_in (F : Fence) (n : Nat) (h7 : F.fn 41) (hro : F.round = none) (hn : 1 ≤ n) (l Bs n₀ b off len cap : Nat) (zs : Nat → Ent6) (hreach : len * 48 ≤ 140737488351232) (hb : b < n₀) (J Jx : List Ent6 → World → Prop)
    (hY : ∀ pre x W, J pre W → pre.length < len → YieldAt F (n - 1) Try.prog l #[ent6 x] W fun e W' =>
      (e = .returned (.bool true) ∧ J (pre ++ [x]) W' ∧ Below n₀ W W') ∨ (e = .returned (.bool false) ∧ Jx (pre ++ [x]) W'))
    (W : World) (hJ : AbidesFrom W.heap.size J) (hn0 : n₀ ≤ W.heap.size) (hBs : W.cell? ⟨Bs, 0, none⟩ = some (.slice (some ⟨b, off, none⟩) len cap))
    (hc : ∀ j, j < len → ∀ i (v : Value), ([Value.int .i64 (zs j).1, .int .i64 (zs j).2.1, .int .i64 (zs j).2.2.1, .int .i64 (zs j).2.2.2.1, .int .i64 (zs j).2.2.2.2.1, .int .i64 (zs j).2.2.2.2.2])[i]? = some v → W.cell? ⟨b, off + j * 6 + i, none⟩ = some v) (h0 : J [] W) :
    CallsIn F n Try.prog 41 #[.func (.yield l) #[] #[], .pointer (some ⟨Bs, 0, none⟩)] W fun e W' => (∃ v, e = .returned v) ∧
      ((∃ ys, ys = upto zs len ∧ J ys W') ∨ (∃ pre, (∃ k, k ≤ len ∧ pre = upto zs k) ∧ Jx pre W')) := by
  refine callsIn_of_wp Try.func41 rfl h7 ?_ hro
  simp only [Try.ntmps41, List.size_toArray, List.length_cons, List.length_nil, Nat.reduceAdd, Nat.reduceSub, Array.replicate_succ, Array.replicate_zero, List.push_toArray, List.append_toArray, List.nil_append, List.cons_append]
  gi_wp2
  gi_loopw [7] (fun i wr => ∃ k : Nat, k ≤ len ∧ i = .int .i64 k ∧ J (upto zs k) wr ∧ Below n₀ W wr ∧ W.heap.size ≤ wr.heap.size)
    (fun i _ => len - (intOf i).toNat)
  case atStart => exact ⟨0, Nat.zero_le _, rfl, h0, Below.refl _ _, Nat.le_refl _⟩
  case round =>
    obtain ⟨k, hk, rfl, hJs, hnx, hsz⟩ := hrel
    have hcell : k < len → ∀ i (v : Value), ([Value.int .i64 (zs k).1, .int .i64 (zs k).2.1, .int .i64 (zs k).2.2.1, .int .i64 (zs k).2.2.2.1, .int .i64 (zs k).2.2.2.2.1, .int .i64 (zs k).2.2.2.2.2])[i]? = some v → wr.cell? ⟨b, off + k * 6 + i, none⟩ = some v := fun h i v hv => (hnx.cell (p := ⟨b, off + k * 6 + i, none⟩) hb).trans (hc k h i v hv)
    by_cases hlt : k < len
    · have g0 : wr.cell? ⟨b, off + k * 6, none⟩ = some (.int .i64 (zs k).1) := hcell hlt 0 _ rfl
      have g1 : wr.cell? ⟨b, off + k * 6 + 1, none⟩ = some (.int .i64 (zs k).2.1) := hcell hlt 1 _ rfl
      have g2 : wr.cell? ⟨b, off + k * 6 + 2, none⟩ = some (.int .i64 (zs k).2.2.1) := hcell hlt 2 _ rfl
      have g3 : wr.cell? ⟨b, off + k * 6 + 3, none⟩ = some (.int .i64 (zs k).2.2.2.1) := hcell hlt 3 _ rfl
      have g4 : wr.cell? ⟨b, off + k * 6 + 4, none⟩ = some (.int .i64 (zs k).2.2.2.2.1) := hcell hlt 4 _ rfl
      have g5 : wr.cell? ⟨b, off + k * 6 + 5, none⟩ = some (.int .i64 (zs k).2.2.2.2.2) := hcell hlt 5 _ rfl
      have hJ' : J (upto zs k) (wr.alloc (.cells #[.int .i64 (zs k).1, .int .i64 (zs k).2.1, .int .i64 (zs k).2.2.1, .int .i64 (zs k).2.2.2.1, .int .i64 (zs k).2.2.2.2.1, .int .i64 (zs k).2.2.2.2.2] 25)) := hJ _ wr _ none hJs (World.grownBy_alloc wr _ none) (fun r e => by cases e)
      obtain ⟨fn, tmps, assign, body, hy, hR⟩ := hY _ (zs k) _ hJ' (by rw [upto_length]; exact hlt)
      dsimp only [ent6] at hy
      gi_wp2
      refine hR.mono ?_
      rintro e W3 (⟨rfl, hJ3, hk3⟩ | ⟨rfl, hJx3⟩)
      · gi_wp2
        go_roundw
        case rel => exact ⟨k + 1, by omega, by simp, by rw [upto_succ]; exact hJ3, hnx.trans (((Below.refl n₀ wr).alloc (Nat.le_trans hn0 hsz) _).trans hk3), Nat.le_trans hsz (Nat.le_trans (by simp) hk3.size)⟩
        case measure => simp [intOf]; omega
      · gi_wp2
        refine bodyPost_ret (results_none rfl _ _ _) rfl ?_
        exact ⟨⟨_, rfl⟩, .inr ⟨_, ⟨k + 1, by omega, (upto_succ _ _).symm⟩, hJx3⟩⟩
    · obtain rfl : k = len := by omega
      gi_wp2
      go_end0
      exact ⟨⟨_, rfl⟩, .inl ⟨_, rfl, hJs⟩⟩

def cells6 (x : Ent6) : List Value := [.int .i64 x.1, .int .i64 x.2.1, .int .i64 x.2.2.1, .int .i64 x.2.2.2.1, .int .i64 x.2.2.2.2.1, .int .i64 x.2.2.2.2.2]
/-- the slice value sv holds these, below n₀ -/
def Ents (n₀ : Nat) (W : World) (sv : Value) (len : Nat) (zs : Nat → Ent6) : Prop :=
  ((∃ o, sv = .slice o 0 0) ∧ len = 0) ∨ ∃ b off cap, sv = .slice (some ⟨b, off, none⟩) len cap ∧ b < n₀ ∧ ∀ j, j < len → ∀ i (v : Value), (cells6 (zs j))[i]? = some v → W.cell? ⟨b, off + j * 6 + i, none⟩ = some v
theorem Ents.below {n₀ : Nat} {A B : World} (h : Below n₀ A B) {sv : Value} {len : Nat} {zs : Nat → Ent6} : Ents n₀ A sv len zs → Ents n₀ B sv len zs
  | .inl e => .inl e
  | .inr ⟨b, off, cap, e, hb, hc⟩ => .inr ⟨b, off, cap, e, hb, fun j hj i v hv => (h.cell (p := ⟨b, off + j * 6 + i, none⟩) hb).trans (hc j hj i v hv)⟩
set_option maxRecDepth 100000 in
set_option maxHeartbeats 1000000 in
theorem values1_nil_in (F : Fence) (n : Nat) (h7 : F.fn 41) (hro : F.round = none) (l Bs : Nat) (J : List Ent6 → World → Prop) (W : World) (o : Option Addr) (hBs : W.cell? ⟨Bs, 0, none⟩ = some (.slice o 0 0)) (h0 : J [] W) :
    CallsIn F n Try.prog 41 #[.func (.yield l) #[] #[], .pointer (some ⟨Bs, 0, none⟩)] W fun e W' => (∃ v, e = .returned v) ∧ J [] W' := by
  refine callsIn_of_wp Try.func41 rfl h7 ?_ hro
  simp only [Try.ntmps41, List.size_toArray, List.length_cons, List.length_nil, Nat.reduceAdd, Nat.reduceSub, Array.replicate_succ, Array.replicate_zero, List.push_toArray, List.append_toArray, List.nil_append, List.cons_append]
  gi_wp2
  gi_loopw [7] (fun i wr => i = .int .i64 0 ∧ J [] wr) (fun _ _ => 0)
  case atStart => exact ⟨rfl, h0⟩
  case round =>
    obtain ⟨rfl, hJs⟩ := hrel
    gi_wp2
    go_end0
    exact ⟨⟨_, rfl⟩, hJs⟩
theorem values_stops (F : Fence) (n : Nat) (h7 : F.fn 41) (hro : F.round = none) (hn : 1 ≤ n) (Bs n₀ : Nat) (sv : Value) (len : Nat) (zs : Nat → Ent6) (hreach : len * 48 ≤ 140737488351232) (w : World) (hBs : Bs < w.heap.size) (hn₀ : n₀ ≤ w.heap.size)
    (hc : w.cell? ⟨Bs, 0, none⟩ = some sv) (hI : Ents n₀ w sv len zs) :
    SeqStopsK F n Try.prog 41 #[.pointer (some ⟨Bs, 0, none⟩)] (fun x : Ent6 => #[ent6 x]) (Below n₀) (fun ys => ys = upto zs len) (fun pre => ∃ k, k ≤ len ∧ pre = upto zs k) len w := fun l J Jx W hW hJ _ hY h0 => by
  have hc' := (hW.cell (p := ⟨Bs, 0, none⟩) hBs).trans hc
  rcases hI.below (hW.mono hn₀) with ⟨⟨o, rfl⟩, rfl⟩ | ⟨b, off, cap, rfl, hb, hcs⟩
  · exact (values1_nil_in F n h7 hro l Bs J W o hc' h0).mono fun e W' ⟨he, hj⟩ => ⟨he, .inl ⟨_, rfl, hj⟩⟩
  · exact values1_in F n h7 hro hn l Bs n₀ b off len cap zs hreach hb J Jx hY W hJ (Nat.le_trans hn₀ hW.size) hc' hcs h0
end Go.Proofs.Ytjhkokdcjikkiaa
