/-
  Part of a proof over the seat Ytjhkokdcjikkiaa: printed by a small program or typed by hand.
-/
import Derived.RangeFuncNested
import Derived.RangeFuncBound
import Derived.RangeFuncCalls
import Derived.RangeFuncBox
import Derived.Maps.AppendAt
import Derived.Test.YtjhkokdcjikkiaaPrioIter1
namespace Go.Proofs.Ytjhkokdcjikkiaa
open Go.Proofs Go.RowKit Go.Shelf
attribute [local go_sem] Oper.semAt_some

theorem info25 : (Try.prog.info? 25).map (fun i => (i.zero, i.size, i.bytes)) = some (some (.agg #[.int .i64 0, .int .i64 0, .int .i64 0, .int .i64 0, .int .i64 0, .int .i64 0]), 6, 48) := by kernel_rfl
def flat6 (l : List Ent6) : List Value := l.flatMap cells6
theorem flat6_snoc (l : List Ent6) (x : Ent6) : flat6 (l ++ [x]) = flat6 l ++ cells6 x := by simp [flat6]

def BX (W : World) (B : Nat) (cs : Array Value) : Prop := W.heap[B]? = some (.cells cs 25 (0, 0))
theorem BX_own (B : Nat) (cs : Array Value) (n : Nat) : OwnFrom n (fun (_ : Unit) W => BX W B cs) := by
  rintro s X Y row h hg hr
  show Y.heap[B]? = _
  have hlt : B < X.heap.size := (Array.getElem?_eq_some_iff.1 h).1
  rw [hg.block B hlt (fun e => ?_)]
  · exact h
  · obtain ⟨_, o, ho, hc⟩ := hr B e.symm
    rw [show X.heap[B]? = _ from h] at ho; cases ho; cases hc

theorem cells_new (w : World) (l : List Value) (t : TypeId) : ∀ j u, l[j]? = some u → (w.alloc (.cells l.toArray t)).cell? ((⟨w.heap.size, 0, none⟩ : Addr).add j) = some u := by
  intro j u hj
  have e : (⟨w.heap.size, 0, none⟩ : Addr).add j = ⟨w.heap.size, j, none⟩ := by
    simp only [Addr.add]; split <;> simp_all
  rw [e]
  have h : (w.alloc (.cells l.toArray t)).heap[w.heap.size]? = some (.cells l.toArray t) := World.alloc_heap_new w _
  unfold World.cell?
  rw [h]
  simpa using hj

set_option maxRecDepth 100000 in
set_option maxHeartbeats 4000000 in
theorem appendSeq_in (F : Fence) (n : Nat) (h44 : F.fn 44) (h41 : F.fn 41) (hro : F.round = none) (hn : 3 ≤ n) (Bs : Nat) (sv : Value) (len : Nat) (zs : Nat → Ent6) (hreach : len * 48 ≤ 140737488351232) (w : World) (hBs : Bs < w.heap.size)
    (hc : w.cell? ⟨Bs, 0, none⟩ = some sv) (hI : Ents w.heap.size w sv len zs) :
    CallsIn F n Try.prog 44 #[.slice none 0 0, .func (.func 41) #[] #[.pointer (some ⟨Bs, 0, none⟩)]] w fun e W' => ∃ v, e = .returned v ∧ W'.ownsRow w.heap.size 25 6 v len (flat6 (upto zs len)) ∧ Below w.heap.size w W' := by
  have h1 : 1 ≤ n := by omega
  obtain ⟨i0, hi, hz0, hz1, hz2⟩ := info_parts info25
  refine callsIn_of_wp_marks Try.func44 rfl h44 ?_ hro
  simp only [Try.ntmps44, List.size_toArray, List.length_cons, List.length_nil, Nat.reduceAdd, Nat.reduceSub, Array.replicate_succ, Array.replicate_zero, List.push_toArray, List.append_toArray, List.nil_append, List.cons_append]
  gi_wp2
  have bO := Boxed.new w 37 (.slice none 0 0)
  have hB0 : Below w.heap.size w (w.alloc (.cells #[.slice none 0 0] 37)) := (Below.refl _ w).alloc (Nat.le_refl _) _
  refine wpIn_rangeFunc_ownH hro h1 (gf := 41) (lb := #[.pointer (some ⟨Bs, 0, none⟩)]) rfl h41 (enters_of Try.func41 (by kernel_rfl) rfl)
    (values_stops F (n - 1) h41 hro (by omega) Bs w.heap.size sv len zs hreach _ (by simp; omega) (by simp) ((hB0.cell (p := ⟨Bs, 0, none⟩) hBs).trans hc) (hI.below hB0)) belowK_t (belowK_b (by simp)) (Below.refl _ _) (fun _ => rfl)
    (fun pre W => (∃ v, Boxed W w.heap.size 37 v ∧ W.ownsRow w.heap.size 25 6 v pre.length (flat6 pre) ∧ (v = .slice none 0 0 ↔ pre = [])) ∧ Below w.heap.size w W)
    (fun _ _ _ => False)
    (OwnFrom.and (Own.from (holdsRow_own w.heap.size w.heap.size 37 25 6 (fun pre : List Ent6 => pre.length) flat6 (fun pre v => v = .slice none 0 0 ↔ pre = [])) _) (ownFrom_below (Nat.le_refl _) (by simp)))
    (fun _ _ _ _ _ hs _ _ => hs)
    ⟨⟨_, bO, World.ownsRow_nil _ _ _ _, by simp⟩, hB0⟩
    (fun x a' W => ∃ Bx, BX W Bx (cells6 x).toArray ∧ a' = { tmps := #[.slice none 0 0, .func (.func 41) #[] #[.pointer (some ⟨Bs, 0, none⟩)], .pointer (some ⟨w.heap.size, 0, none⟩), undef, .slice none 0 0, .pointer (some ⟨Bx, 0, none⟩), .func (.func 41) #[] #[.pointer (some ⟨Bs, 0, none⟩)], ent6 x, undef, undef, undef, undef, undef], defers := [] })
    (fun x a' => fun s X Y row ⟨Bx, h, e⟩ hg hr => ⟨Bx, BX_own Bx _ _ () X Y row h hg hr, e⟩) ?assign ?body ?done ?stop
  case assign =>
    rintro l pre x W K ⟨⟨v, hv, hrow, hnil⟩, hB⟩ hK
    dsimp only [ent6]
    gi_wp2
    exact hK _ _ ((KeepsOthers.alloc _ _).from _) ((Below.refl _ W).alloc hB.size _) ⟨⟨v, hv.alloc _, hrow.alloc _, hnil⟩, hB.alloc hB.size _⟩ ⟨W.heap.size, World.alloc_heap_new W _, rfl⟩
  case body =>
    rintro l pre x a' W hl ⟨r, hr⟩ ⟨⟨v, hv, hrow, hnil⟩, hB⟩ ⟨Bx, hx, rfl⟩ hlt
    have hc := hv.cell
    have cx : ∀ i (v : Value), (cells6 x)[i]? = some v → W.cell? ⟨Bx, i, none⟩ = some v := fun i v h => by
      simp [World.cell?, show W.heap[Bx]? = _ from hx, h]
    have g0 : W.cell? ⟨Bx, 0, none⟩ = some (.int .i64 x.1) := cx 0 _ rfl
    have g1 : W.cell? ⟨Bx, 1, none⟩ = some (.int .i64 x.2.1) := cx 1 _ rfl
    have g2 : W.cell? ⟨Bx, 2, none⟩ = some (.int .i64 x.2.2.1) := cx 2 _ rfl
    have g3 : W.cell? ⟨Bx, 3, none⟩ = some (.int .i64 x.2.2.2.1) := cx 3 _ rfl
    have g4 : W.cell? ⟨Bx, 4, none⟩ = some (.int .i64 x.2.2.2.2.1) := cx 4 _ rfl
    have g5 : W.cell? ⟨Bx, 5, none⟩ = some (.int .i64 x.2.2.2.2.2) := cx 5 _ rfl
    gi_wp2_with (gi_at_builtin; refine wpListIn_append_own _ rfl _ _ 37 rfl w.heap.size 25 i0 _ 6 48 Try.underlying37 hi hz0 hz1 hz2 rfl (by decide) _ _ _ rfl (hrow.alloc _) ⟨W.heap.size, 0, none⟩ 1 1 (cells6 x) rfl rfl (cells_new _ _ _) (by simp [cells6, Value.oneCell']) (by unfold maxLen; omega) (by omega) (by have := hB.size; simp; omega) ?_; intro v' w1 hown' hgrow _; obtain ⟨g', cap', rfl⟩ := ownsRow_succ hown'; obtain ⟨hv1, hv2, hr2, hk2, hb2⟩ := hv.appended (by decide) hrow hB.size (Nat.le_refl _) hown' hgrow; have hc1 := hv1.cell; have hf1 := hv1.frozen)
    exact ⟨hk2.from _, hb2, ⟨_, hv2, by rw [flat6_snoc]; simpa using hr2, by simp⟩, hB.trans hb2⟩
  case done =>
    rintro D ys W hD rfl ⟨⟨v, hv, hrow, hnil⟩, hB⟩ hK
    have hc := hv.cell
    gi_wp2
    refine ⟨by simp, .inl ⟨_, _, rfl, run_takeDeferred hK, ?_⟩⟩
    exact ⟨_, results_tmp rfl _ _ _, v, rfl, by have := ownsRow_putObj hrow (.deferred none) hK rfl; rw [upto_length] at this; exact this, hB.trans (belowK_b (w := w) (Nat.le_refl _) W D _ _ (by simp at hD; omega) hK rfl rfl)⟩
  case stop =>
    rintro D c pre W _ _ h _
    exact h.elim
end Go.Proofs.Ytjhkokdcjikkiaa
