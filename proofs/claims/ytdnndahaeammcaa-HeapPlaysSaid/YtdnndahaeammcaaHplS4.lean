/-
  Part of a proof over the seat Ytdnndahaeammcaa: printed by a small program or typed by hand.
-/
import Derived.Test.YtdnndahaeammcaaHplS3
import Derived.KernelRfl
namespace Go.Proofs.Ytdnndahaeammcaa
open Go.Sx Go.Proofs Classical
/-! ### (*regatta/heap.Heap[int]).rise -/
def riseText (L : List Thing) (M : List (Int × Int)) (i : Int) : Prop := ((∃ x : Nat × List Thing × List (Int × Int), (((x.fst ≤ i.toNat) ∧ ((x.snd.fst.length = L.length) ∧ (riseN i.toNat (L, M) i.toNat = riseN x.fst x.snd x.fst))) ∧ ((True ∧ (((↑x.fst : Int) = i) ∧ True)) ∧ ((True ∧ (True ∧ (True ∧ True))) ∧ ((x.snd.fst = L) ∧ ((x.snd.snd = M) ∧ True)))))) ∧ (∀ x : Nat × List Thing × List (Int × Int), (((x.fst ≤ i.toNat) ∧ ((x.snd.fst.length = L.length) ∧ (riseN i.toNat (L, M) i.toNat = riseN x.fst x.snd x.fst))) → (match (decide ((↑x.fst : Int) > (0 : Int))) with | true => (match (decide ((0 : Int) ≤ (↑x.fst : Int) ∧ (↑x.fst : Int) < (↑x.snd.fst.length : Int) ∧ (0 : Int) ≤ IntKind.i64.wrap ((IntKind.i64.wrap ((↑x.fst : Int) - (1 : Int))).tdiv (2 : Int)) ∧ IntKind.i64.wrap ((IntKind.i64.wrap ((↑x.fst : Int) - (1 : Int))).tdiv (2 : Int)) < (↑x.snd.fst.length : Int))) with | true => (match (aheadA x.snd.fst (↑x.fst : Int) (IntKind.i64.wrap ((IntKind.i64.wrap ((↑x.fst : Int) - (1 : Int))).tdiv (2 : Int)))) with | true => (match (decide ((0 : Int) ≤ (↑x.fst : Int) ∧ (↑x.fst : Int) < (↑x.snd.fst.length : Int) ∧ (0 : Int) ≤ IntKind.i64.wrap ((IntKind.i64.wrap ((↑x.fst : Int) - (1 : Int))).tdiv (2 : Int)) ∧ IntKind.i64.wrap ((IntKind.i64.wrap ((↑x.fst : Int) - (1 : Int))).tdiv (2 : Int)) < (↑x.snd.fst.length : Int))) with | true => (∃ x' : Nat × List Thing × List (Int × Int), (((x'.fst ≤ i.toNat) ∧ ((x'.snd.fst.length = L.length) ∧ (riseN i.toNat (L, M) i.toNat = riseN x'.fst x'.snd x'.fst))) ∧ ((x'.fst < x.fst) ∧ ((True ∧ (((↑x'.fst : Int) = IntKind.i64.wrap ((IntKind.i64.wrap ((↑x.fst : Int) - (1 : Int))).tdiv (2 : Int))) ∧ True)) ∧ ((True ∧ (True ∧ (True ∧ True))) ∧ ((x'.snd.fst = swapL x.snd.fst (↑x.fst : Int) (IntKind.i64.wrap ((IntKind.i64.wrap ((↑x.fst : Int) - (1 : Int))).tdiv (2 : Int)))) ∧ ((x'.snd.snd = swapM x.snd.fst x.snd.snd (↑x.fst : Int) (IntKind.i64.wrap ((IntKind.i64.wrap ((↑x.fst : Int) - (1 : Int))).tdiv (2 : Int)))) ∧ True))))))) | false => False) | false => ((True ∧ True) ∧ ((True ∧ (True ∧ (True ∧ True))) ∧ (((riseN i.toNat (L, M) i.toNat).fst = x.snd.fst) ∧ (((riseN i.toNat (L, M) i.toNat).snd = x.snd.snd) ∧ True))))) | false => False) | false => ((True ∧ True) ∧ ((True ∧ (True ∧ (True ∧ True))) ∧ (((riseN i.toNat (L, M) i.toNat).fst = x.snd.fst) ∧ (((riseN i.toNat (L, M) i.toNat).snd = x.snd.snd) ∧ True))))))))
theorem riseVc (L : List Thing) (M : List (Int × Int)) (i : Int) : fnX X3 (oneLoop 0 { σ := Nat × List Thing × List (Int × Int), st := fun S x => (((S.keep [0]).int 1 x.1).chunk 1 (.vec 2 x.2.1 57)).chunk 2 (.map 0 x.2.2), inv := fun _ x => x.1 ≤ i.toNat ∧ x.2.1.length = L.length ∧ riseN i.toNat (L, M) i.toNat = riseN x.1 x.2 x.1, m := fun x => x.1 }) Try.f26 [.ptr 0 0, .raw (.int .i64 i)] [.cells [.fn 10 [], .own 1, .own 2] 54, .vec 2 L 57, .map 0 M] (ends [.cells [.fn 10 [], .own 1, .own 2] 54, .vec 2 L 57, .map 0 M] ⟨some (.tup []), [(1, some (.vec 2 ((riseN i.toNat (L, M) i.toNat).1) 57)), (2, some (.map 0 ((riseN i.toNat (L, M) i.toNat).2)))]⟩) = riseText L M i := by kernel_rfl
theorem riseHolds (L : List Thing) (M : List (Int × Int)) (i : Int) (hp : 0 ≤ i ∧ i < L.length ∧ L.length ≤ 100000) : riseText L M i := by
  unfold riseText
  obtain ⟨p0, p1, p2⟩ := hp
  obtain ⟨n, rfl⟩ := Int.eq_ofNat_of_zero_le p0
  rw [Int.toNat_natCast]
  refine ⟨⟨(n, L, M), ⟨Nat.le_refl _, rfl, rfl⟩, ⟨trivial, rfl, trivial⟩, ⟨trivial, trivial, trivial, trivial⟩, rfl, rfl, trivial⟩, ?_⟩
  rintro ⟨x, L1, M1⟩ ⟨hx, hl, hs⟩
  dsimp only at hx hl hs ⊢
  cases x with
  | zero =>
    rw [show decide (((0 : Nat) : Int) > 0) = false from rfl]
    rw [hs]
    exact ⟨⟨trivial, trivial⟩, ⟨trivial, trivial, trivial, trivial⟩, rfl, rfl, trivial⟩
  | succ k =>
    have hu : up (k + 1) < k + 1 := up_lt (Nat.succ_pos k)
    have e1 : IntKind.i64.wrap ((IntKind.i64.wrap (((k + 1 : Nat) : Int) - 1)).tdiv 2) = (up (k + 1) : Int) := by
      rw [wrap_id (n := ((k + 1 : Nat) : Int) - 1) (by omega) (by omega), Int.tdiv_eq_ediv_of_nonneg (by omega), wrap_id (by omega) (by omega)]
      unfold up
      omega
    rw [e1, show decide (((k + 1 : Nat) : Int) > 0) = true from decide_eq_true (by omega), show decide (0 ≤ ((k + 1 : Nat) : Int) ∧ ((k + 1 : Nat) : Int) < (L1.length : Int) ∧ 0 ≤ (up (k + 1) : Int) ∧ (up (k + 1) : Int) < (L1.length : Int)) = true from decide_eq_true ⟨by omega, by omega, by omega, by omega⟩]
    simp only [riseN] at hs
    rw [show decide (0 < k + 1) = true from decide_eq_true (Nat.succ_pos k), Bool.true_and] at hs
    cases ha : aheadA L1 ((k + 1 : Nat) : Int) (up (k + 1) : Int)
    · rw [ha] at hs
      rw [hs]
      exact ⟨⟨trivial, trivial⟩, ⟨trivial, trivial, trivial, trivial⟩, rfl, rfl, trivial⟩
    · rw [ha] at hs
      refine ⟨(up (k + 1), swapL L1 (k + 1 : Nat) (up (k + 1)), swapM L1 M1 (k + 1 : Nat) (up (k + 1))), ⟨by dsimp only; omega, by rw [swapL_length]; exact hl, ?_⟩, by dsimp only; omega, ⟨trivial, rfl, trivial⟩, ⟨trivial, trivial, trivial, trivial⟩, rfl, rfl, trivial⟩
      rw [hs]
      exact riseN_fuel _ _ _ _ (by omega) (Nat.le_refl _)
noncomputable def riseCon : Con T O := fun args cs => match args, cs with
  | [.ptr 0 0, .raw (.int .i64 i)], [.cells [.fn 10 [], .own 1, .own 2] 54, .vec 2 L 57, .map 0 M] => chk (decide (0 ≤ i ∧ i < L.length ∧ L.length ≤ 100000)) (.ret ⟨some (.tup []), [(1, some (.vec 2 ((riseN i.toNat (L, M) i.toNat).1) 57)), (2, some (.map 0 ((riseN i.toNat (L, M) i.toNat).2)))]⟩)
  | _, _ => .fail
theorem riseOk : ConOk R Try.prog 26 riseCon := con_of_fn R (X3) (TabOk.con R X3Ok) mixed Try.call26 Try.func26 riseCon (by
  intro args cs K h
  unfold riseCon at h
  split at h
  · rename_i i L M
    rw [Tree.holds_chk] at h
    obtain ⟨hp, h⟩ := h
    refine ⟨oneLoop 0 { σ := Nat × List Thing × List (Int × Int), st := fun S x => (((S.keep [0]).int 1 x.1).chunk 1 (.vec 2 x.2.1 57)).chunk 2 (.map 0 x.2.2), inv := fun _ x => x.1 ≤ i.toNat ∧ x.2.1.length = L.length ∧ riseN i.toNat (L, M) i.toNat = riseN x.1 x.2 x.1, m := fun x => x.1 }, _, fun v S hv => ⟨_, h, hv⟩, ?_⟩
    rw [riseVc L M i]
    exact riseHolds L M i (of_decide_eq_true hp)
  · exact h.elim)
/-! ### (*regatta/heap.Heap[int]).sink -/
def sinkText (L : List Thing) (M : List (Int × Int)) (i : Int) : Prop := ((∃ x : Nat × List Thing × List (Int × Int), (((x.fst < L.length) ∧ ((x.snd.fst.length = L.length) ∧ (sinkN (L.length - i.toNat) (L, M) i.toNat = sinkN (L.length - x.fst) x.snd x.fst))) ∧ ((True ∧ (((↑x.fst : Int) = i) ∧ True)) ∧ ((True ∧ (True ∧ (True ∧ True))) ∧ ((x.snd.fst = L) ∧ ((x.snd.snd = M) ∧ True)))))) ∧ (∀ x : Nat × List Thing × List (Int × Int), (((x.fst < L.length) ∧ ((x.snd.fst.length = L.length) ∧ (sinkN (L.length - i.toNat) (L, M) i.toNat = sinkN (L.length - x.fst) x.snd x.fst))) → ((∃ x1 : Nat, (((x1 ≤ (2 : Nat)) ∧ (x1 = (0 : Nat) ∨ (2 : Nat) * (↑x.fst : Int).toNat + x1 < L.length)) ∧ ((True ∧ (((↑x.fst : Int) = (↑x.fst : Int)) ∧ (((↑(firstAt x.snd.fst (↑x.fst : Int).toNat x1) : Int) = (↑x.fst : Int)) ∧ (((2 : Int) * (↑x.fst : Int) + (1 : Int) + (↑x1 : Int) = IntKind.i64.wrap (IntKind.i64.wrap ((2 : Int) * (↑x.fst : Int)) + (1 : Int))) ∧ True)))) ∧ ((True ∧ (True ∧ (True ∧ True))) ∧ ((x.snd.fst = x.snd.fst) ∧ ((x.snd.snd = x.snd.snd) ∧ True)))))) ∧ (∀ x1 : Nat, (((x1 ≤ (2 : Nat)) ∧ (x1 = (0 : Nat) ∨ (2 : Nat) * (↑x.fst : Int).toNat + x1 < L.length)) → (match (decide ((2 : Int) * (↑x.fst : Int) + (1 : Int) + (↑x1 : Int) ≤ IntKind.i64.wrap (IntKind.i64.wrap ((2 : Int) * (↑x.fst : Int)) + (2 : Int)))) with | true => (match (decide ((2 : Int) * (↑x.fst : Int) + (1 : Int) + (↑x1 : Int) < (↑x.snd.fst.length : Int))) with | true => (match (decide ((0 : Int) ≤ (2 : Int) * (↑x.fst : Int) + (1 : Int) + (↑x1 : Int) ∧ (2 : Int) * (↑x.fst : Int) + (1 : Int) + (↑x1 : Int) < (↑x.snd.fst.length : Int) ∧ (0 : Int) ≤ (↑(firstAt x.snd.fst (↑x.fst : Int).toNat x1) : Int) ∧ (↑(firstAt x.snd.fst (↑x.fst : Int).toNat x1) : Int) < (↑x.snd.fst.length : Int))) with | true => (match (aheadA x.snd.fst ((2 : Int) * (↑x.fst : Int) + (1 : Int) + (↑x1 : Int)) (↑(firstAt x.snd.fst (↑x.fst : Int).toNat x1) : Int)) with | true => (∃ x' : Nat, (((x' ≤ (2 : Nat)) ∧ (x' = (0 : Nat) ∨ (2 : Nat) * (↑x.fst : Int).toNat + x' < L.length)) ∧ (((2 : Nat) - x' < (2 : Nat) - x1) ∧ ((True ∧ (((↑x.fst : Int) = (↑x.fst : Int)) ∧ (((↑(firstAt x.snd.fst (↑x.fst : Int).toNat x') : Int) = (2 : Int) * (↑x.fst : Int) + (1 : Int) + (↑x1 : Int)) ∧ (((2 : Int) * (↑x.fst : Int) + (1 : Int) + (↑x' : Int) = IntKind.i64.wrap ((2 : Int) * (↑x.fst : Int) + (1 : Int) + (↑x1 : Int) + (1 : Int))) ∧ True)))) ∧ ((True ∧ (True ∧ (True ∧ True))) ∧ ((x.snd.fst = x.snd.fst) ∧ ((x.snd.snd = x.snd.snd) ∧ True))))))) | false => (∃ x' : Nat, (((x' ≤ (2 : Nat)) ∧ (x' = (0 : Nat) ∨ (2 : Nat) * (↑x.fst : Int).toNat + x' < L.length)) ∧ (((2 : Nat) - x' < (2 : Nat) - x1) ∧ ((True ∧ (((↑x.fst : Int) = (↑x.fst : Int)) ∧ (((↑(firstAt x.snd.fst (↑x.fst : Int).toNat x') : Int) = (↑(firstAt x.snd.fst (↑x.fst : Int).toNat x1) : Int)) ∧ (((2 : Int) * (↑x.fst : Int) + (1 : Int) + (↑x' : Int) = IntKind.i64.wrap ((2 : Int) * (↑x.fst : Int) + (1 : Int) + (↑x1 : Int) + (1 : Int))) ∧ True)))) ∧ ((True ∧ (True ∧ (True ∧ True))) ∧ ((x.snd.fst = x.snd.fst) ∧ ((x.snd.snd = x.snd.snd) ∧ True)))))))) | false => False) | false => (match ((↑(firstAt x.snd.fst (↑x.fst : Int).toNat x1) : Int) == (↑x.fst : Int)) with | true => ((True ∧ True) ∧ ((True ∧ (True ∧ (True ∧ True))) ∧ (((sinkN (L.length - i.toNat) (L, M) i.toNat).fst = x.snd.fst) ∧ (((sinkN (L.length - i.toNat) (L, M) i.toNat).snd = x.snd.snd) ∧ True)))) | false => (match (decide ((0 : Int) ≤ (↑x.fst : Int) ∧ (↑x.fst : Int) < (↑x.snd.fst.length : Int) ∧ (0 : Int) ≤ (↑(firstAt x.snd.fst (↑x.fst : Int).toNat x1) : Int) ∧ (↑(firstAt x.snd.fst (↑x.fst : Int).toNat x1) : Int) < (↑x.snd.fst.length : Int))) with | true => (∃ x' : Nat × List Thing × List (Int × Int), (((x'.fst < L.length) ∧ ((x'.snd.fst.length = L.length) ∧ (sinkN (L.length - i.toNat) (L, M) i.toNat = sinkN (L.length - x'.fst) x'.snd x'.fst))) ∧ ((L.length - x'.fst < L.length - x.fst) ∧ ((True ∧ (((↑x'.fst : Int) = (↑(firstAt x.snd.fst (↑x.fst : Int).toNat x1) : Int)) ∧ True)) ∧ ((True ∧ (True ∧ (True ∧ True))) ∧ ((x'.snd.fst = swapL x.snd.fst (↑x.fst : Int) (↑(firstAt x.snd.fst (↑x.fst : Int).toNat x1) : Int)) ∧ ((x'.snd.snd = swapM x.snd.fst x.snd.snd (↑x.fst : Int) (↑(firstAt x.snd.fst (↑x.fst : Int).toNat x1) : Int)) ∧ True))))))) | false => False))) | false => (match ((↑(firstAt x.snd.fst (↑x.fst : Int).toNat x1) : Int) == (↑x.fst : Int)) with | true => ((True ∧ True) ∧ ((True ∧ (True ∧ (True ∧ True))) ∧ (((sinkN (L.length - i.toNat) (L, M) i.toNat).fst = x.snd.fst) ∧ (((sinkN (L.length - i.toNat) (L, M) i.toNat).snd = x.snd.snd) ∧ True)))) | false => (match (decide ((0 : Int) ≤ (↑x.fst : Int) ∧ (↑x.fst : Int) < (↑x.snd.fst.length : Int) ∧ (0 : Int) ≤ (↑(firstAt x.snd.fst (↑x.fst : Int).toNat x1) : Int) ∧ (↑(firstAt x.snd.fst (↑x.fst : Int).toNat x1) : Int) < (↑x.snd.fst.length : Int))) with | true => (∃ x' : Nat × List Thing × List (Int × Int), (((x'.fst < L.length) ∧ ((x'.snd.fst.length = L.length) ∧ (sinkN (L.length - i.toNat) (L, M) i.toNat = sinkN (L.length - x'.fst) x'.snd x'.fst))) ∧ ((L.length - x'.fst < L.length - x.fst) ∧ ((True ∧ (((↑x'.fst : Int) = (↑(firstAt x.snd.fst (↑x.fst : Int).toNat x1) : Int)) ∧ True)) ∧ ((True ∧ (True ∧ (True ∧ True))) ∧ ((x'.snd.fst = swapL x.snd.fst (↑x.fst : Int) (↑(firstAt x.snd.fst (↑x.fst : Int).toNat x1) : Int)) ∧ ((x'.snd.snd = swapM x.snd.fst x.snd.snd (↑x.fst : Int) (↑(firstAt x.snd.fst (↑x.fst : Int).toNat x1) : Int)) ∧ True))))))) | false => False)))))))))
theorem sinkVc (L : List Thing) (M : List (Int × Int)) (i : Int) : fnX X3 (annOf [(0, { σ := Nat × List Thing × List (Int × Int), st := fun S x => (((S.keep [0]).int 1 x.1).chunk 1 (.vec 2 x.2.1 57)).chunk 2 (.map 0 x.2.2), inv := fun _ x => x.1 < L.length ∧ x.2.1.length = L.length ∧ sinkN (L.length - i.toNat) (L, M) i.toNat = sinkN (L.length - x.1) x.2 x.1, m := fun x => L.length - x.1 }),
  (2, { σ := Nat, st := fun S x => ((S.keep [0, 1]).int 5 (2 * S.gi 1 + 1 + x)).int 4 (firstAt (S.cv 1 2) (S.gi 1).toNat x), inv := fun S x => x ≤ 2 ∧ (x = 0 ∨ 2 * (S.gi 1).toNat + x < L.length), m := fun x => 2 - x })] []) Try.f33 [.ptr 0 0, .raw (.int .i64 i)] [.cells [.fn 10 [], .own 1, .own 2] 54, .vec 2 L 57, .map 0 M] (ends [.cells [.fn 10 [], .own 1, .own 2] 54, .vec 2 L 57, .map 0 M] ⟨some (.tup []), [(1, some (.vec 2 ((sinkN (L.length - i.toNat) (L, M) i.toNat).1) 57)), (2, some (.map 0 ((sinkN (L.length - i.toNat) (L, M) i.toNat).2)))]⟩) = sinkText L M i := by kernel_rfl
theorem sinkHolds (L : List Thing) (M : List (Int × Int)) (i : Int) (hp : 0 ≤ i ∧ i < L.length ∧ L.length ≤ 100000) : sinkText L M i := by
  unfold sinkText
  obtain ⟨p0, p1, p2⟩ := hp
  obtain ⟨n, rfl⟩ := Int.eq_ofNat_of_zero_le p0
  rw [Int.toNat_natCast]
  refine ⟨⟨(n, L, M), ⟨by dsimp only; omega, rfl, rfl⟩, ⟨trivial, rfl, trivial⟩, ⟨trivial, trivial, trivial, trivial⟩, rfl, rfl, trivial⟩, ?_⟩
  rintro ⟨x, L1, M1⟩ ⟨hx, hl, hs⟩
  dsimp only at hx hl hs ⊢
  rw [Int.toNat_natCast]
  rw [wrap_id (n := 2 * (x : Int)) (by omega) (by omega), wrap_id (n := 2 * (x : Int) + 1) (by omega) (by omega), wrap_id (n := 2 * (x : Int) + 2) (by omega) (by omega)]
  obtain ⟨r, hr⟩ : ∃ r, L.length - x = r + 1 := ⟨L.length - x - 1, by omega⟩
  rw [hr] at hs
  simp only [sinkN] at hs
  have hx1 : x < L1.length := by omega
  have fin : ∀ y, firstAt L1 x y = firstAt L1 x 2 → (match ((firstAt L1 x y : Nat) : Int) == (x : Int) with
      | true => (True ∧ True) ∧ (True ∧ True ∧ True ∧ True) ∧ (sinkN (L.length - n) (L, M) n).1 = L1 ∧ (sinkN (L.length - n) (L, M) n).2 = M1 ∧ True
      | false => match decide (0 ≤ (x : Int) ∧ (x : Int) < (L1.length : Int) ∧ 0 ≤ ((firstAt L1 x y : Nat) : Int) ∧ ((firstAt L1 x y : Nat) : Int) < (L1.length : Int)) with
        | true => ∃ x' : Nat × List Thing × List (Int × Int), (x'.1 < L.length ∧ x'.2.1.length = L.length ∧ sinkN (L.length - n) (L, M) n = sinkN (L.length - x'.1) x'.2 x'.1) ∧ L.length - x'.1 < L.length - x ∧ (True ∧ (x'.1 : Int) = ((firstAt L1 x y : Nat) : Int) ∧ True) ∧ (True ∧ True ∧ True ∧ True) ∧ x'.2.1 = swapL L1 (x : Int) ((firstAt L1 x y : Nat) : Int) ∧ x'.2.2 = swapM L1 M1 (x : Int) ((firstAt L1 x y : Nat) : Int) ∧ True
        | false => False) := by
    intro y hy
    rw [hy]
    have hf := firstAt_lt L1 x hx1 2
    cases hq : firstAt L1 x 2 == x
    · have hne : firstAt L1 x 2 ≠ x := by simpa using hq
      have hgt := (firstAt_ge L1 x 2).resolve_left hne
      rw [show (((firstAt L1 x 2 : Nat) : Int) == (x : Int)) = false by rw [beq_eq_false_iff_ne]; omega, decide_eq_true (⟨by omega, by omega, by omega, by omega⟩ : 0 ≤ (x : Int) ∧ (x : Int) < (L1.length : Int) ∧ 0 ≤ ((firstAt L1 x 2 : Nat) : Int) ∧ ((firstAt L1 x 2 : Nat) : Int) < (L1.length : Int))]
      rw [hq] at hs
      refine ⟨(firstAt L1 x 2, swapL L1 x (firstAt L1 x 2 : Nat), swapM L1 M1 x (firstAt L1 x 2 : Nat)), ⟨by dsimp only; omega, by rw [swapL_length]; exact hl, ?_⟩, by dsimp only; omega, ⟨trivial, rfl, trivial⟩, ⟨trivial, trivial, trivial, trivial⟩, rfl, rfl, trivial⟩
      rw [hs]
      exact sinkN_fuel _ _ _ _ (by show (swapL L1 x (firstAt L1 x 2 : Nat)).length - _ ≤ r; rw [swapL_length]; omega) (by show (swapL L1 x (firstAt L1 x 2 : Nat)).length - _ ≤ _; rw [swapL_length]; dsimp only; omega) (by show _ < (swapL L1 x (firstAt L1 x 2 : Nat)).length; rw [swapL_length]; exact hf)
    · have he : firstAt L1 x 2 = x := by simpa using hq
      rw [show (((firstAt L1 x 2 : Nat) : Int) == (x : Int)) = true by rw [beq_iff_eq]; omega]
      rw [hq] at hs
      rw [hs]
      exact ⟨⟨trivial, trivial⟩, ⟨trivial, trivial, trivial, trivial⟩, rfl, rfl, trivial⟩
  refine ⟨⟨0, ⟨by omega, .inl rfl⟩, ⟨trivial, rfl, rfl, by omega, trivial⟩, ⟨trivial, trivial, trivial, trivial⟩, rfl, rfl, trivial⟩, ?_⟩
  rintro y ⟨hy, hy2⟩
  by_cases g : y < 2
  · rw [show decide (2 * (x : Int) + 1 + (y : Int) ≤ 2 * (x : Int) + 2) = true from decide_eq_true (by omega)]
    by_cases g2 : 2 * x + 1 + y < L1.length
    · have ec : 2 * (x : Int) + 1 + (y : Int) = ((2 * x + 1 + y : Nat) : Int) := by omega
      have hf := firstAt_lt L1 x hx1 y
      rw [show decide (2 * (x : Int) + 1 + (y : Int) < (L1.length : Int)) = true from decide_eq_true (by omega), show decide (0 ≤ 2 * (x : Int) + 1 + (y : Int) ∧ 2 * (x : Int) + 1 + (y : Int) < (L1.length : Int) ∧ 0 ≤ ((firstAt L1 x y : Nat) : Int) ∧ ((firstAt L1 x y : Nat) : Int) < (L1.length : Int)) = true from decide_eq_true ⟨by omega, by omega, by omega, by omega⟩]
      rw [wrap_id (n := 2 * (x : Int) + 1 + (y : Int) + 1) (by omega) (by omega)]
      have hstep : firstAt L1 x (y + 1) = bif aheadA L1 (2 * (x : Int) + 1 + (y : Int)) ((firstAt L1 x y : Nat) : Int) then 2 * x + 1 + y else firstAt L1 x y := by
        rw [ec]
        simp only [firstAt]
        rw [decide_eq_true g2, Bool.true_and]
      cases ha : aheadA L1 (2 * (x : Int) + 1 + (y : Int)) ((firstAt L1 x y : Nat) : Int)
      · rw [ha] at hstep
        exact ⟨y + 1, ⟨by omega, .inr (by omega)⟩, by omega, ⟨trivial, rfl, by rw [hstep]; rfl, by omega, trivial⟩, ⟨trivial, trivial, trivial, trivial⟩, rfl, rfl, trivial⟩
      · rw [ha] at hstep
        exact ⟨y + 1, ⟨by omega, .inr (by omega)⟩, by omega, ⟨trivial, rfl, by rw [hstep]; show ((2 * x + 1 + y : Nat) : Int) = _; omega, by omega, trivial⟩, ⟨trivial, trivial, trivial, trivial⟩, rfl, rfl, trivial⟩
    · rw [show decide (2 * (x : Int) + 1 + (y : Int) < (L1.length : Int)) = false from decide_eq_false (by omega)]
      exact fin y (firstAt_end L1 x y (by omega) 2 (by omega)).symm
  · have e : y = 2 := by omega
    subst e
    rw [show decide (2 * (x : Int) + 1 + ((2 : Nat) : Int) ≤ 2 * (x : Int) + 2) = false from decide_eq_false (by omega)]
    exact fin 2 rfl
noncomputable def sinkCon : Con T O := fun args cs => match args, cs with
  | [.ptr 0 0, .raw (.int .i64 i)], [.cells [.fn 10 [], .own 1, .own 2] 54, .vec 2 L 57, .map 0 M] => chk (decide (0 ≤ i ∧ i < L.length ∧ L.length ≤ 100000)) (.ret ⟨some (.tup []), [(1, some (.vec 2 ((sinkN (L.length - i.toNat) (L, M) i.toNat).1) 57)), (2, some (.map 0 ((sinkN (L.length - i.toNat) (L, M) i.toNat).2)))]⟩)
  | _, _ => .fail
theorem sinkOk : ConOk R Try.prog 33 sinkCon := con_of_fn R (X3) (TabOk.con R X3Ok) mixed Try.call33 Try.func33 sinkCon (by
  intro args cs K h
  unfold sinkCon at h
  split at h
  · rename_i i L M
    rw [Tree.holds_chk] at h
    obtain ⟨hp, h⟩ := h
    refine ⟨annOf [(0, { σ := Nat × List Thing × List (Int × Int), st := fun S x => (((S.keep [0]).int 1 x.1).chunk 1 (.vec 2 x.2.1 57)).chunk 2 (.map 0 x.2.2), inv := fun _ x => x.1 < L.length ∧ x.2.1.length = L.length ∧ sinkN (L.length - i.toNat) (L, M) i.toNat = sinkN (L.length - x.1) x.2 x.1, m := fun x => L.length - x.1 }),
  (2, { σ := Nat, st := fun S x => ((S.keep [0, 1]).int 5 (2 * S.gi 1 + 1 + x)).int 4 (firstAt (S.cv 1 2) (S.gi 1).toNat x), inv := fun S x => x ≤ 2 ∧ (x = 0 ∨ 2 * (S.gi 1).toNat + x < L.length), m := fun x => 2 - x })] [], _, fun v S hv => ⟨_, h, hv⟩, ?_⟩
    rw [sinkVc L M i]
    exact sinkHolds L M i (of_decide_eq_true hp)
  · exact h.elim)
noncomputable def tab4 : Tab T O := (26, riseCon) :: (33, sinkCon) :: tab3
theorem tabOk4 : TabOk R Try.prog tab4 := TabOk.cons R riseOk <| TabOk.cons R sinkOk <| tabOk3
noncomputable def X4 : Ctx T O := { X0 with con := conOf tab4 }
theorem X4Ok : TabOk R X4.P tab4 := tabOk4
end Go.Proofs.Ytdnndahaeammcaa
