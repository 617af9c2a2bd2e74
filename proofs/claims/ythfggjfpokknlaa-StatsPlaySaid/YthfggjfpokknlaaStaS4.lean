/-
  Part of a proof over the seat Ythfggjfpokknlaa: printed by a small program or typed by hand.
-/
import Derived.Test.YthfggjfpokknlaaStaS3
import Derived.KernelRfl
import Derived.Test.YthfggjfpokknlaaSxStable
namespace Go.Proofs.Ythfggjfpokknlaa
open Go.Sx Go.Proofs Classical

/-- the element at j goes down as far as it goes (c: what an element is, read and put back) -/
def insI (c : Int → Int) (lt : Int → Int → Bool) : List Int → Nat → List Int
  | L, 0 => L
  | L, j + 1 => bif lt (at' 0 L ((j + 1 : Nat) : Int)) (at' 0 L (j : Int)) then insI c lt ((L.set (j + 1) (c (at' 0 L (j : Int)))).set j (c (at' 0 L ((j + 1 : Nat) : Int)))) j else L
def isortN (c : Int → Int) (lt : Int → Int → Bool) (L : List Int) : Nat → List Int
  | 0 => L
  | k + 1 => insI c lt (isortN c lt L k) k
theorem insI_length (c : Int → Int) (lt : Int → Int → Bool) : ∀ (j : Nat) (L : List Int), (insI c lt L j).length = L.length
  | 0, _ => rfl
  | j + 1, L => by
    simp only [insI]
    cases lt (at' 0 L ((j + 1 : Nat) : Int)) (at' 0 L (j : Int))
    · rfl
    · rw [cond_true, insI_length c lt j]
      simp
theorem isortN_length (c : Int → Int) (lt : Int → Int → Bool) (L : List Int) : ∀ k, (isortN c lt L k).length = L.length
  | 0 => rfl
  | k + 1 => by rw [isortN, insI_length, isortN_length c lt L k]
def same (x : Int) : Int := x

def ltI (M : CM) (a b : Int) : Bool := decide (topCmp M a b < 0)
def ltS (M : CM) (a b : Int) : Bool := decide (topCmp M (codeS a) (codeS b) < 0)

/-- more of them, or as many and a key ahead -/
def tlI (M : CM) (a b : Int) : Bool := decide (getM M b < getM M a ∨ (getM M a = getM M b ∧ a < b))
theorem cmpL_neg (x y : Int) : cmpL x y < 0 ↔ x < y := by
  have hn : ∀ x : Int, nanL x = false := fun x => by unfold nanL; simp
  unfold cmpL
  rw [hn, hn]
  by_cases h : x < y
  · rw [decide_eq_true h]
    simp [h]
  · rw [decide_eq_false h]
    by_cases g : x > y
    · rw [decide_eq_true g]
      simp [h]
    · rw [decide_eq_false g]
      simp [h]
theorem ltI_iff (M : CM) (a b : Int) : ltI M a b = true ↔ getM M b < getM M a := by
  unfold ltI topCmp
  rw [decide_eq_true_iff, cmpL_neg]
theorem tlI_iff (M : CM) (a b : Int) : tlI M a b = true ↔ getM M b < getM M a ∨ (getM M a = getM M b ∧ a < b) := decide_eq_true_iff
theorem tlI_not (M : CM) (a b : Int) : tlI M a b = false ↔ ¬ (getM M b < getM M a ∨ (getM M a = getM M b ∧ a < b)) := decide_eq_false_iff_not
theorem ordI (M : CM) : Ord2 (ltI M) (tlI M) where
  irr a := by rw [tlI_not]; omega
  tr a b c := by simp only [tlI_iff]; omega
  ntr a b c := by simp only [tlI_not]; omega
  sub a b h := by rw [ltI_iff] at h; rw [tlI_iff]; exact .inl h
def keysNd (M : CM) : Prop := (M.map (·.1)).Nodup
theorem leI_tr (a b c : Int) : decide (a ≤ b) = true → decide (b ≤ c) = true → decide (a ≤ c) = true := by
  simp only [decide_eq_true_eq]; omega
theorem leI_to (a b : Int) : (decide (a ≤ b) || decide (b ≤ a)) = true := by
  simp only [Bool.or_eq_true, decide_eq_true_eq]; omega
theorem keysS_perm (M : CM) : (keysS M).Perm (M.map (·.1)) := List.mergeSort_perm _ _
theorem keysS_asc {M : CM} (h : (M.map (·.1)).Nodup) : (keysS M).Pairwise (· < ·) := by
  have h1 : (keysS M).Pairwise (fun a b => decide (a ≤ b) = true) := List.pairwise_mergeSort leI_tr leI_to _
  have h2 : (keysS M).Nodup := (keysS_perm M).nodup_iff.2 h
  exact (List.Pairwise.and h1 h2).imp fun {a b} ⟨p, q⟩ => by
    have : a ≤ b := of_decide_eq_true p
    have : a ≠ b := q
    omega
theorem keysS_pre {M : CM} (h : keysNd M) : PreT (ltI M) (tlI M) (keysS M) := (keysS_asc h).imp fun {a b} hab => by
  rw [ltI_iff, tlI_iff]
  omega

/-! ### slices.insertionSortCmpFunc[int] -/
def insIK0Text (L : List Int) (M : CM) (a b : Int) : Prop := ((∃ x : Nat × List Int, (((x.snd = rangeS (tlI M) a.toNat (min (a.toNat + (1 : Nat) + x.fst) b.toNat) L) ∧ (a.toNat + x.fst ≤ L.length)) ∧ ((True ∧ ((a = a) ∧ ((b = b) ∧ ((True ∧ True) ∧ ((a + (1 : Int) + (↑x.fst : Int) = IntKind.i64.wrap (a + (1 : Int))) ∧ True))))) ∧ ((x.snd = L) ∧ ((True ∧ True) ∧ ((True ∧ True) ∧ ((M = M) ∧ True))))))) ∧ (∀ x : Nat × List Int, (((x.snd = rangeS (tlI M) a.toNat (min (a.toNat + (1 : Nat) + x.fst) b.toNat) L) ∧ (a.toNat + x.fst ≤ L.length)) → (match (decide (a + (1 : Int) + (↑x.fst : Int) < b)) with | true => ((∃ x1 : Nat × List Int, (((a.toNat + x1.fst ≤ (a + (1 : Int) + (↑x.fst : Int)).toNat) ∧ ((x1.snd.length = L.length) ∧ (insD (0 : Int) (ltI M) a.toNat x1.fst x1.snd = insD (0 : Int) (ltI M) a.toNat ((a + (1 : Int) + (↑x.fst : Int)).toNat - a.toNat) x.snd))) ∧ ((True ∧ ((a = a) ∧ ((b = b) ∧ ((True ∧ True) ∧ ((a + (1 : Int) + (↑x.fst : Int) = a + (1 : Int) + (↑x.fst : Int)) ∧ ((a + (↑x1.fst : Int) = a + (1 : Int) + (↑x.fst : Int)) ∧ True)))))) ∧ ((x1.snd = x.snd) ∧ ((True ∧ True) ∧ ((True ∧ True) ∧ ((M = M) ∧ True))))))) ∧ (∀ x1 : Nat × List Int, (((a.toNat + x1.fst ≤ (a + (1 : Int) + (↑x.fst : Int)).toNat) ∧ ((x1.snd.length = L.length) ∧ (insD (0 : Int) (ltI M) a.toNat x1.fst x1.snd = insD (0 : Int) (ltI M) a.toNat ((a + (1 : Int) + (↑x.fst : Int)).toNat - a.toNat) x.snd))) → (match (decide (a + (↑x1.fst : Int) > a)) with | true => (match (inb (a + (↑x1.fst : Int)) x1.snd.length) with | true => (match (inb (a + (↑x1.fst : Int)) x1.snd.length) with | true => (match (inb (IntKind.i64.wrap (a + (↑x1.fst : Int) - (1 : Int))) x1.snd.length) with | true => (match (inb (IntKind.i64.wrap (a + (↑x1.fst : Int) - (1 : Int))) x1.snd.length) with | true => (match (decide (topCmp M (at' (0 : Int) x1.snd (a + (↑x1.fst : Int))) (at' (0 : Int) x1.snd (IntKind.i64.wrap (a + (↑x1.fst : Int) - (1 : Int)))) < (0 : Int))) with | true => (match (inb (IntKind.i64.wrap (a + (↑x1.fst : Int) - (1 : Int))) x1.snd.length) with | true => (match (inb (IntKind.i64.wrap (a + (↑x1.fst : Int) - (1 : Int))) x1.snd.length) with | true => (match (inb (a + (↑x1.fst : Int)) x1.snd.length) with | true => (match (inb (a + (↑x1.fst : Int)) x1.snd.length) with | true => (match (inb (a + (↑x1.fst : Int)) x1.snd.length) with | true => (match (inb (a + (↑x1.fst : Int)) x1.snd.length) with | true => (match (inb (IntKind.i64.wrap (a + (↑x1.fst : Int) - (1 : Int))) (x1.snd.set (a + (↑x1.fst : Int)).toNat (at' (0 : Int) x1.snd (IntKind.i64.wrap (a + (↑x1.fst : Int) - (1 : Int))))).length) with | true => (match (inb (IntKind.i64.wrap (a + (↑x1.fst : Int) - (1 : Int))) (x1.snd.set (a + (↑x1.fst : Int)).toNat (at' (0 : Int) x1.snd (IntKind.i64.wrap (a + (↑x1.fst : Int) - (1 : Int))))).length) with | true => (∃ x' : Nat × List Int, (((a.toNat + x'.fst ≤ (a + (1 : Int) + (↑x.fst : Int)).toNat) ∧ ((x'.snd.length = L.length) ∧ (insD (0 : Int) (ltI M) a.toNat x'.fst x'.snd = insD (0 : Int) (ltI M) a.toNat ((a + (1 : Int) + (↑x.fst : Int)).toNat - a.toNat) x.snd))) ∧ ((x'.fst < x1.fst) ∧ ((True ∧ ((a = a) ∧ ((b = b) ∧ ((True ∧ True) ∧ ((a + (1 : Int) + (↑x.fst : Int) = a + (1 : Int) + (↑x.fst : Int)) ∧ ((a + (↑x'.fst : Int) = IntKind.i64.wrap (a + (↑x1.fst : Int) - (1 : Int))) ∧ True)))))) ∧ ((x'.snd = (x1.snd.set (a + (↑x1.fst : Int)).toNat (at' (0 : Int) x1.snd (IntKind.i64.wrap (a + (↑x1.fst : Int) - (1 : Int))))).set (IntKind.i64.wrap (a + (↑x1.fst : Int) - (1 : Int))).toNat (at' (0 : Int) x1.snd (a + (↑x1.fst : Int)))) ∧ ((True ∧ True) ∧ ((True ∧ True) ∧ ((M = M) ∧ True)))))))) | false => False) | false => False) | false => False) | false => False) | false => False) | false => False) | false => False) | false => False) | false => (∃ x' : Nat × List Int, (((x'.snd = rangeS (tlI M) a.toNat (min (a.toNat + (1 : Nat) + x'.fst) b.toNat) L) ∧ (a.toNat + x'.fst ≤ L.length)) ∧ ((L.length + (1 : Nat) - x'.fst < L.length + (1 : Nat) - x.fst) ∧ ((True ∧ ((a = a) ∧ ((b = b) ∧ ((True ∧ True) ∧ ((a + (1 : Int) + (↑x'.fst : Int) = IntKind.i64.wrap (a + (1 : Int) + (↑x.fst : Int) + (1 : Int))) ∧ True))))) ∧ ((x'.snd = x1.snd) ∧ ((True ∧ True) ∧ ((True ∧ True) ∧ ((M = M) ∧ True))))))))) | false => False) | false => False) | false => False) | false => False) | false => (∃ x' : Nat × List Int, (((x'.snd = rangeS (tlI M) a.toNat (min (a.toNat + (1 : Nat) + x'.fst) b.toNat) L) ∧ (a.toNat + x'.fst ≤ L.length)) ∧ ((L.length + (1 : Nat) - x'.fst < L.length + (1 : Nat) - x.fst) ∧ ((True ∧ ((a = a) ∧ ((b = b) ∧ ((True ∧ True) ∧ ((a + (1 : Int) + (↑x'.fst : Int) = IntKind.i64.wrap (a + (1 : Int) + (↑x.fst : Int) + (1 : Int))) ∧ True))))) ∧ ((x'.snd = x1.snd) ∧ ((True ∧ True) ∧ ((True ∧ True) ∧ ((M = M) ∧ True)))))))))))) | false => ((True ∧ True) ∧ ((rangeS (tlI M) a.toNat b.toNat L = x.snd) ∧ ((True ∧ True) ∧ ((True ∧ True) ∧ ((M = M) ∧ True)))))))))
theorem insIK0Vc (L : List Int) (M : CM) (a b : Int) : fnX X3 (annOf [(1, { σ := Nat × List Int, st := fun S x => ((S.keep [0, 1, 2, 3]).int 8 (a + 1 + x.1)).at' 0 (.vec 0 x.2 3), inv := fun _ x => x.2 = rangeS (tlI M) a.toNat (min (a.toNat + 1 + x.1) b.toNat) L ∧ a.toNat + x.1 ≤ L.length, m := fun x => L.length + 1 - x.1 }), (4, { σ := Nat × List Int, st := fun S x => ((S.keep [0, 1, 2, 3, 8]).int 9 (a + x.1)).at' 0 (.vec 0 x.2 3), inv := fun S x => a.toNat + x.1 ≤ (S.gi 8).toNat ∧ x.2.length = L.length ∧ insD (0 : Int) (ltI M) a.toNat x.1 x.2 = insD (0 : Int) (ltI M) a.toNat ((S.gi 8).toNat - a.toNat) (S.gv 0 0), m := fun x => x.1 })] []) Try.f60 [.own 0, .raw (.int .i64 a), .raw (.int .i64 b), .fn 38 [.ptr 1 0]] [.vec 0 L 3, .cells [.ptr 2 0] 24, .cells [.own 3] 51, .map 0 M] (ends [.vec 0 L 3, .cells [.ptr 2 0] 24, .cells [.own 3] 51, .map 0 M] ⟨some (.tup []), [(0, some (.vec 0 (rangeS (tlI M) a.toNat b.toNat L) 3)), (3, some (.map 0 M))]⟩) = insIK0Text L M a b := by kernel_rfl
theorem insIK0Holds (L : List Int) (M : CM) (a b : Int) (hp : 0 ≤ a ∧ a ≤ b ∧ b ≤ L.length ∧ L.length ≤ 1000 ∧ PreT (ltI M) (tlI M) (seg a.toNat b.toNat L)) : insIK0Text L M a b := by
  unfold insIK0Text
  obtain ⟨p0, p1, p2, p3, p4⟩ := hp
  obtain ⟨a, rfl⟩ := Int.eq_ofNat_of_zero_le p0
  obtain ⟨b, rfl⟩ := Int.eq_ofNat_of_zero_le (Int.le_trans p0 p1)
  rw [Int.toNat_natCast, Int.toNat_natCast] at p4 ⊢
  have hw0 : (a : Int) + 1 + ((0 : Nat) : Int) = IntKind.i64.wrap ((a : Int) + 1) := by rw [wrap_id (by omega) (by omega)]; omega
  refine ⟨⟨(0, L), ⟨(rangeS_one (ordI M) (by omega) (by omega)).symm, by dsimp only; omega⟩, by repeat' first | exact hw0 | trivial | rfl | apply And.intro⟩, ?_⟩
  rintro ⟨x, Q⟩ ⟨h1, h2⟩
  dsimp only at h1 h2 ⊢
  by_cases c : a + 1 + x < b
  · rw [show decide ((a : Int) + 1 + (x : Int) < (b : Int)) = true from decide_eq_true (by omega), show ((a : Int) + 1 + (x : Int)).toNat = a + 1 + x by omega, show a + 1 + x - a = x + 1 by omega]
    rw [show min (a + 1 + x) b = a + (x + 1) by omega] at h1
    have hQ : Q.length = L.length := by rw [h1, rangeS_length (by omega) (by omega)]
    have hwx : (a : Int) + 1 + ((x + 1 : Nat) : Int) = IntKind.i64.wrap ((a : Int) + 1 + (x : Int) + 1) := by rw [wrap_id (by omega) (by omega)]; omega
    have fin : ∀ N, N = insD (0 : Int) (ltI M) a (x + 1) Q → N = rangeS (tlI M) a (min (a + 1 + (x + 1)) b) L := by
      intro N e
      rw [show min (a + 1 + (x + 1)) b = a + (x + 1) + 1 by omega, e, h1]
      exact ins_step (0 : Int) (ordI M) p4 (by omega) (by omega)
    have hs0 : (a : Int) + ((x + 1 : Nat) : Int) = (a : Int) + 1 + (x : Int) := by omega
    refine ⟨⟨(x + 1, Q), ⟨by dsimp only; omega, hQ, rfl⟩, by repeat' first | exact hs0 | trivial | rfl | apply And.intro⟩, ?_⟩
    rintro ⟨y, N⟩ ⟨k1, k2, k3⟩
    dsimp only at k1 k2 k3 ⊢
    cases y with
    | zero =>
      rw [show decide ((a : Int) + ((0 : Nat) : Int) > (a : Int)) = false from decide_eq_false (by omega)]
      refine ⟨(x + 1, N), ⟨fin N k3, by dsimp only; omega⟩, by dsimp only; omega, ?_⟩
      repeat' first | exact hwx | trivial | rfl | apply And.intro
    | succ w =>
      have hN : a + w + 1 < N.length := by omega
      rw [show (a : Int) + ((w + 1 : Nat) : Int) = ((a + w + 1 : Nat) : Int) by omega, show IntKind.i64.wrap (((a + w + 1 : Nat) : Int) - 1) = ((a + w : Nat) : Int) by rw [wrap_id (by omega) (by omega)]; omega,
        show decide (((a + w + 1 : Nat) : Int) > (a : Int)) = true from decide_eq_true (by omega), inb_nat hN, inb_nat (show a + w < N.length by omega), List.length_set, inb_nat (show a + w < N.length by omega)]
      rw [show decide (topCmp M (at' (0 : Int) N ((a + w + 1 : Nat) : Int)) (at' (0 : Int) N ((a + w : Nat) : Int)) < 0) = ltI M (at' (0 : Int) N ((a + w + 1 : Nat) : Int)) (at' (0 : Int) N ((a + w : Nat) : Int)) from rfl]
      simp only [insD] at k3
      cases ho : ltI M (at' (0 : Int) N ((a + w + 1 : Nat) : Int)) (at' (0 : Int) N ((a + w : Nat) : Int))
      · rw [ho, cond_false] at k3
        refine ⟨(x + 1, N), ⟨fin N k3, by dsimp only; omega⟩, by dsimp only; omega, ?_⟩
        repeat' first | exact hwx | trivial | rfl | apply And.intro
      · rw [ho, cond_true] at k3
        rw [Int.toNat_natCast, Int.toNat_natCast]
        have hy : (a : Int) + (w : Int) = ((a + w : Nat) : Int) := by omega
        refine ⟨(w, swp (0 : Int) N (a + w + 1) (a + w)), ⟨by dsimp only; omega, by rw [swp_length]; exact k2, k3⟩, by dsimp only; omega, ?_⟩
        repeat' first | exact hy | trivial | rfl | apply And.intro
  · rw [show decide ((a : Int) + 1 + (x : Int) < (b : Int)) = false from decide_eq_false (by omega)]
    have e : rangeS (tlI M) a b L = Q := by rw [h1, show min (a + 1 + x) b = b by omega]
    repeat' first | exact e | trivial | rfl | apply And.intro
def insIK1Text  : Prop := ((True ∧ True) ∧ (((Value.pointer none = Value.pointer none) ∧ True) ∧ True))
theorem insIK1Vc  : fnX X3 (annOf [] [(1, 1)]) Try.f60 [.raw (.slice none 0 0), .raw (.int .i64 0), .raw (.int .i64 0), .fn 38 [.ptr 0 0]] [.cells [.raw (.pointer none)] 24] (ends [.cells [.raw (.pointer none)] 24] ⟨some (.tup []), []⟩) = insIK1Text  := by kernel_rfl
theorem insIK1Holds  : insIK1Text  := by
  unfold insIK1Text
  repeat' first | trivial | rfl | apply And.intro
noncomputable def insICon : Con T O := fun args cs => match args, cs with
  | [.own 0, .raw (.int .i64 a), .raw (.int .i64 b), .fn 38 [.ptr 1 0]], [.vec 0 L 3, .cells [.ptr 2 0] 24, .cells [.own 3] 51, .map 0 M] => chk (decide (0 ≤ a ∧ a ≤ b ∧ b ≤ L.length ∧ L.length ≤ 1000 ∧ PreT (ltI M) (tlI M) (seg a.toNat b.toNat L))) (.ret ⟨some (.tup []), [(0, some (.vec 0 (rangeS (tlI M) a.toNat b.toNat L) 3)), (3, some (.map 0 M))]⟩)
  | [.raw (.slice none 0 0), .raw (.int .i64 0), .raw (.int .i64 0), .fn 38 [.ptr 0 0]], [.cells [.raw (.pointer none)] 24] => .ret ⟨some (.tup []), []⟩
  | _, _ => .fail
theorem insIOk : ConOk R Try.prog 60 insICon := con_of_fn R (X3) (TabOk.con R X3Ok) mixed Try.call60 Try.func60 insICon (by
  intro args cs K h
  unfold insICon at h
  split at h
  · rename_i a b L M
    rw [Tree.holds_chk] at h
    obtain ⟨hp, h⟩ := h
    refine ⟨annOf [(1, { σ := Nat × List Int, st := fun S x => ((S.keep [0, 1, 2, 3]).int 8 (a + 1 + x.1)).at' 0 (.vec 0 x.2 3), inv := fun _ x => x.2 = rangeS (tlI M) a.toNat (min (a.toNat + 1 + x.1) b.toNat) L ∧ a.toNat + x.1 ≤ L.length, m := fun x => L.length + 1 - x.1 }), (4, { σ := Nat × List Int, st := fun S x => ((S.keep [0, 1, 2, 3, 8]).int 9 (a + x.1)).at' 0 (.vec 0 x.2 3), inv := fun S x => a.toNat + x.1 ≤ (S.gi 8).toNat ∧ x.2.length = L.length ∧ insD (0 : Int) (ltI M) a.toNat x.1 x.2 = insD (0 : Int) (ltI M) a.toNat ((S.gi 8).toNat - a.toNat) (S.gv 0 0), m := fun x => x.1 })] [], _, fun v S hv => ⟨_, h, hv⟩, ?_⟩
    rw [insIK0Vc L M a b]
    exact insIK0Holds L M a b (of_decide_eq_true hp)
  ·
    refine ⟨annOf [] [(1, 1)], _, fun v S hv => ⟨_, h, hv⟩, ?_⟩
    rw [insIK1Vc ]
    exact insIK1Holds 
  · exact h.elim)
/-! ### slices.swapRangeCmpFunc[int] -/
def swrIText (L : List Int) (M : CM) (a b n : Int) : Prop := ((∃ x : Nat, ((x.le n.toNat) ∧ ((True ∧ ((a = a) ∧ ((b = b) ∧ ((n = n) ∧ (((↑x : Int) = (0 : Int)) ∧ True))))) ∧ ((swpR (0 : Int) a.toNat b.toNat x L = L) ∧ ((True ∧ True) ∧ ((True ∧ True) ∧ ((M = M) ∧ True))))))) ∧ (∀ x : Nat, ((x.le n.toNat) → (match (decide ((↑x : Int) < n)) with | true => (match (inb (IntKind.i64.wrap (b + (↑x : Int))) (swpR (0 : Int) a.toNat b.toNat x L).length) with | true => (match (inb (IntKind.i64.wrap (b + (↑x : Int))) (swpR (0 : Int) a.toNat b.toNat x L).length) with | true => (match (inb (IntKind.i64.wrap (a + (↑x : Int))) (swpR (0 : Int) a.toNat b.toNat x L).length) with | true => (match (inb (IntKind.i64.wrap (a + (↑x : Int))) (swpR (0 : Int) a.toNat b.toNat x L).length) with | true => (match (inb (IntKind.i64.wrap (a + (↑x : Int))) (swpR (0 : Int) a.toNat b.toNat x L).length) with | true => (match (inb (IntKind.i64.wrap (a + (↑x : Int))) (swpR (0 : Int) a.toNat b.toNat x L).length) with | true => (match (inb (IntKind.i64.wrap (b + (↑x : Int))) ((swpR (0 : Int) a.toNat b.toNat x L).set (IntKind.i64.wrap (a + (↑x : Int))).toNat (at' (0 : Int) (swpR (0 : Int) a.toNat b.toNat x L) (IntKind.i64.wrap (b + (↑x : Int))))).length) with | true => (match (inb (IntKind.i64.wrap (b + (↑x : Int))) ((swpR (0 : Int) a.toNat b.toNat x L).set (IntKind.i64.wrap (a + (↑x : Int))).toNat (at' (0 : Int) (swpR (0 : Int) a.toNat b.toNat x L) (IntKind.i64.wrap (b + (↑x : Int))))).length) with | true => (∃ x' : Nat, ((x'.le n.toNat) ∧ ((n.toNat - x' < n.toNat - x) ∧ ((True ∧ ((a = a) ∧ ((b = b) ∧ ((n = n) ∧ (((↑x' : Int) = IntKind.i64.wrap ((↑x : Int) + (1 : Int))) ∧ True))))) ∧ ((swpR (0 : Int) a.toNat b.toNat x' L = ((swpR (0 : Int) a.toNat b.toNat x L).set (IntKind.i64.wrap (a + (↑x : Int))).toNat (at' (0 : Int) (swpR (0 : Int) a.toNat b.toNat x L) (IntKind.i64.wrap (b + (↑x : Int))))).set (IntKind.i64.wrap (b + (↑x : Int))).toNat (at' (0 : Int) (swpR (0 : Int) a.toNat b.toNat x L) (IntKind.i64.wrap (a + (↑x : Int))))) ∧ ((True ∧ True) ∧ ((True ∧ True) ∧ ((M = M) ∧ True)))))))) | false => False) | false => False) | false => False) | false => False) | false => False) | false => False) | false => False) | false => False) | false => ((True ∧ True) ∧ ((swpR (0 : Int) a.toNat b.toNat n.toNat L = swpR (0 : Int) a.toNat b.toNat x L) ∧ ((True ∧ True) ∧ ((True ∧ True) ∧ ((M = M) ∧ True)))))))))
theorem swrIVc (L : List Int) (M : CM) (a b n : Int) : fnX X3 (oneLoop 1 { σ := Nat, st := fun S x => ((S.keep [0, 1, 2, 3]).int 10 x).at' 0 (.vec 0 (swpR (0 : Int) a.toNat b.toNat x L) 3), inv := fun _ x => x ≤ n.toNat, m := fun x => n.toNat - x }) Try.f94 [.own 0, .raw (.int .i64 a), .raw (.int .i64 b), .raw (.int .i64 n), .fn 38 [.ptr 1 0]] [.vec 0 L 3, .cells [.ptr 2 0] 24, .cells [.own 3] 51, .map 0 M] (ends [.vec 0 L 3, .cells [.ptr 2 0] 24, .cells [.own 3] 51, .map 0 M] ⟨some (.tup []), [(0, some (.vec 0 (swpR (0 : Int) a.toNat b.toNat n.toNat L) 3)), (3, some (.map 0 M))]⟩) = swrIText L M a b n := by kernel_rfl
theorem swrIHolds (L : List Int) (M : CM) (a b n : Int) (hp : 0 ≤ a ∧ 0 ≤ n ∧ a + n ≤ b ∧ b + n ≤ L.length ∧ L.length ≤ 1000) : swrIText L M a b n := by
  unfold swrIText
  obtain ⟨p0, p1, p2, p3, p4⟩ := hp
  obtain ⟨a, rfl⟩ := Int.eq_ofNat_of_zero_le p0
  obtain ⟨n, rfl⟩ := Int.eq_ofNat_of_zero_le p1
  obtain ⟨b, rfl⟩ := Int.eq_ofNat_of_zero_le (show 0 ≤ b by omega)
  rw [Int.toNat_natCast, Int.toNat_natCast, Int.toNat_natCast]
  refine ⟨⟨0, Nat.zero_le _, by repeat' first | trivial | rfl | apply And.intro⟩, ?_⟩
  intro x hx
  by_cases c : x < n
  · have hl := swpR_length (0 : Int) a b L x
    have hw : ((x + 1 : Nat) : Int) = IntKind.i64.wrap ((x : Int) + 1) := by rw [wrap_id (by omega) (by omega)]; omega
    rw [show decide ((x : Int) < (n : Int)) = true from decide_eq_true (by omega), show IntKind.i64.wrap ((a : Int) + (x : Int)) = ((a + x : Nat) : Int) by rw [wrap_id (by omega) (by omega)]; omega, show IntKind.i64.wrap ((b : Int) + (x : Int)) = ((b + x : Nat) : Int) by rw [wrap_id (by omega) (by omega)]; omega, List.length_set, hl, inb_nat (show a + x < L.length by omega), inb_nat (show b + x < L.length by omega), Int.toNat_natCast, Int.toNat_natCast]
    refine ⟨x + 1, c, by omega, ?_⟩
    repeat' first | exact hw | trivial | rfl | apply And.intro
  · have e : x = n := Nat.le_antisymm hx (by omega)
    subst e
    rw [show decide ((x : Int) < (x : Int)) = false from decide_eq_false (by omega)]
    repeat' first | trivial | rfl | apply And.intro
noncomputable def swrICon : Con T O := fun args cs => match args, cs with
  | [.own 0, .raw (.int .i64 a), .raw (.int .i64 b), .raw (.int .i64 n), .fn 38 [.ptr 1 0]], [.vec 0 L 3, .cells [.ptr 2 0] 24, .cells [.own 3] 51, .map 0 M] => chk (decide (0 ≤ a ∧ 0 ≤ n ∧ a + n ≤ b ∧ b + n ≤ L.length ∧ L.length ≤ 1000)) (.ret ⟨some (.tup []), [(0, some (.vec 0 (swpR (0 : Int) a.toNat b.toNat n.toNat L) 3)), (3, some (.map 0 M))]⟩)
  | _, _ => .fail
theorem swrIOk : ConOk R Try.prog 94 swrICon := con_of_fn R (X3) (TabOk.con R X3Ok) mixed Try.call94 Try.func94 swrICon (by
  intro args cs K h
  unfold swrICon at h
  split at h
  · rename_i a b n L M
    rw [Tree.holds_chk] at h
    obtain ⟨hp, h⟩ := h
    refine ⟨oneLoop 1 { σ := Nat, st := fun S x => ((S.keep [0, 1, 2, 3]).int 10 x).at' 0 (.vec 0 (swpR (0 : Int) a.toNat b.toNat x L) 3), inv := fun _ x => x ≤ n.toNat, m := fun x => n.toNat - x }, _, fun v S hv => ⟨_, h, hv⟩, ?_⟩
    rw [swrIVc L M a b n]
    exact swrIHolds L M a b n (of_decide_eq_true hp)
  · exact h.elim)
noncomputable def tab4 : Tab T O := (60, insICon) :: (94, swrICon) :: tab3
theorem tabOk4 : TabOk R Try.prog tab4 := TabOk.cons R insIOk <| TabOk.cons R swrIOk <| tabOk3
noncomputable def X4 : Ctx T O := { X0 with con := conOf tab4 }
theorem X4Ok : TabOk R X4.P tab4 := tabOk4
end Go.Proofs.Ythfggjfpokknlaa
