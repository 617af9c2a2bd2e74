/-
  Part of a proof over the seat Ytmnnjclnldaejaa: printed by a small program or typed by hand.
-/
import Derived.Test.YtmnnjclnldaejaaSupS15
import Derived.KernelRfl
namespace Go.Proofs.Ytmnnjclnldaejaa
open Go.Sx Go.Proofs Classical

def most64 : Int := 9223372036854775807
/-- a product, if it may be -/
def mulV (a b : Int) : Int := bif decide (a * b ≤ 9223372036854775807) then a * b else 0
def mulE (a b : Int) : Int := bif decide (a * b ≤ 9223372036854775807) then 0 else 16
def gcdI (a b : Int) : Int := (Nat.gcd a.toNat b.toNat : Nat)
/-- the least common multiple so far, if it may be -/
def lcmG : Int → List Int → Option Int
  | m, [] => some m
  | m, n :: l => bif decide (m / gcdI m n * n ≤ 9223372036854775807) then lcmG (m / gcdI m n * n) l else none
def lcmV (o : Option Int) : Int := match o with
  | some m => m
  | none => 0
def lcmE (o : Option Int) : Int := match o with
  | some _ => 0
  | none => 16
/-- so far, all fits -/
structure lcmI (L : List Int) (m : Int) (x : Nat) : Prop where
  le : x ≤ L.length
  lo : 1 ≤ m
  hi : m ≤ 9223372036854775807
  go : lcmG 1 L = lcmG m (L.drop x)
def Ones (L : List Int) : Prop := ∀ n ∈ L, 1 ≤ n ∧ n ≤ 9223372036854775807
theorem gcdI_pos {a b : Int} (h : 1 ≤ b) : 1 ≤ gcdI a b := by
  have : 0 < Nat.gcd a.toNat b.toNat := Nat.gcd_pos_of_pos_right _ (by omega)
  unfold gcdI
  omega
theorem gcdI_le {a b : Int} (h : 1 ≤ a) : gcdI a b ≤ a := by
  have : Nat.gcd a.toNat b.toNat ≤ a.toNat := Nat.gcd_le_left _ (by omega)
  unfold gcdI
  omega
theorem u64w (n : Int) : IntKind.u64.wrap n = n % 18446744073709551616 := rfl
theorem mulE_ok {a b : Int} (h : a * b ≤ 9223372036854775807) : mulE a b = 0 ∧ mulV a b = a * b := by
  unfold mulE mulV
  rw [decide_eq_true h]
  exact ⟨rfl, rfl⟩
theorem mulE_no {a b : Int} (h : ¬ a * b ≤ 9223372036854775807) : mulE a b = 16 ∧ mulV a b = 0 := by
  unfold mulE mulV
  rw [decide_eq_false h]
  exact ⟨rfl, rfl⟩
theorem lcmG_cons {m n : Int} {l : List Int} : lcmG m (n :: l) = bif decide (m / gcdI m n * n ≤ 9223372036854775807) then lcmG (m / gcdI m n * n) l else none := rfl
/-- a step -/
theorem lcmI.step {L : List Int} {m : Int} {x : Nat} (h : lcmI L m x) (hO : Ones L) (hx : x < L.length) :
    1 ≤ L[x] ∧ L[x] ≤ 9223372036854775807 ∧ 1 ≤ gcdI m L[x] ∧ 1 ≤ m / gcdI m L[x] ∧ m / gcdI m L[x] ≤ 9223372036854775807 ∧ 1 ≤ m / gcdI m L[x] * L[x] ∧
    ((m / gcdI m L[x] * L[x] ≤ 9223372036854775807 ∧ lcmI L (m / gcdI m L[x] * L[x]) (x + 1)) ∨ (¬ m / gcdI m L[x] * L[x] ≤ 9223372036854775807 ∧ lcmG 1 L = none)) := by
  obtain ⟨o1, o2⟩ := hO _ (List.getElem_mem hx)
  have g1 := gcdI_pos (a := m) o1
  have g2 := gcdI_le (b := L[x]) h.lo
  have h1 := h.lo
  have h2 := h.hi
  have q1 : 1 ≤ m / gcdI m L[x] := (Int.le_ediv_iff_mul_le (by omega)).2 (by omega)
  have q2 : m / gcdI m L[x] ≤ m := Int.ediv_le_self _ (by omega)
  have e := h.go
  rw [List.drop_eq_getElem_cons hx, lcmG_cons] at e
  have p1 : 1 * 1 ≤ m / gcdI m L[x] * L[x] := Int.mul_le_mul q1 o1 (by omega) (by omega)
  refine ⟨o1, o2, g1, q1, by omega, by omega, ?_⟩
  by_cases hm : m / gcdI m L[x] * L[x] ≤ 9223372036854775807
  · rw [decide_eq_true hm, cond_true] at e
    exact .inl ⟨hm, ⟨hx, by omega, hm, e⟩⟩
  · rw [decide_eq_false hm, cond_false] at e
    exact .inr ⟨hm, e⟩
theorem lcmI.init (L : List Int) : lcmI L 1 0 := ⟨Nat.zero_le _, by decide, by decide, rfl⟩
theorem lcmI.done {L : List Int} {m : Int} {x : Nat} (h : lcmI L m x) (hx : L.length ≤ x) : lcmG 1 L = some m := by
  rw [h.go, List.drop_of_length_le hx]
  rfl
theorem mask32 (n : Int) : bits .and .u64 n 4294967295 = n % 4294967296 := by
  have hc : (BitVec.ofInt 64 (4294967295 : Int)).toNat = 2 ^ 32 - 1 := by decide
  have key : (BitVec.ofInt 64 n &&& BitVec.ofInt 64 (4294967295 : Int)).toNat = (n % ((2 ^ 64 : Nat) : Int)).toNat % 2 ^ 32 := by
    rw [BitVec.toNat_and, BitVec.toNat_ofInt n, hc, Nat.and_two_pow_sub_one_eq_mod]
  show IntKind.u64.wrap ((BitVec.ofInt 64 n &&& BitVec.ofInt 64 (4294967295 : Int)).toNat : Nat) = n % 4294967296
  rw [key, u64w]
  omega
theorem mul64_hi (x1 x0 y1 y0 : Nat) (h1 : x1 < 4294967296) (h2 : x0 < 4294967296) (h3 : y1 < 4294967296) (h4 : y0 < 4294967296) :
    x1 * y1 + (x1 * y0 + x0 * y0 / 4294967296) / 4294967296 + ((x1 * y0 + x0 * y0 / 4294967296) % 4294967296 + x0 * y1) / 4294967296 = (x1 * 4294967296 + x0) * (y1 * 4294967296 + y0) / 18446744073709551616 ∧ x0 * y0 ≤ 18446744065119617025 ∧ x1 * y0 ≤ 18446744065119617025 ∧ x0 * y1 ≤ 18446744065119617025 ∧ x1 * y1 ≤ 18446744065119617025 := by
  have a1 : x0 * y0 ≤ 4294967295 * 4294967295 := Nat.mul_le_mul (by omega) (by omega)
  have a2 : x1 * y0 ≤ 4294967295 * 4294967295 := Nat.mul_le_mul (by omega) (by omega)
  have a3 : x0 * y1 ≤ 4294967295 * 4294967295 := Nat.mul_le_mul (by omega) (by omega)
  have a4 : x1 * y1 ≤ 4294967295 * 4294967295 := Nat.mul_le_mul (by omega) (by omega)
  have e : (x1 * 4294967296 + x0) * (y1 * 4294967296 + y0) = x1 * y1 * 18446744073709551616 + (x1 * y0 + x0 * y1) * 4294967296 + x0 * y0 := by
    rw [Nat.add_mul, Nat.mul_add, Nat.mul_add]
    have t1 : x1 * 4294967296 * (y1 * 4294967296) = x1 * y1 * (4294967296 * 4294967296) := Nat.mul_mul_mul_comm ..
    have t2 : x1 * 4294967296 * y0 = x1 * y0 * 4294967296 := Nat.mul_right_comm ..
    have t3 : x0 * (y1 * 4294967296) = x0 * y1 * 4294967296 := (Nat.mul_assoc ..).symm
    rw [t1, t2, t3]
    omega
  rw [e]
  generalize x0 * y0 = p at *
  generalize x1 * y0 = q at *
  generalize x0 * y1 = r at *
  generalize x1 * y1 = s at *
  omega

noncomputable def yGcdConN (nrec : Nat) : Con T O := fun args cs => match args, cs with
  | [.raw (.int .i64 a), .raw (.int .i64 b)], [] => chk (decide ((0 ≤ a ∧ a ≤ 9223372036854775807 ∧ 0 ≤ b ∧ b ≤ 9223372036854775807) ∧ (b.toNat) < nrec)) (.ret ⟨some (.tup [.raw (.int .i64 (gcdI a b)), .raw (.int .i64 0)]), []⟩)
  | _, _ => .fail
/-! ### regatta/exact.size -/
def xSizeText (a : Int) : Prop := (match (decide (a < (0 : Int))) with | true => (((a = IntKind.u64.wrap ((0 : Int) - IntKind.u64.wrap a)) ∧ True) ∧ True) | false => (((a = IntKind.u64.wrap a) ∧ True) ∧ True))
theorem xSizeVc (a : Int) : fnX X15 (noAnn) Try.f90 [.raw (.int .i64 a)] [] (ends [] ⟨some (.raw (.int .u64 a)), []⟩) = xSizeText a := by kernel_rfl
theorem xSizeHolds (a : Int) (hp : 0 ≤ a ∧ a ≤ 9223372036854775807) : xSizeText a := by
  unfold xSizeText
  obtain ⟨h0, h1⟩ := hp
  rw [decide_eq_false (show ¬ a < 0 by omega), u64_id h0 (by omega)]
  clear h0 h1
  repeat' first | apply And.intro | exact True.intro | exact rfl
noncomputable def xSizeCon : Con T O := fun args cs => match args, cs with
  | [.raw (.int .i64 a)], [] => chk (decide (0 ≤ a ∧ a ≤ 9223372036854775807)) (.ret ⟨some (.raw (.int .u64 a)), []⟩)
  | _, _ => .fail
theorem xSizeOk : ConOk R Try.prog 90 xSizeCon := con_of_fn R (X15) (TabOk.con R X15Ok) mixed Try.call90 Try.func90 xSizeCon (by
  intro args cs K h
  unfold xSizeCon at h
  split at h
  · rename_i a
    rw [Tree.holds_chk] at h
    obtain ⟨hp, h⟩ := h
    refine ⟨noAnn, _, fun v S hv => ⟨_, h, hv⟩, ?_⟩
    rw [xSizeVc a]
    exact xSizeHolds a (of_decide_eq_true hp)
  · exact h.elim)
/-! ### math/bits.Mul64 -/
def xMul64Text (a b : Int) : Prop := ((((a * b / (18446744073709551616 : Int) = IntKind.u64.wrap (IntKind.u64.wrap (IntKind.u64.wrap (a.fdiv ((2 : Int) ^ min (Int.toNat (32 : Int)) IntKind.u64.bits) * b.fdiv ((2 : Int) ^ min (Int.toNat (32 : Int)) IntKind.u64.bits)) + (IntKind.u64.wrap (IntKind.u64.wrap (a.fdiv ((2 : Int) ^ min (Int.toNat (32 : Int)) IntKind.u64.bits) * bits BinOp.and IntKind.u64 b (4294967295 : Int)) + (IntKind.u64.wrap (bits BinOp.and IntKind.u64 a (4294967295 : Int) * bits BinOp.and IntKind.u64 b (4294967295 : Int))).fdiv ((2 : Int) ^ min (Int.toNat (32 : Int)) IntKind.u64.bits))).fdiv ((2 : Int) ^ min (Int.toNat (32 : Int)) IntKind.u64.bits)) + (IntKind.u64.wrap (bits BinOp.and IntKind.u64 (IntKind.u64.wrap (IntKind.u64.wrap (a.fdiv ((2 : Int) ^ min (Int.toNat (32 : Int)) IntKind.u64.bits) * bits BinOp.and IntKind.u64 b (4294967295 : Int)) + (IntKind.u64.wrap (bits BinOp.and IntKind.u64 a (4294967295 : Int) * bits BinOp.and IntKind.u64 b (4294967295 : Int))).fdiv ((2 : Int) ^ min (Int.toNat (32 : Int)) IntKind.u64.bits))) (4294967295 : Int) + IntKind.u64.wrap (bits BinOp.and IntKind.u64 a (4294967295 : Int) * b.fdiv ((2 : Int) ^ min (Int.toNat (32 : Int)) IntKind.u64.bits)))).fdiv ((2 : Int) ^ min (Int.toNat (32 : Int)) IntKind.u64.bits))) ∧ ((a * b % (18446744073709551616 : Int) = IntKind.u64.wrap (a * b)) ∧ True)) ∧ True) ∧ True)
theorem xMul64Vc (a b : Int) : fnX X15 (noAnn) Try.f89 [.raw (.int .u64 a), .raw (.int .u64 b)] [] (ends [] ⟨some (.tup [.raw (.int .u64 (a * b / 18446744073709551616)), .raw (.int .u64 (a * b % 18446744073709551616))]), []⟩) = xMul64Text a b := by kernel_rfl
theorem xMul64Holds (a b : Int) (hp : 0 ≤ a ∧ a < 18446744073709551616 ∧ 0 ≤ b ∧ b < 18446744073709551616) : xMul64Text a b := by
  unfold xMul64Text
  obtain ⟨h0, h1, h2, h3⟩ := hp
  obtain ⟨a, rfl⟩ := Int.eq_ofNat_of_zero_le h0
  obtain ⟨b, rfl⟩ := Int.eq_ofNat_of_zero_le h2
  obtain ⟨x1, x0, g1, g2, rfl⟩ : ∃ x1 x0, x1 < 4294967296 ∧ x0 < 4294967296 ∧ a = x1 * 4294967296 + x0 := ⟨a / 4294967296, a % 4294967296, by omega, by omega, by omega⟩
  obtain ⟨y1, y0, g3, g4, rfl⟩ : ∃ y1 y0, y1 < 4294967296 ∧ y0 < 4294967296 ∧ b = y1 * 4294967296 + y0 := ⟨b / 4294967296, b % 4294967296, by omega, by omega, by omega⟩
  obtain ⟨k1, k2, k3, k4, k5⟩ := mul64_hi x1 x0 y1 y0 g1 g2 g3 g4
  simp only [shr32, mask32, u64w]
  rw [show ((x1 * 4294967296 + x0 : Nat) : Int) / 4294967296 = (x1 : Int) by omega, show ((x1 * 4294967296 + x0 : Nat) : Int) % 4294967296 = (x0 : Int) by omega, show ((y1 * 4294967296 + y0 : Nat) : Int) / 4294967296 = (y1 : Int) by omega, show ((y1 * 4294967296 + y0 : Nat) : Int) % 4294967296 = (y0 : Int) by omega]
  rw [← Int.natCast_mul, ← Int.natCast_mul, ← Int.natCast_mul, ← Int.natCast_mul, ← Int.natCast_mul]
  have e : (((x1 * 4294967296 + x0) * (y1 * 4294967296 + y0) : Nat) : Int) / 18446744073709551616 = ((x1 * y1 + (x1 * y0 + x0 * y0 / 4294967296) / 4294967296 + ((x1 * y0 + x0 * y0 / 4294967296) % 4294967296 + x0 * y1) / 4294967296 : Nat) : Int) := by rw [k1]; rfl
  rw [e]
  clear e k1 h0 h1 h2 h3
  generalize x0 * y0 = p at *
  generalize x1 * y0 = q at *
  generalize x0 * y1 = r at *
  generalize x1 * y1 = s at *
  refine ⟨⟨⟨?_, ?_⟩, trivial⟩, trivial⟩
  · omega
  · repeat' first | apply And.intro | exact True.intro | exact rfl
noncomputable def xMul64Con : Con T O := fun args cs => match args, cs with
  | [.raw (.int .u64 a), .raw (.int .u64 b)], [] => chk (decide (0 ≤ a ∧ a < 18446744073709551616 ∧ 0 ≤ b ∧ b < 18446744073709551616)) (.ret ⟨some (.tup [.raw (.int .u64 (a * b / 18446744073709551616)), .raw (.int .u64 (a * b % 18446744073709551616))]), []⟩)
  | _, _ => .fail
theorem xMul64Ok : ConOk R Try.prog 89 xMul64Con := con_of_fn R (X15) (TabOk.con R X15Ok) mixed Try.call89 Try.func89 xMul64Con (by
  intro args cs K h
  unfold xMul64Con at h
  split at h
  · rename_i a b
    rw [Tree.holds_chk] at h
    obtain ⟨hp, h⟩ := h
    refine ⟨noAnn, _, fun v S hv => ⟨_, h, hv⟩, ?_⟩
    rw [xMul64Vc a b]
    exact xMul64Holds a b (of_decide_eq_true hp)
  · exact h.elim)
/-! ### regatta/exact.Gcd -/
def xGcdText (a b : Int) : Prop := (match (decide (a < (0 : Int))) with | true => ((((gcdI a b = (0 : Int)) ∧ (((0 : Int) = (1 : Int)) ∧ True)) ∧ True) ∧ True) | false => (match (decide (b < (0 : Int))) with | true => ((((gcdI a b = (0 : Int)) ∧ (((0 : Int) = (1 : Int)) ∧ True)) ∧ True) ∧ True) | false => ((∃ x : Nat × Nat, (((x.fst ≤ (9223372036854775807 : Nat)) ∧ ((x.snd ≤ (9223372036854775807 : Nat)) ∧ (gcdI a b = (↑(x.fst.gcd x.snd) : Int)))) ∧ ((((↑x.fst : Int) = a) ∧ (((↑x.snd : Int) = b) ∧ True)) ∧ True))) ∧ (∀ x : Nat × Nat, (((x.fst ≤ (9223372036854775807 : Nat)) ∧ ((x.snd ≤ (9223372036854775807 : Nat)) ∧ (gcdI a b = (↑(x.fst.gcd x.snd) : Int)))) → (match ((↑x.snd : Int) != (0 : Int)) with | true => (match ((↑x.snd : Int) != (0 : Int)) with | true => (∃ x' : Nat × Nat, (((x'.fst ≤ (9223372036854775807 : Nat)) ∧ ((x'.snd ≤ (9223372036854775807 : Nat)) ∧ (gcdI a b = (↑(x'.fst.gcd x'.snd) : Int)))) ∧ ((x'.snd < x.snd) ∧ ((((↑x'.fst : Int) = (↑x.snd : Int)) ∧ (((↑x'.snd : Int) = (↑x.fst : Int).tmod (↑x.snd : Int)) ∧ True)) ∧ True)))) | false => False) | false => ((((gcdI a b = (↑x.fst : Int)) ∧ (((0 : Int) = (0 : Int)) ∧ True)) ∧ True) ∧ True)))))))
theorem xGcdVc (a b : Int) : fnX X15 (oneLoop 3 { σ := Nat × Nat, st := fun S x => ((S.keep []).int 0 x.1).int 1 x.2, inv := fun _ x => x.1 ≤ 9223372036854775807 ∧ x.2 ≤ 9223372036854775807 ∧ gcdI a b = (Nat.gcd x.1 x.2 : Nat), m := fun x => x.2 }) Try.f68 [.raw (.int .i64 a), .raw (.int .i64 b)] [] (ends [] ⟨some (.tup [.raw (.int .i64 (gcdI a b)), .raw (.int .i64 0)]), []⟩) = xGcdText a b := by kernel_rfl
theorem xGcdHolds (a b : Int) (hp : 0 ≤ a ∧ a ≤ 9223372036854775807 ∧ 0 ≤ b ∧ b ≤ 9223372036854775807) : xGcdText a b := by
  unfold xGcdText
  obtain ⟨h0, h1, h2, h3⟩ := hp
  obtain ⟨a, rfl⟩ := Int.eq_ofNat_of_zero_le h0
  obtain ⟨b, rfl⟩ := Int.eq_ofNat_of_zero_le h2
  rw [decide_eq_false (show ¬ (a : Int) < 0 by omega), decide_eq_false (show ¬ (b : Int) < 0 by omega)]
  refine ⟨⟨(a, b), ⟨by dsimp only; omega, by dsimp only; omega, rfl⟩, by repeat' first | trivial | rfl | apply And.intro⟩, ?_⟩
  rintro ⟨u, v⟩ ⟨i1, i2, i3⟩
  dsimp only at i1 i2 i3 ⊢
  by_cases h : v = 0
  · subst h
    rw [show (((0 : Nat) : Int) != 0) = false from rfl]
    have e : gcdI a b = (u : Int) := by rw [i3, Nat.gcd_zero_right]
    repeat' first | exact e | trivial | rfl | apply And.intro
  · rw [show ((v : Int) != 0) = true by rw [bne_iff_ne]; omega]
    have hm := Nat.mod_lt u (show 0 < v by omega)
    have e2 : ((u % v : Nat) : Int) = (u : Int).tmod (v : Int) := rfl
    refine ⟨(v, u % v), ⟨i2, by dsimp only; omega, ?_⟩, hm, ?_⟩
    · rw [i3]
      dsimp only
      rw [Nat.gcd_comm, Nat.gcd_rec, Nat.gcd_comm]
    · repeat' first | exact e2 | trivial | rfl | apply And.intro
noncomputable def xGcdCon : Con T O := fun args cs => match args, cs with
  | [.raw (.int .i64 a), .raw (.int .i64 b)], [] => chk (decide (0 ≤ a ∧ a ≤ 9223372036854775807 ∧ 0 ≤ b ∧ b ≤ 9223372036854775807)) (.ret ⟨some (.tup [.raw (.int .i64 (gcdI a b)), .raw (.int .i64 0)]), []⟩)
  | _, _ => .fail
theorem xGcdOk : ConOk R Try.prog 68 xGcdCon := con_of_fn R (X15) (TabOk.con R X15Ok) mixed Try.call68 Try.func68 xGcdCon (by
  intro args cs K h
  unfold xGcdCon at h
  split at h
  · rename_i a b
    rw [Tree.holds_chk] at h
    obtain ⟨hp, h⟩ := h
    refine ⟨oneLoop 3 { σ := Nat × Nat, st := fun S x => ((S.keep []).int 0 x.1).int 1 x.2, inv := fun _ x => x.1 ≤ 9223372036854775807 ∧ x.2 ≤ 9223372036854775807 ∧ gcdI a b = (Nat.gcd x.1 x.2 : Nat), m := fun x => x.2 }, _, fun v S hv => ⟨_, h, hv⟩, ?_⟩
    rw [xGcdVc a b]
    exact xGcdHolds a b (of_decide_eq_true hp)
  · exact h.elim)
/-! ### regatta/regattaref01.Gcd -/
def yGcdText (nrec : Nat) (a b : Int) : Prop := (match (decide (a < (0 : Int))) with | true => ((((gcdI a b = (0 : Int)) ∧ (((0 : Int) = (1 : Int)) ∧ True)) ∧ True) ∧ True) | false => (match (decide (b < (0 : Int))) with | true => ((((gcdI a b = (0 : Int)) ∧ (((0 : Int) = (1 : Int)) ∧ True)) ∧ True) ∧ True) | false => (match (b == (0 : Int)) with | true => ((((gcdI a b = a) ∧ (((0 : Int) = (0 : Int)) ∧ True)) ∧ True) ∧ True) | false => (match (b != (0 : Int)) with | true => (match (decide (((0 : Int) ≤ b ∧ b ≤ (9223372036854775807 : Int) ∧ (0 : Int) ≤ a.tmod b ∧ a.tmod b ≤ (9223372036854775807 : Int)) ∧ (a.tmod b).toNat < nrec)) with | true => ((((gcdI a b = gcdI b (a.tmod b)) ∧ (((0 : Int) = (0 : Int)) ∧ True)) ∧ True) ∧ True) | false => False) | false => False))))
theorem yGcdVc (nrec : Nat) (a b : Int) : fnX { X15 with con := conOf ((84, yGcdConN nrec) :: tab15) } (noAnn) Try.f84 [.raw (.int .i64 a), .raw (.int .i64 b)] [] (ends [] ⟨some (.tup [.raw (.int .i64 (gcdI a b)), .raw (.int .i64 0)]), []⟩) = yGcdText nrec a b := by kernel_rfl
theorem yGcdHolds (nrec : Nat) (a b : Int) (hp : 0 ≤ a ∧ a ≤ 9223372036854775807 ∧ 0 ≤ b ∧ b ≤ 9223372036854775807) (hr : b.toNat < nrec + 1) : yGcdText nrec a b := by
  unfold yGcdText
  obtain ⟨h0, h1, h2, h3⟩ := hp
  obtain ⟨a, rfl⟩ := Int.eq_ofNat_of_zero_le h0
  obtain ⟨b, rfl⟩ := Int.eq_ofNat_of_zero_le h2
  rw [Int.toNat_natCast] at hr
  rw [decide_eq_false (show ¬ (a : Int) < 0 by omega), decide_eq_false (show ¬ (b : Int) < 0 by omega)]
  by_cases h : b = 0
  · subst h
    rw [show (((0 : Nat) : Int) == 0) = true from rfl]
    have e : gcdI a ((0 : Nat) : Int) = (a : Int) := by
      show ((Nat.gcd a 0 : Nat) : Int) = _
      rw [Nat.gcd_zero_right]
    repeat' first | exact e | trivial | rfl | apply And.intro
  · have hm := Nat.mod_lt a (show 0 < b by omega)
    rw [show ((b : Int) == 0) = false by rw [beq_eq_false_iff_ne]; omega, show ((b : Int) != 0) = true by rw [bne_iff_ne]; omega, show (a : Int).tmod (b : Int) = ((a % b : Nat) : Int) from rfl, Int.toNat_natCast, decide_eq_true (⟨⟨h2, h3, by omega, by omega⟩, by omega⟩ : (0 ≤ (b : Int) ∧ (b : Int) ≤ 9223372036854775807 ∧ 0 ≤ ((a % b : Nat) : Int) ∧ ((a % b : Nat) : Int) ≤ 9223372036854775807) ∧ a % b < nrec)]
    have e : gcdI a b = gcdI b ((a % b : Nat) : Int) := by
      show ((Nat.gcd a b : Nat) : Int) = ((Nat.gcd b (a % b) : Nat) : Int)
      rw [Nat.gcd_comm, Nat.gcd_rec, Nat.gcd_comm]
    repeat' first | exact e | trivial | rfl | apply And.intro
noncomputable def yGcdCon : Con T O := fun args cs => match args, cs with
  | [.raw (.int .i64 a), .raw (.int .i64 b)], [] => chk (decide (0 ≤ a ∧ a ≤ 9223372036854775807 ∧ 0 ≤ b ∧ b ≤ 9223372036854775807)) (.ret ⟨some (.tup [.raw (.int .i64 (gcdI a b)), .raw (.int .i64 0)]), []⟩)
  | _, _ => .fail
theorem yGcdOkN : ∀ nrec, ConOk R Try.prog 84 (yGcdConN nrec)
  | 0 => by
    intro args cs K h
    exfalso
    unfold yGcdConN at h
    split at h <;> first | exact h.elim | (rw [Tree.holds_chk] at h; exact Nat.not_lt_zero _ (of_decide_eq_true h.1).2)
  | nrec + 1 => con_of_fn R ({ X15 with con := conOf ((84, yGcdConN nrec) :: tab15) }) (TabOk.con R (TabOk.cons R ((yGcdOkN nrec)) X15Ok)) mixed Try.call84 Try.func84 (yGcdConN (nrec + 1)) (by
    intro args cs K h
    unfold yGcdConN at h
    split at h
    · rename_i a b
      rw [Tree.holds_chk] at h
      obtain ⟨hp, h⟩ := h
      obtain ⟨hp, hr⟩ := of_decide_eq_true hp
      refine ⟨noAnn, _, fun v S hv => ⟨_, h, hv⟩, ?_⟩
      rw [yGcdVc nrec a b]
      exact yGcdHolds nrec a b hp hr
    · exact h.elim)
theorem yGcdOk : ConOk R Try.prog 84 yGcdCon := by
  intro args cs K h
  unfold yGcdCon at h
  split at h
  · rename_i a b
    rw [Tree.holds_chk] at h
    refine yGcdOkN (b.toNat + 1) _ _ K ?_
    unfold yGcdConN
    show Tree.holds K (chk _ _)
    rw [Tree.holds_chk]
    exact ⟨decide_eq_true ⟨of_decide_eq_true h.1, Nat.lt_succ_self _⟩, h.2⟩
  · exact h.elim
/-! ### regatta/regattaref01.Mul -/
def yMulText (a b : Int) : Prop := (match (a == (0 : Int)) with | true => ((((mulV a b = (0 : Int)) ∧ ((mulE a b = (0 : Int)) ∧ True)) ∧ True) ∧ True) | false => (match (b == (0 : Int)) with | true => ((((mulV a b = (0 : Int)) ∧ ((mulE a b = (0 : Int)) ∧ True)) ∧ True) ∧ True) | false => (match (decide (a > (0 : Int))) with | true => (match (decide (b > (0 : Int))) with | true => (match (b != (0 : Int)) with | true => (match (decide (a > IntKind.i64.wrap (Int.tdiv (9223372036854775807 : Int) b))) with | true => ((((mulV a b = (0 : Int)) ∧ ((mulE a b = (16 : Int)) ∧ True)) ∧ True) ∧ True) | false => (match (decide (a < (0 : Int))) with | true => (match (decide (b < (0 : Int))) with | true => (match (b != (0 : Int)) with | true => (match (decide (a < IntKind.i64.wrap (Int.tdiv (9223372036854775807 : Int) b))) with | true => ((((mulV a b = (0 : Int)) ∧ ((mulE a b = (16 : Int)) ∧ True)) ∧ True) ∧ True) | false => (match (decide (a > (0 : Int))) with | true => (match (decide (b < (0 : Int))) with | true => (match (a != (0 : Int)) with | true => (match (decide (b < IntKind.i64.wrap ((-9223372036854775808 : Int).tdiv a))) with | true => ((((mulV a b = (0 : Int)) ∧ ((mulE a b = (16 : Int)) ∧ True)) ∧ True) ∧ True) | false => (match (decide (a < (0 : Int))) with | true => (match (decide (b > (0 : Int))) with | true => (match (b != (0 : Int)) with | true => (match (decide (a < IntKind.i64.wrap ((-9223372036854775808 : Int).tdiv b))) with | true => ((((mulV a b = (0 : Int)) ∧ ((mulE a b = (16 : Int)) ∧ True)) ∧ True) ∧ True) | false => ((((mulV a b = IntKind.i64.wrap (a * b)) ∧ ((mulE a b = (0 : Int)) ∧ True)) ∧ True) ∧ True)) | false => False) | false => ((((mulV a b = IntKind.i64.wrap (a * b)) ∧ ((mulE a b = (0 : Int)) ∧ True)) ∧ True) ∧ True)) | false => ((((mulV a b = IntKind.i64.wrap (a * b)) ∧ ((mulE a b = (0 : Int)) ∧ True)) ∧ True) ∧ True))) | false => False) | false => (match (decide (a < (0 : Int))) with | true => (match (decide (b > (0 : Int))) with | true => (match (b != (0 : Int)) with | true => (match (decide (a < IntKind.i64.wrap ((-9223372036854775808 : Int).tdiv b))) with | true => ((((mulV a b = (0 : Int)) ∧ ((mulE a b = (16 : Int)) ∧ True)) ∧ True) ∧ True) | false => ((((mulV a b = IntKind.i64.wrap (a * b)) ∧ ((mulE a b = (0 : Int)) ∧ True)) ∧ True) ∧ True)) | false => False) | false => ((((mulV a b = IntKind.i64.wrap (a * b)) ∧ ((mulE a b = (0 : Int)) ∧ True)) ∧ True) ∧ True)) | false => ((((mulV a b = IntKind.i64.wrap (a * b)) ∧ ((mulE a b = (0 : Int)) ∧ True)) ∧ True) ∧ True))) | false => (match (decide (a < (0 : Int))) with | true => (match (decide (b > (0 : Int))) with | true => (match (b != (0 : Int)) with | true => (match (decide (a < IntKind.i64.wrap ((-9223372036854775808 : Int).tdiv b))) with | true => ((((mulV a b = (0 : Int)) ∧ ((mulE a b = (16 : Int)) ∧ True)) ∧ True) ∧ True) | false => ((((mulV a b = IntKind.i64.wrap (a * b)) ∧ ((mulE a b = (0 : Int)) ∧ True)) ∧ True) ∧ True)) | false => False) | false => ((((mulV a b = IntKind.i64.wrap (a * b)) ∧ ((mulE a b = (0 : Int)) ∧ True)) ∧ True) ∧ True)) | false => ((((mulV a b = IntKind.i64.wrap (a * b)) ∧ ((mulE a b = (0 : Int)) ∧ True)) ∧ True) ∧ True)))) | false => False) | false => (match (decide (a > (0 : Int))) with | true => (match (decide (b < (0 : Int))) with | true => (match (a != (0 : Int)) with | true => (match (decide (b < IntKind.i64.wrap ((-9223372036854775808 : Int).tdiv a))) with | true => ((((mulV a b = (0 : Int)) ∧ ((mulE a b = (16 : Int)) ∧ True)) ∧ True) ∧ True) | false => (match (decide (a < (0 : Int))) with | true => (match (decide (b > (0 : Int))) with | true => (match (b != (0 : Int)) with | true => (match (decide (a < IntKind.i64.wrap ((-9223372036854775808 : Int).tdiv b))) with | true => ((((mulV a b = (0 : Int)) ∧ ((mulE a b = (16 : Int)) ∧ True)) ∧ True) ∧ True) | false => ((((mulV a b = IntKind.i64.wrap (a * b)) ∧ ((mulE a b = (0 : Int)) ∧ True)) ∧ True) ∧ True)) | false => False) | false => ((((mulV a b = IntKind.i64.wrap (a * b)) ∧ ((mulE a b = (0 : Int)) ∧ True)) ∧ True) ∧ True)) | false => ((((mulV a b = IntKind.i64.wrap (a * b)) ∧ ((mulE a b = (0 : Int)) ∧ True)) ∧ True) ∧ True))) | false => False) | false => (match (decide (a < (0 : Int))) with | true => (match (decide (b > (0 : Int))) with | true => (match (b != (0 : Int)) with | true => (match (decide (a < IntKind.i64.wrap ((-9223372036854775808 : Int).tdiv b))) with | true => ((((mulV a b = (0 : Int)) ∧ ((mulE a b = (16 : Int)) ∧ True)) ∧ True) ∧ True) | false => ((((mulV a b = IntKind.i64.wrap (a * b)) ∧ ((mulE a b = (0 : Int)) ∧ True)) ∧ True) ∧ True)) | false => False) | false => ((((mulV a b = IntKind.i64.wrap (a * b)) ∧ ((mulE a b = (0 : Int)) ∧ True)) ∧ True) ∧ True)) | false => ((((mulV a b = IntKind.i64.wrap (a * b)) ∧ ((mulE a b = (0 : Int)) ∧ True)) ∧ True) ∧ True))) | false => (match (decide (a < (0 : Int))) with | true => (match (decide (b > (0 : Int))) with | true => (match (b != (0 : Int)) with | true => (match (decide (a < IntKind.i64.wrap ((-9223372036854775808 : Int).tdiv b))) with | true => ((((mulV a b = (0 : Int)) ∧ ((mulE a b = (16 : Int)) ∧ True)) ∧ True) ∧ True) | false => ((((mulV a b = IntKind.i64.wrap (a * b)) ∧ ((mulE a b = (0 : Int)) ∧ True)) ∧ True) ∧ True)) | false => False) | false => ((((mulV a b = IntKind.i64.wrap (a * b)) ∧ ((mulE a b = (0 : Int)) ∧ True)) ∧ True) ∧ True)) | false => ((((mulV a b = IntKind.i64.wrap (a * b)) ∧ ((mulE a b = (0 : Int)) ∧ True)) ∧ True) ∧ True)))) | false => (match (decide (a > (0 : Int))) with | true => (match (decide (b < (0 : Int))) with | true => (match (a != (0 : Int)) with | true => (match (decide (b < IntKind.i64.wrap ((-9223372036854775808 : Int).tdiv a))) with | true => ((((mulV a b = (0 : Int)) ∧ ((mulE a b = (16 : Int)) ∧ True)) ∧ True) ∧ True) | false => (match (decide (a < (0 : Int))) with | true => (match (decide (b > (0 : Int))) with | true => (match (b != (0 : Int)) with | true => (match (decide (a < IntKind.i64.wrap ((-9223372036854775808 : Int).tdiv b))) with | true => ((((mulV a b = (0 : Int)) ∧ ((mulE a b = (16 : Int)) ∧ True)) ∧ True) ∧ True) | false => ((((mulV a b = IntKind.i64.wrap (a * b)) ∧ ((mulE a b = (0 : Int)) ∧ True)) ∧ True) ∧ True)) | false => False) | false => ((((mulV a b = IntKind.i64.wrap (a * b)) ∧ ((mulE a b = (0 : Int)) ∧ True)) ∧ True) ∧ True)) | false => ((((mulV a b = IntKind.i64.wrap (a * b)) ∧ ((mulE a b = (0 : Int)) ∧ True)) ∧ True) ∧ True))) | false => False) | false => (match (decide (a < (0 : Int))) with | true => (match (decide (b > (0 : Int))) with | true => (match (b != (0 : Int)) with | true => (match (decide (a < IntKind.i64.wrap ((-9223372036854775808 : Int).tdiv b))) with | true => ((((mulV a b = (0 : Int)) ∧ ((mulE a b = (16 : Int)) ∧ True)) ∧ True) ∧ True) | false => ((((mulV a b = IntKind.i64.wrap (a * b)) ∧ ((mulE a b = (0 : Int)) ∧ True)) ∧ True) ∧ True)) | false => False) | false => ((((mulV a b = IntKind.i64.wrap (a * b)) ∧ ((mulE a b = (0 : Int)) ∧ True)) ∧ True) ∧ True)) | false => ((((mulV a b = IntKind.i64.wrap (a * b)) ∧ ((mulE a b = (0 : Int)) ∧ True)) ∧ True) ∧ True))) | false => (match (decide (a < (0 : Int))) with | true => (match (decide (b > (0 : Int))) with | true => (match (b != (0 : Int)) with | true => (match (decide (a < IntKind.i64.wrap ((-9223372036854775808 : Int).tdiv b))) with | true => ((((mulV a b = (0 : Int)) ∧ ((mulE a b = (16 : Int)) ∧ True)) ∧ True) ∧ True) | false => ((((mulV a b = IntKind.i64.wrap (a * b)) ∧ ((mulE a b = (0 : Int)) ∧ True)) ∧ True) ∧ True)) | false => False) | false => ((((mulV a b = IntKind.i64.wrap (a * b)) ∧ ((mulE a b = (0 : Int)) ∧ True)) ∧ True) ∧ True)) | false => ((((mulV a b = IntKind.i64.wrap (a * b)) ∧ ((mulE a b = (0 : Int)) ∧ True)) ∧ True) ∧ True))))) | false => False) | false => (match (decide (a < (0 : Int))) with | true => (match (decide (b < (0 : Int))) with | true => (match (b != (0 : Int)) with | true => (match (decide (a < IntKind.i64.wrap (Int.tdiv (9223372036854775807 : Int) b))) with | true => ((((mulV a b = (0 : Int)) ∧ ((mulE a b = (16 : Int)) ∧ True)) ∧ True) ∧ True) | false => (match (decide (a > (0 : Int))) with | true => (match (decide (b < (0 : Int))) with | true => (match (a != (0 : Int)) with | true => (match (decide (b < IntKind.i64.wrap ((-9223372036854775808 : Int).tdiv a))) with | true => ((((mulV a b = (0 : Int)) ∧ ((mulE a b = (16 : Int)) ∧ True)) ∧ True) ∧ True) | false => (match (decide (a < (0 : Int))) with | true => (match (decide (b > (0 : Int))) with | true => (match (b != (0 : Int)) with | true => (match (decide (a < IntKind.i64.wrap ((-9223372036854775808 : Int).tdiv b))) with | true => ((((mulV a b = (0 : Int)) ∧ ((mulE a b = (16 : Int)) ∧ True)) ∧ True) ∧ True) | false => ((((mulV a b = IntKind.i64.wrap (a * b)) ∧ ((mulE a b = (0 : Int)) ∧ True)) ∧ True) ∧ True)) | false => False) | false => ((((mulV a b = IntKind.i64.wrap (a * b)) ∧ ((mulE a b = (0 : Int)) ∧ True)) ∧ True) ∧ True)) | false => ((((mulV a b = IntKind.i64.wrap (a * b)) ∧ ((mulE a b = (0 : Int)) ∧ True)) ∧ True) ∧ True))) | false => False) | false => (match (decide (a < (0 : Int))) with | true => (match (decide (b > (0 : Int))) with | true => (match (b != (0 : Int)) with | true => (match (decide (a < IntKind.i64.wrap ((-9223372036854775808 : Int).tdiv b))) with | true => ((((mulV a b = (0 : Int)) ∧ ((mulE a b = (16 : Int)) ∧ True)) ∧ True) ∧ True) | false => ((((mulV a b = IntKind.i64.wrap (a * b)) ∧ ((mulE a b = (0 : Int)) ∧ True)) ∧ True) ∧ True)) | false => False) | false => ((((mulV a b = IntKind.i64.wrap (a * b)) ∧ ((mulE a b = (0 : Int)) ∧ True)) ∧ True) ∧ True)) | false => ((((mulV a b = IntKind.i64.wrap (a * b)) ∧ ((mulE a b = (0 : Int)) ∧ True)) ∧ True) ∧ True))) | false => (match (decide (a < (0 : Int))) with | true => (match (decide (b > (0 : Int))) with | true => (match (b != (0 : Int)) with | true => (match (decide (a < IntKind.i64.wrap ((-9223372036854775808 : Int).tdiv b))) with | true => ((((mulV a b = (0 : Int)) ∧ ((mulE a b = (16 : Int)) ∧ True)) ∧ True) ∧ True) | false => ((((mulV a b = IntKind.i64.wrap (a * b)) ∧ ((mulE a b = (0 : Int)) ∧ True)) ∧ True) ∧ True)) | false => False) | false => ((((mulV a b = IntKind.i64.wrap (a * b)) ∧ ((mulE a b = (0 : Int)) ∧ True)) ∧ True) ∧ True)) | false => ((((mulV a b = IntKind.i64.wrap (a * b)) ∧ ((mulE a b = (0 : Int)) ∧ True)) ∧ True) ∧ True)))) | false => False) | false => (match (decide (a > (0 : Int))) with | true => (match (decide (b < (0 : Int))) with | true => (match (a != (0 : Int)) with | true => (match (decide (b < IntKind.i64.wrap ((-9223372036854775808 : Int).tdiv a))) with | true => ((((mulV a b = (0 : Int)) ∧ ((mulE a b = (16 : Int)) ∧ True)) ∧ True) ∧ True) | false => (match (decide (a < (0 : Int))) with | true => (match (decide (b > (0 : Int))) with | true => (match (b != (0 : Int)) with | true => (match (decide (a < IntKind.i64.wrap ((-9223372036854775808 : Int).tdiv b))) with | true => ((((mulV a b = (0 : Int)) ∧ ((mulE a b = (16 : Int)) ∧ True)) ∧ True) ∧ True) | false => ((((mulV a b = IntKind.i64.wrap (a * b)) ∧ ((mulE a b = (0 : Int)) ∧ True)) ∧ True) ∧ True)) | false => False) | false => ((((mulV a b = IntKind.i64.wrap (a * b)) ∧ ((mulE a b = (0 : Int)) ∧ True)) ∧ True) ∧ True)) | false => ((((mulV a b = IntKind.i64.wrap (a * b)) ∧ ((mulE a b = (0 : Int)) ∧ True)) ∧ True) ∧ True))) | false => False) | false => (match (decide (a < (0 : Int))) with | true => (match (decide (b > (0 : Int))) with | true => (match (b != (0 : Int)) with | true => (match (decide (a < IntKind.i64.wrap ((-9223372036854775808 : Int).tdiv b))) with | true => ((((mulV a b = (0 : Int)) ∧ ((mulE a b = (16 : Int)) ∧ True)) ∧ True) ∧ True) | false => ((((mulV a b = IntKind.i64.wrap (a * b)) ∧ ((mulE a b = (0 : Int)) ∧ True)) ∧ True) ∧ True)) | false => False) | false => ((((mulV a b = IntKind.i64.wrap (a * b)) ∧ ((mulE a b = (0 : Int)) ∧ True)) ∧ True) ∧ True)) | false => ((((mulV a b = IntKind.i64.wrap (a * b)) ∧ ((mulE a b = (0 : Int)) ∧ True)) ∧ True) ∧ True))) | false => (match (decide (a < (0 : Int))) with | true => (match (decide (b > (0 : Int))) with | true => (match (b != (0 : Int)) with | true => (match (decide (a < IntKind.i64.wrap ((-9223372036854775808 : Int).tdiv b))) with | true => ((((mulV a b = (0 : Int)) ∧ ((mulE a b = (16 : Int)) ∧ True)) ∧ True) ∧ True) | false => ((((mulV a b = IntKind.i64.wrap (a * b)) ∧ ((mulE a b = (0 : Int)) ∧ True)) ∧ True) ∧ True)) | false => False) | false => ((((mulV a b = IntKind.i64.wrap (a * b)) ∧ ((mulE a b = (0 : Int)) ∧ True)) ∧ True) ∧ True)) | false => ((((mulV a b = IntKind.i64.wrap (a * b)) ∧ ((mulE a b = (0 : Int)) ∧ True)) ∧ True) ∧ True)))) | false => (match (decide (a > (0 : Int))) with | true => (match (decide (b < (0 : Int))) with | true => (match (a != (0 : Int)) with | true => (match (decide (b < IntKind.i64.wrap ((-9223372036854775808 : Int).tdiv a))) with | true => ((((mulV a b = (0 : Int)) ∧ ((mulE a b = (16 : Int)) ∧ True)) ∧ True) ∧ True) | false => (match (decide (a < (0 : Int))) with | true => (match (decide (b > (0 : Int))) with | true => (match (b != (0 : Int)) with | true => (match (decide (a < IntKind.i64.wrap ((-9223372036854775808 : Int).tdiv b))) with | true => ((((mulV a b = (0 : Int)) ∧ ((mulE a b = (16 : Int)) ∧ True)) ∧ True) ∧ True) | false => ((((mulV a b = IntKind.i64.wrap (a * b)) ∧ ((mulE a b = (0 : Int)) ∧ True)) ∧ True) ∧ True)) | false => False) | false => ((((mulV a b = IntKind.i64.wrap (a * b)) ∧ ((mulE a b = (0 : Int)) ∧ True)) ∧ True) ∧ True)) | false => ((((mulV a b = IntKind.i64.wrap (a * b)) ∧ ((mulE a b = (0 : Int)) ∧ True)) ∧ True) ∧ True))) | false => False) | false => (match (decide (a < (0 : Int))) with | true => (match (decide (b > (0 : Int))) with | true => (match (b != (0 : Int)) with | true => (match (decide (a < IntKind.i64.wrap ((-9223372036854775808 : Int).tdiv b))) with | true => ((((mulV a b = (0 : Int)) ∧ ((mulE a b = (16 : Int)) ∧ True)) ∧ True) ∧ True) | false => ((((mulV a b = IntKind.i64.wrap (a * b)) ∧ ((mulE a b = (0 : Int)) ∧ True)) ∧ True) ∧ True)) | false => False) | false => ((((mulV a b = IntKind.i64.wrap (a * b)) ∧ ((mulE a b = (0 : Int)) ∧ True)) ∧ True) ∧ True)) | false => ((((mulV a b = IntKind.i64.wrap (a * b)) ∧ ((mulE a b = (0 : Int)) ∧ True)) ∧ True) ∧ True))) | false => (match (decide (a < (0 : Int))) with | true => (match (decide (b > (0 : Int))) with | true => (match (b != (0 : Int)) with | true => (match (decide (a < IntKind.i64.wrap ((-9223372036854775808 : Int).tdiv b))) with | true => ((((mulV a b = (0 : Int)) ∧ ((mulE a b = (16 : Int)) ∧ True)) ∧ True) ∧ True) | false => ((((mulV a b = IntKind.i64.wrap (a * b)) ∧ ((mulE a b = (0 : Int)) ∧ True)) ∧ True) ∧ True)) | false => False) | false => ((((mulV a b = IntKind.i64.wrap (a * b)) ∧ ((mulE a b = (0 : Int)) ∧ True)) ∧ True) ∧ True)) | false => ((((mulV a b = IntKind.i64.wrap (a * b)) ∧ ((mulE a b = (0 : Int)) ∧ True)) ∧ True) ∧ True))))) | false => (match (decide (a < (0 : Int))) with | true => (match (decide (b < (0 : Int))) with | true => (match (b != (0 : Int)) with | true => (match (decide (a < IntKind.i64.wrap (Int.tdiv (9223372036854775807 : Int) b))) with | true => ((((mulV a b = (0 : Int)) ∧ ((mulE a b = (16 : Int)) ∧ True)) ∧ True) ∧ True) | false => (match (decide (a > (0 : Int))) with | true => (match (decide (b < (0 : Int))) with | true => (match (a != (0 : Int)) with | true => (match (decide (b < IntKind.i64.wrap ((-9223372036854775808 : Int).tdiv a))) with | true => ((((mulV a b = (0 : Int)) ∧ ((mulE a b = (16 : Int)) ∧ True)) ∧ True) ∧ True) | false => (match (decide (a < (0 : Int))) with | true => (match (decide (b > (0 : Int))) with | true => (match (b != (0 : Int)) with | true => (match (decide (a < IntKind.i64.wrap ((-9223372036854775808 : Int).tdiv b))) with | true => ((((mulV a b = (0 : Int)) ∧ ((mulE a b = (16 : Int)) ∧ True)) ∧ True) ∧ True) | false => ((((mulV a b = IntKind.i64.wrap (a * b)) ∧ ((mulE a b = (0 : Int)) ∧ True)) ∧ True) ∧ True)) | false => False) | false => ((((mulV a b = IntKind.i64.wrap (a * b)) ∧ ((mulE a b = (0 : Int)) ∧ True)) ∧ True) ∧ True)) | false => ((((mulV a b = IntKind.i64.wrap (a * b)) ∧ ((mulE a b = (0 : Int)) ∧ True)) ∧ True) ∧ True))) | false => False) | false => (match (decide (a < (0 : Int))) with | true => (match (decide (b > (0 : Int))) with | true => (match (b != (0 : Int)) with | true => (match (decide (a < IntKind.i64.wrap ((-9223372036854775808 : Int).tdiv b))) with | true => ((((mulV a b = (0 : Int)) ∧ ((mulE a b = (16 : Int)) ∧ True)) ∧ True) ∧ True) | false => ((((mulV a b = IntKind.i64.wrap (a * b)) ∧ ((mulE a b = (0 : Int)) ∧ True)) ∧ True) ∧ True)) | false => False) | false => ((((mulV a b = IntKind.i64.wrap (a * b)) ∧ ((mulE a b = (0 : Int)) ∧ True)) ∧ True) ∧ True)) | false => ((((mulV a b = IntKind.i64.wrap (a * b)) ∧ ((mulE a b = (0 : Int)) ∧ True)) ∧ True) ∧ True))) | false => (match (decide (a < (0 : Int))) with | true => (match (decide (b > (0 : Int))) with | true => (match (b != (0 : Int)) with | true => (match (decide (a < IntKind.i64.wrap ((-9223372036854775808 : Int).tdiv b))) with | true => ((((mulV a b = (0 : Int)) ∧ ((mulE a b = (16 : Int)) ∧ True)) ∧ True) ∧ True) | false => ((((mulV a b = IntKind.i64.wrap (a * b)) ∧ ((mulE a b = (0 : Int)) ∧ True)) ∧ True) ∧ True)) | false => False) | false => ((((mulV a b = IntKind.i64.wrap (a * b)) ∧ ((mulE a b = (0 : Int)) ∧ True)) ∧ True) ∧ True)) | false => ((((mulV a b = IntKind.i64.wrap (a * b)) ∧ ((mulE a b = (0 : Int)) ∧ True)) ∧ True) ∧ True)))) | false => False) | false => (match (decide (a > (0 : Int))) with | true => (match (decide (b < (0 : Int))) with | true => (match (a != (0 : Int)) with | true => (match (decide (b < IntKind.i64.wrap ((-9223372036854775808 : Int).tdiv a))) with | true => ((((mulV a b = (0 : Int)) ∧ ((mulE a b = (16 : Int)) ∧ True)) ∧ True) ∧ True) | false => (match (decide (a < (0 : Int))) with | true => (match (decide (b > (0 : Int))) with | true => (match (b != (0 : Int)) with | true => (match (decide (a < IntKind.i64.wrap ((-9223372036854775808 : Int).tdiv b))) with | true => ((((mulV a b = (0 : Int)) ∧ ((mulE a b = (16 : Int)) ∧ True)) ∧ True) ∧ True) | false => ((((mulV a b = IntKind.i64.wrap (a * b)) ∧ ((mulE a b = (0 : Int)) ∧ True)) ∧ True) ∧ True)) | false => False) | false => ((((mulV a b = IntKind.i64.wrap (a * b)) ∧ ((mulE a b = (0 : Int)) ∧ True)) ∧ True) ∧ True)) | false => ((((mulV a b = IntKind.i64.wrap (a * b)) ∧ ((mulE a b = (0 : Int)) ∧ True)) ∧ True) ∧ True))) | false => False) | false => (match (decide (a < (0 : Int))) with | true => (match (decide (b > (0 : Int))) with | true => (match (b != (0 : Int)) with | true => (match (decide (a < IntKind.i64.wrap ((-9223372036854775808 : Int).tdiv b))) with | true => ((((mulV a b = (0 : Int)) ∧ ((mulE a b = (16 : Int)) ∧ True)) ∧ True) ∧ True) | false => ((((mulV a b = IntKind.i64.wrap (a * b)) ∧ ((mulE a b = (0 : Int)) ∧ True)) ∧ True) ∧ True)) | false => False) | false => ((((mulV a b = IntKind.i64.wrap (a * b)) ∧ ((mulE a b = (0 : Int)) ∧ True)) ∧ True) ∧ True)) | false => ((((mulV a b = IntKind.i64.wrap (a * b)) ∧ ((mulE a b = (0 : Int)) ∧ True)) ∧ True) ∧ True))) | false => (match (decide (a < (0 : Int))) with | true => (match (decide (b > (0 : Int))) with | true => (match (b != (0 : Int)) with | true => (match (decide (a < IntKind.i64.wrap ((-9223372036854775808 : Int).tdiv b))) with | true => ((((mulV a b = (0 : Int)) ∧ ((mulE a b = (16 : Int)) ∧ True)) ∧ True) ∧ True) | false => ((((mulV a b = IntKind.i64.wrap (a * b)) ∧ ((mulE a b = (0 : Int)) ∧ True)) ∧ True) ∧ True)) | false => False) | false => ((((mulV a b = IntKind.i64.wrap (a * b)) ∧ ((mulE a b = (0 : Int)) ∧ True)) ∧ True) ∧ True)) | false => ((((mulV a b = IntKind.i64.wrap (a * b)) ∧ ((mulE a b = (0 : Int)) ∧ True)) ∧ True) ∧ True)))) | false => (match (decide (a > (0 : Int))) with | true => (match (decide (b < (0 : Int))) with | true => (match (a != (0 : Int)) with | true => (match (decide (b < IntKind.i64.wrap ((-9223372036854775808 : Int).tdiv a))) with | true => ((((mulV a b = (0 : Int)) ∧ ((mulE a b = (16 : Int)) ∧ True)) ∧ True) ∧ True) | false => (match (decide (a < (0 : Int))) with | true => (match (decide (b > (0 : Int))) with | true => (match (b != (0 : Int)) with | true => (match (decide (a < IntKind.i64.wrap ((-9223372036854775808 : Int).tdiv b))) with | true => ((((mulV a b = (0 : Int)) ∧ ((mulE a b = (16 : Int)) ∧ True)) ∧ True) ∧ True) | false => ((((mulV a b = IntKind.i64.wrap (a * b)) ∧ ((mulE a b = (0 : Int)) ∧ True)) ∧ True) ∧ True)) | false => False) | false => ((((mulV a b = IntKind.i64.wrap (a * b)) ∧ ((mulE a b = (0 : Int)) ∧ True)) ∧ True) ∧ True)) | false => ((((mulV a b = IntKind.i64.wrap (a * b)) ∧ ((mulE a b = (0 : Int)) ∧ True)) ∧ True) ∧ True))) | false => False) | false => (match (decide (a < (0 : Int))) with | true => (match (decide (b > (0 : Int))) with | true => (match (b != (0 : Int)) with | true => (match (decide (a < IntKind.i64.wrap ((-9223372036854775808 : Int).tdiv b))) with | true => ((((mulV a b = (0 : Int)) ∧ ((mulE a b = (16 : Int)) ∧ True)) ∧ True) ∧ True) | false => ((((mulV a b = IntKind.i64.wrap (a * b)) ∧ ((mulE a b = (0 : Int)) ∧ True)) ∧ True) ∧ True)) | false => False) | false => ((((mulV a b = IntKind.i64.wrap (a * b)) ∧ ((mulE a b = (0 : Int)) ∧ True)) ∧ True) ∧ True)) | false => ((((mulV a b = IntKind.i64.wrap (a * b)) ∧ ((mulE a b = (0 : Int)) ∧ True)) ∧ True) ∧ True))) | false => (match (decide (a < (0 : Int))) with | true => (match (decide (b > (0 : Int))) with | true => (match (b != (0 : Int)) with | true => (match (decide (a < IntKind.i64.wrap ((-9223372036854775808 : Int).tdiv b))) with | true => ((((mulV a b = (0 : Int)) ∧ ((mulE a b = (16 : Int)) ∧ True)) ∧ True) ∧ True) | false => ((((mulV a b = IntKind.i64.wrap (a * b)) ∧ ((mulE a b = (0 : Int)) ∧ True)) ∧ True) ∧ True)) | false => False) | false => ((((mulV a b = IntKind.i64.wrap (a * b)) ∧ ((mulE a b = (0 : Int)) ∧ True)) ∧ True) ∧ True)) | false => ((((mulV a b = IntKind.i64.wrap (a * b)) ∧ ((mulE a b = (0 : Int)) ∧ True)) ∧ True) ∧ True)))))))
theorem yMulVc (a b : Int) : fnX X15 (noAnn) Try.f85 [.raw (.int .i64 a), .raw (.int .i64 b)] [] (ends [] ⟨some (.tup [.raw (.int .i64 (mulV a b)), .raw (.int .i64 (mulE a b))]), []⟩) = yMulText a b := by kernel_rfl
theorem yMulHolds (a b : Int) (hp : 0 ≤ a ∧ a ≤ 9223372036854775807 ∧ 0 ≤ b ∧ b ≤ 9223372036854775807) : yMulText a b := by
  unfold yMulText
  obtain ⟨h0, h1, h2, h3⟩ := hp
  by_cases ha : a = 0
  · subst ha
    have e1 : mulV 0 b = 0 := by unfold mulV; rw [Int.zero_mul]; rfl
    have e2 : mulE 0 b = 0 := by unfold mulE; rw [Int.zero_mul]; rfl
    rw [show ((0 : Int) == 0) = true from rfl]
    repeat' first | exact e1 | exact e2 | trivial | rfl | apply And.intro
  by_cases hb : b = 0
  · subst hb
    have e1 : mulV a 0 = 0 := by unfold mulV; rw [Int.mul_zero]; rfl
    have e2 : mulE a 0 = 0 := by unfold mulE; rw [Int.mul_zero]; rfl
    rw [show (a == 0) = false from beq_eq_false_iff_ne.2 ha, show ((0 : Int) == 0) = true from rfl]
    repeat' first | exact e1 | exact e2 | trivial | rfl | apply And.intro
  have hq := Int.ediv_lt_iff_lt_mul (a := 9223372036854775807) (b := a) (show 0 < b by omega)
  have hq0 : 0 ≤ (9223372036854775807 : Int) / b := Int.ediv_nonneg (by omega) (by omega)
  have hq1 : (9223372036854775807 : Int) / b ≤ 9223372036854775807 := Int.ediv_le_self _ (by omega)
  have hm := Int.mul_nonneg h0 h2
  rw [show (a == 0) = false from beq_eq_false_iff_ne.2 ha, show (b == 0) = false from beq_eq_false_iff_ne.2 hb, show decide (a > 0) = true from decide_eq_true (by omega), show decide (b > 0) = true from decide_eq_true (by omega), show (b != 0) = true from bne_iff_ne.2 hb, Int.tdiv_eq_ediv_of_nonneg (show (0 : Int) ≤ 9223372036854775807 by omega), wrap_id (n := 9223372036854775807 / b) (by omega) (by omega), show decide (a < 0) = false from decide_eq_false (by omega), show decide (b < 0) = false from decide_eq_false (by omega)]
  by_cases h : a * b ≤ 9223372036854775807
  · rw [show decide (a > 9223372036854775807 / b) = false from decide_eq_false (fun g => by have := hq.1 g; omega)]
    have e1 : mulV a b = IntKind.i64.wrap (a * b) := by unfold mulV; rw [decide_eq_true h, wrap_id (by omega) h]; rfl
    have e2 : mulE a b = 0 := by unfold mulE; rw [decide_eq_true h]; rfl
    repeat' first | exact e1 | exact e2 | trivial | rfl | apply And.intro
  · rw [show decide (a > 9223372036854775807 / b) = true from decide_eq_true (hq.2 (by omega))]
    have e1 : mulV a b = 0 := by unfold mulV; rw [decide_eq_false h]; rfl
    have e2 : mulE a b = 16 := by unfold mulE; rw [decide_eq_false h]; rfl
    repeat' first | exact e1 | exact e2 | trivial | rfl | apply And.intro
noncomputable def yMulCon : Con T O := fun args cs => match args, cs with
  | [.raw (.int .i64 a), .raw (.int .i64 b)], [] => chk (decide (0 ≤ a ∧ a ≤ 9223372036854775807 ∧ 0 ≤ b ∧ b ≤ 9223372036854775807)) (.ret ⟨some (.tup [.raw (.int .i64 (mulV a b)), .raw (.int .i64 (mulE a b))]), []⟩)
  | _, _ => .fail
theorem yMulOk : ConOk R Try.prog 85 yMulCon := con_of_fn R (X15) (TabOk.con R X15Ok) mixed Try.call85 Try.func85 yMulCon (by
  intro args cs K h
  unfold yMulCon at h
  split at h
  · rename_i a b
    rw [Tree.holds_chk] at h
    obtain ⟨hp, h⟩ := h
    refine ⟨noAnn, _, fun v S hv => ⟨_, h, hv⟩, ?_⟩
    rw [yMulVc a b]
    exact yMulHolds a b (of_decide_eq_true hp)
  · exact h.elim)
noncomputable def tab16 : Tab T O := (90, xSizeCon) :: (89, xMul64Con) :: (68, xGcdCon) :: (84, yGcdCon) :: (85, yMulCon) :: tab15
theorem tabOk16 : TabOk R Try.prog tab16 := TabOk.cons R xSizeOk <| TabOk.cons R xMul64Ok <| TabOk.cons R xGcdOk <| TabOk.cons R yGcdOk <| TabOk.cons R yMulOk <| tabOk15
noncomputable def X16 : Ctx T O := { X0 with con := conOf tab16 }
theorem X16Ok : TabOk R X16.P tab16 := tabOk16
end Go.Proofs.Ytmnnjclnldaejaa
