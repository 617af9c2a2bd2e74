/-
  Part of a proof over the seat Ytmnnjclnldaejaa: printed by a small program or typed by hand.
-/
import Derived.Test.YtmnnjclnldaejaaSxAnn
import Derived.Laws.BitsLemmas
/-
  Sx: numbers: no wrap where there is room, masks, bounds of products, quotients.
-/
namespace Go.Sx

theorem wrap_id {n : Int} (h0 : -9223372036854775808 ≤ n) (h1 : n ≤ 9223372036854775807) : IntKind.i64.wrap n = n := by
  rw [IntKind.wrap_i64]; omega

/-- a mask of ones -/
theorem mask_nat (k : Nat) (hk : k ≤ 62) (n : Int) : bits .and .i64 n ((2 ^ k - 1 : Nat) : Int) = n % ((2 ^ k : Nat) : Int) := by
  have h2 : 0 < 2 ^ k := Nat.two_pow_pos k
  have hle : 2 ^ k ≤ 2 ^ 62 := Nat.pow_le_pow_right (by omega) hk
  have hlt : 2 ^ k - 1 < 2 ^ 64 := by omega
  have hc : (BitVec.ofInt 64 ((2 ^ k - 1 : Nat) : Int)).toNat = 2 ^ k - 1 := by
    rw [BitVec.toNat_ofInt]
    omega
  have key : (BitVec.ofInt 64 n &&& BitVec.ofInt 64 ((2 ^ k - 1 : Nat) : Int)).toNat = (n % ((2 ^ 64 : Nat) : Int)).toNat % 2 ^ k := by
    rw [BitVec.toNat_and, BitVec.toNat_ofInt n, hc, Nat.and_two_pow_sub_one_eq_mod]
  show IntKind.i64.wrap ((BitVec.ofInt 64 n &&& BitVec.ofInt 64 ((2 ^ k - 1 : Nat) : Int)).toNat : Nat) = n % ((2 ^ k : Nat) : Int)
  rw [key]
  have hd : ((2 ^ k : Nat) : Int) ∣ ((2 ^ 64 : Nat) : Int) := Int.natCast_dvd_natCast.2 (Nat.pow_dvd_pow 2 (by omega))
  have e : (((n % ((2 ^ 64 : Nat) : Int)).toNat % 2 ^ k : Nat) : Int) = n % ((2 ^ k : Nat) : Int) := by
    rw [Int.natCast_emod, Int.toNat_of_nonneg (Int.emod_nonneg _ (by decide))]
    exact Int.emod_emod_of_dvd n hd
  rw [e]
  have h0 := Int.emod_nonneg n (b := ((2 ^ k : Nat) : Int)) (by omega)
  have h1 := Int.emod_lt_of_pos n (b := ((2 ^ k : Nat) : Int)) (by omega)
  exact wrap_id (by omega) (by omega)

/-- products of numbers that are not negative -/
theorem mul_le {a b A B : Int} (ha : 0 ≤ a) (hb : 0 ≤ b) (hA : a ≤ A) (hB : b ≤ B) : 0 ≤ a * b ∧ a * b ≤ A * B :=
  ⟨Int.mul_nonneg ha hb, Int.mul_le_mul hA hB hb (Int.le_trans ha hA)⟩

theorem tdiv_pos {a b : Int} (ha : 0 ≤ a) : a.tdiv b = a / b := Int.tdiv_eq_ediv_of_nonneg ha
theorem tmod_pos {a b : Int} (ha : 0 ≤ a) : a.tmod b = a % b := Int.tmod_eq_emod_of_nonneg ha

/-- quotient and rest, in one -/
theorem div_spec (a : Int) {b : Int} (hb : 0 < b) : b * (a / b) ≤ a ∧ a < b * (a / b) + b := by
  have h1 := Int.mul_ediv_add_emod a b
  have h2 := Int.emod_nonneg a (b := b) (by omega)
  have h3 := Int.emod_lt_of_pos a hb
  omega

theorem div_unique {a b q : Int} (hb : 0 < b) (h1 : b * q ≤ a) (h2 : a < b * q + b) : a / b = q := by
  have h := div_spec a hb
  rcases Int.lt_trichotomy (a / b) q with hl | he | hg
  · have : b * (a / b) + b ≤ b * q := by
      have := Int.mul_le_mul_of_nonneg_left (show a / b + 1 ≤ q by omega) (Int.le_of_lt hb)
      rw [Int.mul_add, Int.mul_one] at this
      exact this
    omega
  · exact he
  · have : b * q + b ≤ b * (a / b) := by
      have := Int.mul_le_mul_of_nonneg_left (show q + 1 ≤ a / b by omega) (Int.le_of_lt hb)
      rw [Int.mul_add, Int.mul_one] at this
      exact this
    omega
end Go.Sx
