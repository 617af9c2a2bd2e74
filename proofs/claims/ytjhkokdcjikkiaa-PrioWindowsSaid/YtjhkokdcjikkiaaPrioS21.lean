/-
  Part of a proof over the seat Ytjhkokdcjikkiaa: printed by a small program or typed by hand.
-/
import Derived.Test.YtjhkokdcjikkiaaPrioS20
import Derived.KernelRfl
namespace Go.Proofs.Ytjhkokdcjikkiaa
open Go.Sx Go.Proofs Classical
/-- a weight that is one -/
def Wt (e p : Int) : Prop := 1 ≤ e ∧ e ≤ p ∧ p ≤ 1048576
def Num (i : Int) : Prop := 1 ≤ i ∧ i ≤ 1099511627776

theorem check_of {e p : Int} (h : Wt e p) : ref04Check e p = true := by
  obtain ⟨h1, h2, h3⟩ := h
  unfold ref04Check
  rw [decide_eq_true h1, decide_eq_true h2]
  exact decide_eq_true h3
theorem number_of {e p i : Int} (h : Wt e p) (hi : Num i) : ref04Number e p i = true := by
  unfold ref04Number
  rw [check_of h, decide_eq_true hi.1]
  exact decide_eq_true hi.2
theorem heavy_of {e p : Int} (h : Wt e p) : ref04Heavy e p = decide (p ≤ 2 * e) := by
  obtain ⟨h1, h2, h3⟩ := id h
  unfold ref04Heavy
  rw [check_of h, wrap_id (by omega) (by omega)]
theorem up_pre_of {a b : Int} (hb : 1 ≤ b) : ref04UpPre a b = true := by
  unfold ref04UpPre
  have : (b != 0) = true := by simp; omega
  rw [this]
  cases (decide (IntKind.i64.wrap (IntKind.i64.wrap (a.tdiv b) * b) < a)) <;> rfl
/-- rounded up -/
theorem up_of {a b : Int} (ha : 0 ≤ a) (ha' : a ≤ 4611686018427387904) (hb : 1 ≤ b) (hb' : b ≤ 4611686018427387904) : b * ref04Up a b < a + b ∧ a ≤ b * ref04Up a b := by
  have hn : (b != 0) = true := by simp; omega
  obtain ⟨h1, h2⟩ := div_spec a (b := b) (by omega)
  have hq0 : 0 ≤ a / b := Int.ediv_nonneg ha (by omega)
  have hq1 : a / b ≤ a := Int.ediv_le_self b ha
  unfold ref04Up
  rw [hn, tdiv_pos ha, wrap_id (n := a / b) (by omega) (by omega), Int.mul_comm (a / b) b, wrap_id (n := b * (a / b)) (by omega) (by omega)]
  simp only
  by_cases hlt : b * (a / b) < a
  · rw [decide_eq_true hlt]
    simp only
    rw [wrap_id (by omega) (by omega), Int.mul_add, Int.mul_one]
    omega
  · rw [decide_eq_false hlt]
    simp only
    omega

section
variable {e p i : Int} (h : Wt e p) (hi : Num i)
include h hi

theorem ip_bound : p ≤ i * p ∧ i * p ≤ 1152921504606846976 ∧ 0 ≤ (i - 1) * p ∧ (i - 1) * p = i * p - p := by
  obtain ⟨h1, h2, h3⟩ := h
  obtain ⟨h4, h5⟩ := hi
  have a := mul_le (a := i) (b := p) (A := 1099511627776) (B := 1048576) (by omega) (by omega) h5 h3
  have b := Int.mul_nonneg (a := i - 1) (b := p) (by omega) (by omega)
  have c : (i - 1) * p = i * p - p := by rw [Int.sub_mul, Int.one_mul]
  omega

theorem release_pre_of : ref04ReleasePre e p i = true := by
  unfold ref04ReleasePre
  have : (e != 0) = true := by have := h.1; simp; omega
  rw [number_of h hi, this]; rfl
theorem release_of : e * ref04Release e p i ≤ i * p - p ∧ i * p - p < e * ref04Release e p i + e := by
  obtain ⟨a, b, c, d⟩ := ip_bound h hi
  obtain ⟨h1, h2, h3⟩ := id h
  obtain ⟨h4, h5⟩ := id hi
  have : (e != 0) = true := by simp; omega
  unfold ref04Release
  rw [number_of h hi, this, wrap_id (n := i - 1) (by omega) (by omega), wrap_id (n := (i - 1) * p) (by omega) (by omega), tdiv_pos c]
  obtain ⟨q1, q2⟩ := div_spec ((i - 1) * p) (b := e) (by omega)
  have q3 : 0 ≤ (i - 1) * p / e := Int.ediv_nonneg c (by omega)
  have q4 : (i - 1) * p / e ≤ (i - 1) * p := Int.ediv_le_self e c
  simp only [Bool.not_true]
  rw [wrap_id (by omega) (by omega)]
  omega
theorem release_bound : 0 ≤ ref04Release e p i ∧ ref04Release e p i ≤ 1152921504606846976 := by
  obtain ⟨a, b, c, d⟩ := ip_bound h hi
  obtain ⟨h1, h2, h3⟩ := id h
  obtain ⟨q1, q2⟩ := release_of h hi
  constructor
  · refine Int.not_lt.1 fun hn => ?_
    have := Int.mul_le_mul_of_nonneg_left (show ref04Release e p i ≤ -1 by omega) (show 0 ≤ e by omega)
    omega
  · refine Int.not_lt.1 fun hn => ?_
    have := Int.mul_le_mul (show 1 ≤ e by omega) (Int.le_refl (ref04Release e p i)) (by omega) (by omega)
    omega
theorem deadline_pre_of : ref04DeadlinePre e p i = true := by
  unfold ref04DeadlinePre
  rw [number_of h hi, up_pre_of h.1]; rfl
theorem deadline_of : e * ref04Deadline e p i < i * p + e ∧ i * p ≤ e * ref04Deadline e p i := by
  obtain ⟨a, b, c, d⟩ := ip_bound h hi
  obtain ⟨h1, h2, h3⟩ := id h
  unfold ref04Deadline
  rw [number_of h hi, up_pre_of h.1, wrap_id (by omega) (by omega)]
  simp only [Bool.not_true]
  exact up_of (by omega) (by omega) h1 (by omega)
theorem deadline_bound : 1 ≤ ref04Deadline e p i ∧ ref04Deadline e p i ≤ 1152921504607895552 := by
  obtain ⟨a, b, c, d⟩ := ip_bound h hi
  obtain ⟨h1, h2, h3⟩ := id h
  obtain ⟨q1, q2⟩ := deadline_of h hi
  constructor
  · refine Int.not_lt.1 fun hn => ?_
    have := Int.mul_le_mul_of_nonneg_left (show ref04Deadline e p i ≤ 0 by omega) (show 0 ≤ e by omega)
    omega
  · refine Int.not_lt.1 fun hn => ?_
    have := Int.mul_le_mul (show 1 ≤ e by omega) (Int.le_refl (ref04Deadline e p i)) (by omega) (by omega)
    omega
theorem bit_pre_of : ref04BitPre e p i = true := by
  unfold ref04BitPre
  have : (e != 0) = true := by have := h.1; simp; omega
  rw [number_of h hi, this]
  cases ((IntKind.i64.wrap (i * p)).tmod e == 0) <;> rfl
/-- the overlap bit: 0 where the window ends at a whole slot -/
theorem bit_of : (ref04Bit e p i = 0 ∧ i * p = e * ref04Deadline e p i) ∨ (ref04Bit e p i = 1 ∧ i * p < e * ref04Deadline e p i ∧ 2 ≤ e) := by
  obtain ⟨a, b, c, d⟩ := ip_bound h hi
  obtain ⟨h1, h2, h3⟩ := id h
  obtain ⟨q1, q2⟩ := deadline_of h hi
  have : (e != 0) = true := by simp; omega
  unfold ref04Bit
  rw [number_of h hi, this, wrap_id (by omega) (by omega), tmod_pos (by omega)]
  simp only [Bool.not_true]
  have m1 := Int.emod_nonneg (i * p) (b := e) (by omega)
  have m2 := Int.emod_lt_of_pos (i * p) (b := e) (by omega)
  have m3 := Int.mul_ediv_add_emod (i * p) e
  by_cases hz : i * p % e = 0
  · rw [hz]
    refine .inl ⟨rfl, ?_⟩
    -- e * q = i * p <= e * D < e * q + e
    have hD : ref04Deadline e p i = i * p / e := by
      refine Int.le_antisymm (Int.not_lt.1 fun hn => ?_) (Int.not_lt.1 fun hn => ?_)
      · have := Int.mul_le_mul_of_nonneg_left (show i * p / e + 1 ≤ ref04Deadline e p i by omega) (show 0 ≤ e by omega)
        rw [Int.mul_add, Int.mul_one] at this
        omega
      · have := Int.mul_le_mul_of_nonneg_left (show ref04Deadline e p i + 1 ≤ i * p / e by omega) (show 0 ≤ e by omega)
        rw [Int.mul_add, Int.mul_one] at this
        omega
    rw [hD]; omega
  · have hb : (i * p % e == 0) = false := by simpa using hz
    rw [hb]
    refine .inr ⟨rfl, ?_, ?_⟩
    · refine Int.not_le.1 fun hn => ?_
      have he : i * p = e * ref04Deadline e p i := by omega
      rw [he] at hz
      exact hz (Int.mul_emod_right e _)
    · omega
end

theorem number_elim {e p i : Int} (h : ref04Number e p i = true) : Wt e p ∧ Num i := by
  unfold ref04Number ref04Check at h
  by_cases h1 : e ≥ 1
  · by_cases h2 : e ≤ p
    · rw [decide_eq_true h1, decide_eq_true h2] at h
      simp only at h
      by_cases h3 : p ≤ 1048576
      · rw [decide_eq_true h3] at h
        simp only at h
        by_cases h4 : i ≥ 1
        · rw [decide_eq_true h4] at h
          simp only at h
          exact ⟨⟨h1, h2, h3⟩, h4, of_decide_eq_true h⟩
        · rw [decide_eq_false h4] at h; cases h
      · rw [decide_eq_false h3] at h; cases h
    · rw [decide_eq_true h1, decide_eq_false h2] at h; cases h
  · rw [decide_eq_false h1] at h; cases h

/-! ### groups -/
/-- the number of the light neighbour's window that ends the group -/
def gstar (e p d : Int) : Int := ((d - 1) * (p - e)) / p + 1

section
variable {e p i : Int} (h : Wt e p) (hi : Num i) (hv : p ≤ 2 * e)
include h hi hv

theorem heavy_deadline : ref04Deadline e p i ≤ 2199023255553 := by
  obtain ⟨h1, h2, h3⟩ := id h
  obtain ⟨h4, h5⟩ := id hi
  obtain ⟨q1, q2⟩ := deadline_of h hi
  refine Int.not_lt.1 fun hn => ?_
  have m1 := Int.mul_le_mul_of_nonneg_left (show 2 * i + 1 ≤ ref04Deadline e p i by omega) (show 0 ≤ e by omega)
  have m2 := Int.mul_le_mul_of_nonneg_left hv (show 0 ≤ i by omega)
  grind

variable (hne : e < p)
include hne
theorem gstar_of {d : Int} (hd : ref04Deadline e p i = d) :
    1 ≤ gstar e p d ∧ p * (gstar e p d - 1) ≤ (d - 1) * (p - e) ∧ (d - 1) * (p - e) < p * gstar e p d ∧ p * gstar e p d ≤ 3458764513820540928 ∧ (d - 1) * (p - e) ≤ 2305843009213693952 ∧ 0 ≤ (d - 1) * (p - e) := by
  obtain ⟨h1, h2, h3⟩ := id h
  have hd1 := (deadline_bound h hi).1
  have hd2 := heavy_deadline h hi hv
  rw [hd] at hd1 hd2
  obtain ⟨m1, m2⟩ := mul_le (a := d - 1) (b := p - e) (A := 2199023255552) (B := 1048576) (by omega) (by omega) (by omega) (by omega)
  obtain ⟨q1, q2⟩ := div_spec ((d - 1) * (p - e)) (b := p) (by omega)
  have q3 : 0 ≤ (d - 1) * (p - e) / p := Int.ediv_nonneg m1 (by omega)
  have e1 : p * gstar e p d = p * ((d - 1) * (p - e) / p) + p := by unfold gstar; rw [Int.mul_add, Int.mul_one]
  have e2 : p * (gstar e p d - 1) = p * ((d - 1) * (p - e) / p) := by unfold gstar; congr 1; omega
  refine ⟨by unfold gstar; omega, by omega, by omega, by omega, by omega, m1⟩

/-- where the group ends -/
theorem gend_of {d G : Int} (hd : ref04Deadline e p i = d) (hG : ref04Up (gstar e p d * p) (p - e) = G) :
    d ≤ G ∧ G ≤ ref04Release e p i + p := by
  obtain ⟨h1, h2, h3⟩ := id h
  obtain ⟨g1, g2, g3, g4, g5, g6⟩ := gstar_of h hi hv hne hd
  obtain ⟨u1, u2⟩ := up_of (a := gstar e p d * p) (b := p - e) (Int.mul_nonneg (by omega) (by omega)) (by rw [Int.mul_comm]; omega) (by omega) (by omega)
  obtain ⟨q1, q2⟩ := deadline_of h hi
  obtain ⟨r1, r2⟩ := release_of h hi
  rw [hd] at q1 q2
  rw [hG] at u1 u2
  refine ⟨Int.not_lt.1 fun hn => ?_, ?_⟩
  · have m1 := Int.mul_le_mul_of_nonneg_left (show G ≤ d - 1 by omega) (show 0 ≤ p - e by omega)
    grind
  · generalize hk : p - e = k at *
    generalize hg : gstar e p d = g at *
    have a1 : e * (g - 1) < i * k := by
      refine Int.not_le.1 fun hn => ?_
      have m1 := Int.mul_le_mul_of_nonneg_left hn (show 0 ≤ p by omega)
      have m2 := Int.mul_le_mul_of_nonneg_left g2 (show 0 ≤ e by omega)
      have m3 := Int.mul_le_mul_of_nonneg_left (show e * d ≤ i * p + e - 1 by omega) (show 0 ≤ k by omega)
      grind
    refine Int.not_lt.1 fun hn => ?_
    have m1 := Int.mul_le_mul_of_nonneg_left (show k * G ≤ g * p + k - 1 by omega) (show 0 ≤ e by omega)
    have m2 := Int.mul_le_mul_of_nonneg_left (show e * g ≤ i * k + e - 1 by grind) (show 0 ≤ p by omega)
    have m3 := Int.mul_le_mul_of_nonneg_left (show i * p - p - e + 1 ≤ e * ref04Release e p i by omega) (show 0 ≤ k by omega)
    have m4 := Int.mul_le_mul_of_nonneg_left (show ref04Release e p i + p + 1 ≤ G by omega) (show 0 ≤ e * k from Int.mul_nonneg (by omega) (by omega))
    have m5 := Int.mul_nonneg (show 0 ≤ e - 1 by omega) (show 0 ≤ k - 1 by omega)
    have m6 := Int.mul_nonneg m5 (show 0 ≤ p - 1 by omega)
    grind

/-- where the search starts -/
theorem gstart_of {d : Int} (hd : ref04Deadline e p i = d) :
    0 ≤ d / p * (p - e) ∧ d / p * (p - e) ≤ gstar e p d ∧ d / p * (p - e) ≤ 2305843009213693952 := by
  obtain ⟨h1, h2, h3⟩ := id h
  have hd1 := (deadline_bound h hi).1
  have hd2 := heavy_deadline h hi hv
  rw [hd] at hd1 hd2
  obtain ⟨g1, g2, g3, g4, g5, g6⟩ := gstar_of h hi hv hne hd
  obtain ⟨q1, q2⟩ := div_spec d (b := p) (by omega)
  have q3 : 0 ≤ d / p := Int.ediv_nonneg (by omega) (by omega)
  have q4 : d / p ≤ d := Int.ediv_le_self p (by omega)
  obtain ⟨m1, m2⟩ := mul_le (a := d / p) (b := p - e) (A := 2199023255552) (B := 1048576) (by omega) (by omega) (by
    have : d / p ≤ 2199023255552 := by
      refine Int.not_lt.1 fun hn => ?_
      have := Int.mul_le_mul_of_nonneg_right (show 2 ≤ p by omega) (show 0 ≤ d / p by omega)
      omega
    exact this) (by omega)
  refine ⟨m1, Int.not_lt.1 fun hn => ?_, by omega⟩
  have m3 := Int.mul_le_mul_of_nonneg_left (show gstar e p d + 1 ≤ d / p * (p - e) by omega) (show 0 ≤ p by omega)
  have m4 := Int.mul_le_mul_of_nonneg_right q1 (show 0 ≤ p - e by omega)
  grind

/-- one step of the search -/
theorem gstep_of {x : Int} (hx0 : 0 ≤ x) (hx : x ≤ gstar e p (ref04Deadline e p i)) : 0 ≤ x * p ∧ x * p ≤ 3458764513820540928 ∧
    (ref04Up (x * p) (p - e) < ref04Deadline e p i → x < gstar e p (ref04Deadline e p i)) ∧ (¬ ref04Up (x * p) (p - e) < ref04Deadline e p i → x = gstar e p (ref04Deadline e p i)) := by
  obtain ⟨h1, h2, h3⟩ := id h
  obtain ⟨g1, g2, g3, g4, g5, g6⟩ := gstar_of h hi hv hne rfl
  generalize hg : gstar e p (ref04Deadline e p i) = g at *
  generalize hdd : ref04Deadline e p i = d at *
  have b0 : 0 ≤ x * p := Int.mul_nonneg hx0 (by omega)
  have b1 : x * p ≤ p * g := by rw [Int.mul_comm p g]; exact Int.mul_le_mul_of_nonneg_right hx (by omega)
  obtain ⟨u1, u2⟩ := up_of (a := x * p) (b := p - e) b0 (by omega) (by omega) (by omega)
  refine ⟨b0, by omega, fun hlt => ?_, fun hge => ?_⟩
  · refine Int.not_le.1 fun hn => ?_
    have m1 := Int.mul_le_mul_of_nonneg_left (show ref04Up (x * p) (p - e) ≤ d - 1 by omega) (show 0 ≤ p - e by omega)
    have : x = g := by omega
    subst this
    grind
  · refine Int.le_antisymm hx (Int.not_lt.1 fun hn => ?_)
    have m1 := Int.mul_le_mul_of_nonneg_left (show d ≤ ref04Up (x * p) (p - e) by omega) (show 0 ≤ p - e by omega)
    have m2 := Int.mul_le_mul_of_nonneg_left (show x ≤ g - 1 by omega) (show 0 ≤ p by omega)
    grind
end

def ref04Group (e p i : Int) : Int :=
  if ref04Number e p i = true ∧ ref04Heavy e p = true then (if e = p then ref04Deadline e p i else ref04Up (gstar e p (ref04Deadline e p i) * p) (p - e)) else 0

/-! ### regatta/regattaref04.Group -/
def ref04GroupText (e p i : Int) : Prop := (match (!ref04Number e p i) with | true => (((ref04Group e p i = (0 : Int)) ∧ True) ∧ True) | false => (match (!ref04Heavy e p) with | true => (((ref04Group e p i = (0 : Int)) ∧ True) ∧ True) | false => (match (ref04DeadlinePre e p i) with | true => (match (e == p) with | true => (((ref04Group e p i = ref04Deadline e p i) ∧ True) ∧ True) | false => (match (p != (0 : Int)) with | true => ((∃ x : Int, ((((0 : Int) ≤ x) ∧ (x ≤ gstar e p (ref04Deadline e p i))) ∧ (((i = i) ∧ (True ∧ ((ref04Deadline e p i = ref04Deadline e p i) ∧ ((IntKind.i64.wrap (p - e) = IntKind.i64.wrap (p - e)) ∧ ((x = IntKind.i64.wrap (IntKind.i64.wrap ((ref04Deadline e p i).tdiv p) * IntKind.i64.wrap (p - e))) ∧ True))))) ∧ (((e = e) ∧ ((p = p) ∧ True)) ∧ True)))) ∧ (∀ x : Int, ((((0 : Int) ≤ x) ∧ (x ≤ gstar e p (ref04Deadline e p i))) → (match (ref04UpPre (IntKind.i64.wrap (x * p)) (IntKind.i64.wrap (p - e))) with | true => (match (decide (ref04Up (IntKind.i64.wrap (x * p)) (IntKind.i64.wrap (p - e)) < ref04Deadline e p i)) with | true => (∃ x' : Int, ((((0 : Int) ≤ x') ∧ (x' ≤ gstar e p (ref04Deadline e p i))) ∧ (((gstar e p (ref04Deadline e p i) - x').toNat < (gstar e p (ref04Deadline e p i) - x).toNat) ∧ (((i = i) ∧ (True ∧ ((ref04Deadline e p i = ref04Deadline e p i) ∧ ((IntKind.i64.wrap (p - e) = IntKind.i64.wrap (p - e)) ∧ ((x' = IntKind.i64.wrap (x + (1 : Int))) ∧ True))))) ∧ (((e = e) ∧ ((p = p) ∧ True)) ∧ True))))) | false => (match (ref04UpPre (IntKind.i64.wrap (x * p)) (IntKind.i64.wrap (p - e))) with | true => (((ref04Group e p i = ref04Up (IntKind.i64.wrap (x * p)) (IntKind.i64.wrap (p - e))) ∧ True) ∧ True) | false => False)) | false => False)))) | false => False)) | false => False)))
theorem ref04GroupVc (e p i : Int) : fnX X20 (oneLoop 10 { σ := Int, st := fun S x => (S.keep [1, 2, 7, 8]).int 9 x, inv := fun _ x => 0 ≤ x ∧ x ≤ gstar e p (ref04Deadline e p i), m := fun x => (gstar e p (ref04Deadline e p i) - x).toNat }) Try.f24 [.agg [.raw (.int .i64 e), .raw (.int .i64 p)], .raw (.int .i64 i)] [] (ends [] ⟨some (.raw (.int .i64 (ref04Group e p i))), []⟩) = ref04GroupText e p i := by kernel_rfl
theorem ref04GroupHolds (e p i : Int) : ref04GroupText e p i := by
  unfold ref04GroupText ref04Group
  cases hnum : ref04Number e p i
  · exact ⟨⟨rfl, trivial⟩, trivial⟩
  obtain ⟨h, hi⟩ := number_elim hnum
  obtain ⟨h1, h2, h3⟩ := id h
  simp only [Bool.not_true]
  cases hhv : ref04Heavy e p
  · exact ⟨⟨rfl, trivial⟩, trivial⟩
  have hv : p ≤ 2 * e := by rw [heavy_of h] at hhv; exact of_decide_eq_true hhv
  simp only [Bool.not_true, deadline_pre_of h hi]
  by_cases hep : e = p
  · have : (e == p) = true := by simpa using hep
    rw [this]
    simp [hep]
  have hne : e < p := by omega
  have hb : (e == p) = false := by simpa using hep
  have hp0 : (p != 0) = true := by simp; omega
  rw [hb, hp0]
  obtain ⟨d1, d2⟩ := deadline_bound h hi
  obtain ⟨s1, s2, s3⟩ := gstart_of h hi hv hne rfl
  have hdp : ref04Deadline e p i / p ≤ ref04Deadline e p i := Int.ediv_le_self p (by omega)
  have hdp0 : 0 ≤ ref04Deadline e p i / p := Int.ediv_nonneg (by omega) (by omega)
  have hk : IntKind.i64.wrap (p - e) = p - e := wrap_id (by omega) (by omega)
  simp only [hk, tdiv_pos (show 0 ≤ ref04Deadline e p i by omega)]
  rw [wrap_id (n := ref04Deadline e p i / p) (by omega) (by omega), wrap_id (n := ref04Deadline e p i / p * (p - e)) (by omega) (by omega)]
  refine ⟨⟨ref04Deadline e p i / p * (p - e), ⟨s1, s2⟩, by simp⟩, ?_⟩
  rintro x ⟨x0, x1⟩
  obtain ⟨b0, b1, b2, b3⟩ := gstep_of h hi hv hne x0 x1
  obtain ⟨g1, g2, g3, g4, g5, g6⟩ := gstar_of h hi hv hne rfl
  rw [wrap_id (n := x * p) (by omega) (by omega), up_pre_of (by omega)]
  by_cases hlt : ref04Up (x * p) (p - e) < ref04Deadline e p i
  · rw [decide_eq_true hlt]
    have hx := b2 hlt
    have hgm : gstar e p (ref04Deadline e p i) ≤ p * gstar e p (ref04Deadline e p i) := by
      have := Int.mul_le_mul_of_nonneg_right (show 1 ≤ p by omega) (show 0 ≤ gstar e p (ref04Deadline e p i) by omega)
      omega
    refine ⟨x + 1, ⟨by omega, by omega⟩, by omega, ?_⟩
    rw [wrap_id (n := x + 1) (by omega) (by omega)]
    simp
  · rw [decide_eq_false hlt]
    have hx := b3 hlt
    simp [hx, hep]
noncomputable def ref04GroupCon : Con T O := fun args cs => match args, cs with
  | [.agg [.raw (.int .i64 e), .raw (.int .i64 p)], .raw (.int .i64 i)], [] => .ret ⟨some (.raw (.int .i64 (ref04Group e p i))), []⟩
  | _, _ => .fail
theorem ref04GroupOk : ConOk R Try.prog 24 ref04GroupCon := con_of_fn R (X20) (TabOk.con R X20Ok) mixed Try.call24 Try.func24 ref04GroupCon (by
  intro args cs K h
  unfold ref04GroupCon at h
  split at h
  · rename_i e p i
    refine ⟨oneLoop 10 { σ := Int, st := fun S x => (S.keep [1, 2, 7, 8]).int 9 x, inv := fun _ x => 0 ≤ x ∧ x ≤ gstar e p (ref04Deadline e p i), m := fun x => (gstar e p (ref04Deadline e p i) - x).toNat }, _, fun v S hv => ⟨_, h, hv⟩, ?_⟩
    rw [ref04GroupVc e p i]
    exact ref04GroupHolds e p i
  · exact h.elim)
noncomputable def tab21 : Tab T O := (24, ref04GroupCon) :: tab20
theorem tabOk21 : TabOk R Try.prog tab21 := TabOk.cons R ref04GroupOk <| tabOk20
noncomputable def X21 : Ctx T O := { X0 with con := conOf tab21 }
theorem X21Ok : TabOk R X21.P tab21 := tabOk21
end Go.Proofs.Ytjhkokdcjikkiaa
