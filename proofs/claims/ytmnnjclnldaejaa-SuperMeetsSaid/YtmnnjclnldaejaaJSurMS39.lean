/-
  Part of a proof over the seat Ytmnnjclnldaejaa: printed by a small program or typed by hand.
-/
import Derived.Test.YtmnnjclnldaejaaJSurMS35
import Derived.KernelRfl
namespace Go.Proofs.Ytmnnjclnldaejaa
open Go.Sx Go.Proofs Classical
/-! ### regatta/regattaref04.Release -/
def ref04Release (a0E : Int) (a0P : Int) (a1 : Int) : Int := (match (!ref04Number a0E a0P a1) with | true => ((0 : Int)) | false => (match (a0E != (0 : Int)) with | true => (IntKind.i64.wrap ((IntKind.i64.wrap (IntKind.i64.wrap (a1 - (1 : Int)) * a0P)).tdiv a0E)) | false => 0))
def ref04ReleasePre (a0E : Int) (a0P : Int) (a1 : Int) : Bool := (match (!ref04Number a0E a0P a1) with | true => true | false => (match (a0E != (0 : Int)) with | true => true | false => false))
noncomputable def ref04ReleaseCon : Con T O := fun args cs => match args, cs with
  | [.agg [.raw (.int .i64 a0E), .raw (.int .i64 a0P)], .raw (.int .i64 a1)], [] => chk (ref04ReleasePre a0E a0P a1) (retv (.raw (.int .i64 (ref04Release a0E a0P a1))))
  | _, _ => .fail
theorem ref04ReleaseVc (a0E : Int) (a0P : Int) (a1 : Int) : fnX X35 noAnn Try.f48 [.agg [.raw (.int .i64 a0E), .raw (.int .i64 a0P)], .raw (.int .i64 a1)] [] (ends [] ⟨some (.raw (.int .i64 (ref04Release a0E a0P a1))), []⟩) = ((match (!ref04Number a0E a0P a1) with | true => ((ref04Release a0E a0P a1 = ((0 : Int))) ∧ True) ∧ True | false => (match (a0E != (0 : Int)) with | true => ((ref04Release a0E a0P a1 = (IntKind.i64.wrap ((IntKind.i64.wrap (IntKind.i64.wrap (a1 - (1 : Int)) * a0P)).tdiv a0E))) ∧ True) ∧ True | false => False))) := by kernel_rfl
theorem ref04ReleaseOk : ConOk R Try.prog 48 ref04ReleaseCon := con_of_fn R X35 (TabOk.con R X35Ok) mixed Try.call48 Try.func48 ref04ReleaseCon (by
  intro args cs K h
  unfold ref04ReleaseCon at h
  split at h
  · rename_i a0E a0P a1
    rw [Tree.holds_chk] at h
    obtain ⟨hp, h⟩ := h
    refine ⟨noAnn, _, fun v S hv => ⟨_, h, hv⟩, ?_⟩
    rw [ref04ReleaseVc a0E a0P a1]
    revert hp
    unfold ref04Release ref04ReleasePre
    cases (!ref04Number a0E a0P a1)
    ·
      cases (a0E != (0 : Int))
      ·
        intro hp; cases hp
      ·
        intro _; exact ⟨⟨rfl, trivial⟩, trivial⟩
    ·
      intro _; exact ⟨⟨rfl, trivial⟩, trivial⟩
  · exact h.elim)
/-! ### regatta/regattaref04.Deadline -/
def ref04Deadline (a0E : Int) (a0P : Int) (a1 : Int) : Int := (match (!ref04Number a0E a0P a1) with | true => ((0 : Int)) | false => (match (ref04UpPre (IntKind.i64.wrap (a1 * a0P)) a0E) with | true => (ref04Up (IntKind.i64.wrap (a1 * a0P)) a0E) | false => 0))
def ref04DeadlinePre (a0E : Int) (a0P : Int) (a1 : Int) : Bool := (match (!ref04Number a0E a0P a1) with | true => true | false => (match (ref04UpPre (IntKind.i64.wrap (a1 * a0P)) a0E) with | true => true | false => false))
noncomputable def ref04DeadlineCon : Con T O := fun args cs => match args, cs with
  | [.agg [.raw (.int .i64 a0E), .raw (.int .i64 a0P)], .raw (.int .i64 a1)], [] => chk (ref04DeadlinePre a0E a0P a1) (retv (.raw (.int .i64 (ref04Deadline a0E a0P a1))))
  | _, _ => .fail
theorem ref04DeadlineVc (a0E : Int) (a0P : Int) (a1 : Int) : fnX X35 noAnn Try.f47 [.agg [.raw (.int .i64 a0E), .raw (.int .i64 a0P)], .raw (.int .i64 a1)] [] (ends [] ⟨some (.raw (.int .i64 (ref04Deadline a0E a0P a1))), []⟩) = ((match (!ref04Number a0E a0P a1) with | true => ((ref04Deadline a0E a0P a1 = ((0 : Int))) ∧ True) ∧ True | false => (match (ref04UpPre (IntKind.i64.wrap (a1 * a0P)) a0E) with | true => ((ref04Deadline a0E a0P a1 = (ref04Up (IntKind.i64.wrap (a1 * a0P)) a0E)) ∧ True) ∧ True | false => False))) := by kernel_rfl
theorem ref04DeadlineOk : ConOk R Try.prog 47 ref04DeadlineCon := con_of_fn R X35 (TabOk.con R X35Ok) mixed Try.call47 Try.func47 ref04DeadlineCon (by
  intro args cs K h
  unfold ref04DeadlineCon at h
  split at h
  · rename_i a0E a0P a1
    rw [Tree.holds_chk] at h
    obtain ⟨hp, h⟩ := h
    refine ⟨noAnn, _, fun v S hv => ⟨_, h, hv⟩, ?_⟩
    rw [ref04DeadlineVc a0E a0P a1]
    revert hp
    unfold ref04Deadline ref04DeadlinePre
    cases (!ref04Number a0E a0P a1)
    ·
      cases (ref04UpPre (IntKind.i64.wrap (a1 * a0P)) a0E)
      ·
        intro hp; cases hp
      ·
        intro _; exact ⟨⟨rfl, trivial⟩, trivial⟩
    ·
      intro _; exact ⟨⟨rfl, trivial⟩, trivial⟩
  · exact h.elim)
/-! ### regatta/regattaref04.Bit -/
def ref04Bit (a0E : Int) (a0P : Int) (a1 : Int) : Int := (match (!ref04Number a0E a0P a1) with | true => ((0 : Int)) | false => (match (a0E != (0 : Int)) with | true => (match ((IntKind.i64.wrap (a1 * a0P)).tmod a0E == (0 : Int)) with | true => ((0 : Int)) | false => ((1 : Int))) | false => 0))
def ref04BitPre (a0E : Int) (a0P : Int) (a1 : Int) : Bool := (match (!ref04Number a0E a0P a1) with | true => true | false => (match (a0E != (0 : Int)) with | true => (match ((IntKind.i64.wrap (a1 * a0P)).tmod a0E == (0 : Int)) with | true => true | false => true) | false => false))
noncomputable def ref04BitCon : Con T O := fun args cs => match args, cs with
  | [.agg [.raw (.int .i64 a0E), .raw (.int .i64 a0P)], .raw (.int .i64 a1)], [] => chk (ref04BitPre a0E a0P a1) (retv (.raw (.int .i64 (ref04Bit a0E a0P a1))))
  | _, _ => .fail
theorem ref04BitVc (a0E : Int) (a0P : Int) (a1 : Int) : fnX X35 noAnn Try.f49 [.agg [.raw (.int .i64 a0E), .raw (.int .i64 a0P)], .raw (.int .i64 a1)] [] (ends [] ⟨some (.raw (.int .i64 (ref04Bit a0E a0P a1))), []⟩) = ((match (!ref04Number a0E a0P a1) with | true => ((ref04Bit a0E a0P a1 = ((0 : Int))) ∧ True) ∧ True | false => (match (a0E != (0 : Int)) with | true => (match ((IntKind.i64.wrap (a1 * a0P)).tmod a0E == (0 : Int)) with | true => ((ref04Bit a0E a0P a1 = ((0 : Int))) ∧ True) ∧ True | false => ((ref04Bit a0E a0P a1 = ((1 : Int))) ∧ True) ∧ True) | false => False))) := by kernel_rfl
theorem ref04BitOk : ConOk R Try.prog 49 ref04BitCon := con_of_fn R X35 (TabOk.con R X35Ok) mixed Try.call49 Try.func49 ref04BitCon (by
  intro args cs K h
  unfold ref04BitCon at h
  split at h
  · rename_i a0E a0P a1
    rw [Tree.holds_chk] at h
    obtain ⟨hp, h⟩ := h
    refine ⟨noAnn, _, fun v S hv => ⟨_, h, hv⟩, ?_⟩
    rw [ref04BitVc a0E a0P a1]
    revert hp
    unfold ref04Bit ref04BitPre
    cases (!ref04Number a0E a0P a1)
    ·
      cases (a0E != (0 : Int))
      ·
        intro hp; cases hp
      ·
        cases ((IntKind.i64.wrap (a1 * a0P)).tmod a0E == (0 : Int))
        ·
          intro _; exact ⟨⟨rfl, trivial⟩, trivial⟩
        ·
          intro _; exact ⟨⟨rfl, trivial⟩, trivial⟩
    ·
      intro _; exact ⟨⟨rfl, trivial⟩, trivial⟩
  · exact h.elim)
noncomputable def tab36 : Tab T O := (48, ref04ReleaseCon) :: (47, ref04DeadlineCon) :: (49, ref04BitCon) :: tab35
theorem tabOk36 : TabOk R Try.prog tab36 := TabOk.cons R ref04ReleaseOk <| TabOk.cons R ref04DeadlineOk <| TabOk.cons R ref04BitOk <| tabOk35
noncomputable def X36 : Ctx T O := { X0 with con := conOf tab36 }
theorem X36Ok : TabOk R X36.P tab36 := tabOk36
end Go.Proofs.Ytmnnjclnldaejaa

namespace Go.Proofs.Ytmnnjclnldaejaa
open Go.Sx Go.Proofs Classical
/-- a weight that is one -/
def Wt (e p : Int) : Prop := 1 ≤ e ∧ e ≤ p ∧ p ≤ 1048576
def Num (i : Int) : Prop := 1 ≤ i ∧ i ≤ 1099511627776

theorem check_of {e p : Int} (h : Wt e p) : ref04Check e p = true := by
  obtain ⟨h1, h2, h3⟩ := h
  unfold ref04Check
  rw [decide_eq_true h1, decide_eq_true h2]
  exact decide_eq_true h3
theorem number_of {e p i : Int} (h : Wt e p) (hi : Num i) : ref04Number e p i = true := by
  unfold ref04Number
  rw [check_of h, decide_eq_true hi.1]
  exact decide_eq_true hi.2
theorem heavy_of {e p : Int} (h : Wt e p) : ref04Heavy e p = decide (p ≤ 2 * e) := by
  obtain ⟨h1, h2, h3⟩ := id h
  unfold ref04Heavy
  rw [check_of h, wrap_id (by omega) (by omega)]
theorem up_pre_of {a b : Int} (hb : 1 ≤ b) : ref04UpPre a b = true := by
  unfold ref04UpPre
  have : (b != 0) = true := by simp; omega
  rw [this]
  cases (decide (IntKind.i64.wrap (IntKind.i64.wrap (a.tdiv b) * b) < a)) <;> rfl
/-- rounded up -/
theorem up_of {a b : Int} (ha : 0 ≤ a) (ha' : a ≤ 4611686018427387904) (hb : 1 ≤ b) (hb' : b ≤ 4611686018427387904) : b * ref04Up a b < a + b ∧ a ≤ b * ref04Up a b := by
  have hn : (b != 0) = true := by simp; omega
  obtain ⟨h1, h2⟩ := div_spec a (b := b) (by omega)
  have hq0 : 0 ≤ a / b := Int.ediv_nonneg ha (by omega)
  have hq1 : a / b ≤ a := Int.ediv_le_self b ha
  unfold ref04Up
  rw [hn, tdiv_pos ha, wrap_id (n := a / b) (by omega) (by omega), Int.mul_comm (a / b) b, wrap_id (n := b * (a / b)) (by omega) (by omega)]
  simp only
  by_cases hlt : b * (a / b) < a
  · rw [decide_eq_true hlt]
    simp only
    rw [wrap_id (by omega) (by omega), Int.mul_add, Int.mul_one]
    omega
  · rw [decide_eq_false hlt]
    simp only
    omega

section
variable {e p i : Int} (h : Wt e p) (hi : Num i)
include h hi

theorem ip_bound : p ≤ i * p ∧ i * p ≤ 1152921504606846976 ∧ 0 ≤ (i - 1) * p ∧ (i - 1) * p = i * p - p := by
  obtain ⟨h1, h2, h3⟩ := h
  obtain ⟨h4, h5⟩ := hi
  have a := mul_le (a := i) (b := p) (A := 1099511627776) (B := 1048576) (by omega) (by omega) h5 h3
  have b := Int.mul_nonneg (a := i - 1) (b := p) (by omega) (by omega)
  have c : (i - 1) * p = i * p - p := by rw [Int.sub_mul, Int.one_mul]
  omega

theorem release_pre_of : ref04ReleasePre e p i = true := by
  unfold ref04ReleasePre
  have : (e != 0) = true := by have := h.1; simp; omega
  rw [number_of h hi, this]; rfl
theorem release_of : e * ref04Release e p i ≤ i * p - p ∧ i * p - p < e * ref04Release e p i + e := by
  obtain ⟨a, b, c, d⟩ := ip_bound h hi
  obtain ⟨h1, h2, h3⟩ := id h
  obtain ⟨h4, h5⟩ := id hi
  have : (e != 0) = true := by simp; omega
  unfold ref04Release
  rw [number_of h hi, this, wrap_id (n := i - 1) (by omega) (by omega), wrap_id (n := (i - 1) * p) (by omega) (by omega), tdiv_pos c]
  obtain ⟨q1, q2⟩ := div_spec ((i - 1) * p) (b := e) (by omega)
  have q3 : 0 ≤ (i - 1) * p / e := Int.ediv_nonneg c (by omega)
  have q4 : (i - 1) * p / e ≤ (i - 1) * p := Int.ediv_le_self e c
  simp only [Bool.not_true]
  rw [wrap_id (by omega) (by omega)]
  omega
theorem release_bound : 0 ≤ ref04Release e p i ∧ ref04Release e p i ≤ 1152921504606846976 := by
  obtain ⟨a, b, c, d⟩ := ip_bound h hi
  obtain ⟨h1, h2, h3⟩ := id h
  obtain ⟨q1, q2⟩ := release_of h hi
  constructor
  · refine Int.not_lt.1 fun hn => ?_
    have := Int.mul_le_mul_of_nonneg_left (show ref04Release e p i ≤ -1 by omega) (show 0 ≤ e by omega)
    omega
  · refine Int.not_lt.1 fun hn => ?_
    have := Int.mul_le_mul (show 1 ≤ e by omega) (Int.le_refl (ref04Release e p i)) (by omega) (by omega)
    omega
theorem deadline_pre_of : ref04DeadlinePre e p i = true := by
  unfold ref04DeadlinePre
  rw [number_of h hi, up_pre_of h.1]; rfl
theorem deadline_of : e * ref04Deadline e p i < i * p + e ∧ i * p ≤ e * ref04Deadline e p i := by
  obtain ⟨a, b, c, d⟩ := ip_bound h hi
  obtain ⟨h1, h2, h3⟩ := id h
  unfold ref04Deadline
  rw [number_of h hi, up_pre_of h.1, wrap_id (by omega) (by omega)]
  simp only [Bool.not_true]
  exact up_of (by omega) (by omega) h1 (by omega)
theorem deadline_bound : 1 ≤ ref04Deadline e p i ∧ ref04Deadline e p i ≤ 1152921504607895552 := by
  obtain ⟨a, b, c, d⟩ := ip_bound h hi
  obtain ⟨h1, h2, h3⟩ := id h
  obtain ⟨q1, q2⟩ := deadline_of h hi
  constructor
  · refine Int.not_lt.1 fun hn => ?_
    have := Int.mul_le_mul_of_nonneg_left (show ref04Deadline e p i ≤ 0 by omega) (show 0 ≤ e by omega)
    omega
  · refine Int.not_lt.1 fun hn => ?_
    have := Int.mul_le_mul (show 1 ≤ e by omega) (Int.le_refl (ref04Deadline e p i)) (by omega) (by omega)
    omega
theorem bit_pre_of : ref04BitPre e p i = true := by
  unfold ref04BitPre
  have : (e != 0) = true := by have := h.1; simp; omega
  rw [number_of h hi, this]
  cases ((IntKind.i64.wrap (i * p)).tmod e == 0) <;> rfl
/-- the overlap bit: 0 where the window ends at a whole slot -/
theorem bit_of : (ref04Bit e p i = 0 ∧ i * p = e * ref04Deadline e p i) ∨ (ref04Bit e p i = 1 ∧ i * p < e * ref04Deadline e p i ∧ 2 ≤ e) := by
  obtain ⟨a, b, c, d⟩ := ip_bound h hi
  obtain ⟨h1, h2, h3⟩ := id h
  obtain ⟨q1, q2⟩ := deadline_of h hi
  have : (e != 0) = true := by simp; omega
  unfold ref04Bit
  rw [number_of h hi, this, wrap_id (by omega) (by omega), tmod_pos (by omega)]
  simp only [Bool.not_true]
  have m1 := Int.emod_nonneg (i * p) (b := e) (by omega)
  have m2 := Int.emod_lt_of_pos (i * p) (b := e) (by omega)
  have m3 := Int.mul_ediv_add_emod (i * p) e
  by_cases hz : i * p % e = 0
  · rw [hz]
    refine .inl ⟨rfl, ?_⟩
    -- e * q = i * p <= e * D < e * q + e
    have hD : ref04Deadline e p i = i * p / e := by
      refine Int.le_antisymm (Int.not_lt.1 fun hn => ?_) (Int.not_lt.1 fun hn => ?_)
      · have := Int.mul_le_mul_of_nonneg_left (show i * p / e + 1 ≤ ref04Deadline e p i by omega) (show 0 ≤ e by omega)
        rw [Int.mul_add, Int.mul_one] at this
        omega
      · have := Int.mul_le_mul_of_nonneg_left (show ref04Deadline e p i + 1 ≤ i * p / e by omega) (show 0 ≤ e by omega)
        rw [Int.mul_add, Int.mul_one] at this
        omega
    rw [hD]; omega
  · have hb : (i * p % e == 0) = false := by simpa using hz
    rw [hb]
    refine .inr ⟨rfl, ?_, ?_⟩
    · refine Int.not_le.1 fun hn => ?_
      have he : i * p = e * ref04Deadline e p i := by omega
      rw [he] at hz
      exact hz (Int.mul_emod_right e _)
    · omega
end

theorem number_elim {e p i : Int} (h : ref04Number e p i = true) : Wt e p ∧ Num i := by
  unfold ref04Number ref04Check at h
  by_cases h1 : e ≥ 1
  · by_cases h2 : e ≤ p
    · rw [decide_eq_true h1, decide_eq_true h2] at h
      simp only at h
      by_cases h3 : p ≤ 1048576
      · rw [decide_eq_true h3] at h
        simp only at h
        by_cases h4 : i ≥ 1
        · rw [decide_eq_true h4] at h
          simp only at h
          exact ⟨⟨h1, h2, h3⟩, h4, of_decide_eq_true h⟩
        · rw [decide_eq_false h4] at h; cases h
      · rw [decide_eq_false h3] at h; cases h
    · rw [decide_eq_true h1, decide_eq_false h2] at h; cases h
  · rw [decide_eq_false h1] at h; cases h

/-! ### groups -/
/-- the number of the light neighbour's window that ends the group -/
def gstar (e p d : Int) : Int := ((d - 1) * (p - e)) / p + 1

section
variable {e p i : Int} (h : Wt e p) (hi : Num i) (hv : p ≤ 2 * e)
include h hi hv

theorem heavy_deadline : ref04Deadline e p i ≤ 2199023255553 := by
  obtain ⟨h1, h2, h3⟩ := id h
  obtain ⟨h4, h5⟩ := id hi
  obtain ⟨q1, q2⟩ := deadline_of h hi
  refine Int.not_lt.1 fun hn => ?_
  have m1 := Int.mul_le_mul_of_nonneg_left (show 2 * i + 1 ≤ ref04Deadline e p i by omega) (show 0 ≤ e by omega)
  have m2 := Int.mul_le_mul_of_nonneg_left hv (show 0 ≤ i by omega)
  grind

variable (hne : e < p)
include hne
theorem gstar_of {d : Int} (hd : ref04Deadline e p i = d) :
    1 ≤ gstar e p d ∧ p * (gstar e p d - 1) ≤ (d - 1) * (p - e) ∧ (d - 1) * (p - e) < p * gstar e p d ∧ p * gstar e p d ≤ 3458764513820540928 ∧ (d - 1) * (p - e) ≤ 2305843009213693952 ∧ 0 ≤ (d - 1) * (p - e) := by
  obtain ⟨h1, h2, h3⟩ := id h
  have hd1 := (deadline_bound h hi).1
  have hd2 := heavy_deadline h hi hv
  rw [hd] at hd1 hd2
  obtain ⟨m1, m2⟩ := mul_le (a := d - 1) (b := p - e) (A := 2199023255552) (B := 1048576) (by omega) (by omega) (by omega) (by omega)
  obtain ⟨q1, q2⟩ := div_spec ((d - 1) * (p - e)) (b := p) (by omega)
  have q3 : 0 ≤ (d - 1) * (p - e) / p := Int.ediv_nonneg m1 (by omega)
  have e1 : p * gstar e p d = p * ((d - 1) * (p - e) / p) + p := by unfold gstar; rw [Int.mul_add, Int.mul_one]
  have e2 : p * (gstar e p d - 1) = p * ((d - 1) * (p - e) / p) := by unfold gstar; congr 1; omega
  refine ⟨by unfold gstar; omega, by omega, by omega, by omega, by omega, m1⟩

/-- where the group ends -/
theorem gend_of {d G : Int} (hd : ref04Deadline e p i = d) (hG : ref04Up (gstar e p d * p) (p - e) = G) :
    d ≤ G ∧ G ≤ ref04Release e p i + p := by
  obtain ⟨h1, h2, h3⟩ := id h
  obtain ⟨g1, g2, g3, g4, g5, g6⟩ := gstar_of h hi hv hne hd
  obtain ⟨u1, u2⟩ := up_of (a := gstar e p d * p) (b := p - e) (Int.mul_nonneg (by omega) (by omega)) (by rw [Int.mul_comm]; omega) (by omega) (by omega)
  obtain ⟨q1, q2⟩ := deadline_of h hi
  obtain ⟨r1, r2⟩ := release_of h hi
  rw [hd] at q1 q2
  rw [hG] at u1 u2
  refine ⟨Int.not_lt.1 fun hn => ?_, ?_⟩
  · have m1 := Int.mul_le_mul_of_nonneg_left (show G ≤ d - 1 by omega) (show 0 ≤ p - e by omega)
    grind
  · generalize hk : p - e = k at *
    generalize hg : gstar e p d = g at *
    have a1 : e * (g - 1) < i * k := by
      refine Int.not_le.1 fun hn => ?_
      have m1 := Int.mul_le_mul_of_nonneg_left hn (show 0 ≤ p by omega)
      have m2 := Int.mul_le_mul_of_nonneg_left g2 (show 0 ≤ e by omega)
      have m3 := Int.mul_le_mul_of_nonneg_left (show e * d ≤ i * p + e - 1 by omega) (show 0 ≤ k by omega)
      grind
    refine Int.not_lt.1 fun hn => ?_
    have m1 := Int.mul_le_mul_of_nonneg_left (show k * G ≤ g * p + k - 1 by omega) (show 0 ≤ e by omega)
    have m2 := Int.mul_le_mul_of_nonneg_left (show e * g ≤ i * k + e - 1 by grind) (show 0 ≤ p by omega)
    have m3 := Int.mul_le_mul_of_nonneg_left (show i * p - p - e + 1 ≤ e * ref04Release e p i by omega) (show 0 ≤ k by omega)
    have m4 := Int.mul_le_mul_of_nonneg_left (show ref04Release e p i + p + 1 ≤ G by omega) (show 0 ≤ e * k from Int.mul_nonneg (by omega) (by omega))
    have m5 := Int.mul_nonneg (show 0 ≤ e - 1 by omega) (show 0 ≤ k - 1 by omega)
    have m6 := Int.mul_nonneg m5 (show 0 ≤ p - 1 by omega)
    grind

/-- where the search starts -/
theorem gstart_of {d : Int} (hd : ref04Deadline e p i = d) :
    0 ≤ d / p * (p - e) ∧ d / p * (p - e) ≤ gstar e p d ∧ d / p * (p - e) ≤ 2305843009213693952 := by
  obtain ⟨h1, h2, h3⟩ := id h
  have hd1 := (deadline_bound h hi).1
  have hd2 := heavy_deadline h hi hv
  rw [hd] at hd1 hd2
  obtain ⟨g1, g2, g3, g4, g5, g6⟩ := gstar_of h hi hv hne hd
  obtain ⟨q1, q2⟩ := div_spec d (b := p) (by omega)
  have q3 : 0 ≤ d / p := Int.ediv_nonneg (by omega) (by omega)
  have q4 : d / p ≤ d := Int.ediv_le_self p (by omega)
  obtain ⟨m1, m2⟩ := mul_le (a := d / p) (b := p - e) (A := 2199023255552) (B := 1048576) (by omega) (by omega) (by
    have : d / p ≤ 2199023255552 := by
      refine Int.not_lt.1 fun hn => ?_
      have := Int.mul_le_mul_of_nonneg_right (show 2 ≤ p by omega) (show 0 ≤ d / p by omega)
      omega
    exact this) (by omega)
  refine ⟨m1, Int.not_lt.1 fun hn => ?_, by omega⟩
  have m3 := Int.mul_le_mul_of_nonneg_left (show gstar e p d + 1 ≤ d / p * (p - e) by omega) (show 0 ≤ p by omega)
  have m4 := Int.mul_le_mul_of_nonneg_right q1 (show 0 ≤ p - e by omega)
  grind

/-- one step of the search -/
theorem gstep_of {x : Int} (hx0 : 0 ≤ x) (hx : x ≤ gstar e p (ref04Deadline e p i)) : 0 ≤ x * p ∧ x * p ≤ 3458764513820540928 ∧
    (ref04Up (x * p) (p - e) < ref04Deadline e p i → x < gstar e p (ref04Deadline e p i)) ∧ (¬ ref04Up (x * p) (p - e) < ref04Deadline e p i → x = gstar e p (ref04Deadline e p i)) := by
  obtain ⟨h1, h2, h3⟩ := id h
  obtain ⟨g1, g2, g3, g4, g5, g6⟩ := gstar_of h hi hv hne rfl
  generalize hg : gstar e p (ref04Deadline e p i) = g at *
  generalize hdd : ref04Deadline e p i = d at *
  have b0 : 0 ≤ x * p := Int.mul_nonneg hx0 (by omega)
  have b1 : x * p ≤ p * g := by rw [Int.mul_comm p g]; exact Int.mul_le_mul_of_nonneg_right hx (by omega)
  obtain ⟨u1, u2⟩ := up_of (a := x * p) (b := p - e) b0 (by omega) (by omega) (by omega)
  refine ⟨b0, by omega, fun hlt => ?_, fun hge => ?_⟩
  · refine Int.not_le.1 fun hn => ?_
    have m1 := Int.mul_le_mul_of_nonneg_left (show ref04Up (x * p) (p - e) ≤ d - 1 by omega) (show 0 ≤ p - e by omega)
    have : x = g := by omega
    subst this
    grind
  · refine Int.le_antisymm hx (Int.not_lt.1 fun hn => ?_)
    have m1 := Int.mul_le_mul_of_nonneg_left (show d ≤ ref04Up (x * p) (p - e) by omega) (show 0 ≤ p - e by omega)
    have m2 := Int.mul_le_mul_of_nonneg_left (show x ≤ g - 1 by omega) (show 0 ≤ p by omega)
    grind
end

def ref04Group (e p i : Int) : Int :=
  if ref04Number e p i = true ∧ ref04Heavy e p = true then (if e = p then ref04Deadline e p i else ref04Up (gstar e p (ref04Deadline e p i) * p) (p - e)) else 0

/-! ### regatta/regattaref04.Group -/
def ref04GroupText (e p i : Int) : Prop := (match (!ref04Number e p i) with | true => (((ref04Group e p i = (0 : Int)) ∧ True) ∧ True) | false => (match (!ref04Heavy e p) with | true => (((ref04Group e p i = (0 : Int)) ∧ True) ∧ True) | false => (match (ref04DeadlinePre e p i) with | true => (match (e == p) with | true => (((ref04Group e p i = ref04Deadline e p i) ∧ True) ∧ True) | false => (match (p != (0 : Int)) with | true => ((∃ x : Int, ((((0 : Int) ≤ x) ∧ (x ≤ gstar e p (ref04Deadline e p i))) ∧ (((i = i) ∧ (True ∧ ((ref04Deadline e p i = ref04Deadline e p i) ∧ ((IntKind.i64.wrap (p - e) = IntKind.i64.wrap (p - e)) ∧ ((x = IntKind.i64.wrap (IntKind.i64.wrap ((ref04Deadline e p i).tdiv p) * IntKind.i64.wrap (p - e))) ∧ True))))) ∧ (((e = e) ∧ ((p = p) ∧ True)) ∧ True)))) ∧ (∀ x : Int, ((((0 : Int) ≤ x) ∧ (x ≤ gstar e p (ref04Deadline e p i))) → (match (ref04UpPre (IntKind.i64.wrap (x * p)) (IntKind.i64.wrap (p - e))) with | true => (match (decide (ref04Up (IntKind.i64.wrap (x * p)) (IntKind.i64.wrap (p - e)) < ref04Deadline e p i)) with | true => (∃ x' : Int, ((((0 : Int) ≤ x') ∧ (x' ≤ gstar e p (ref04Deadline e p i))) ∧ (((gstar e p (ref04Deadline e p i) - x').toNat < (gstar e p (ref04Deadline e p i) - x).toNat) ∧ (((i = i) ∧ (True ∧ ((ref04Deadline e p i = ref04Deadline e p i) ∧ ((IntKind.i64.wrap (p - e) = IntKind.i64.wrap (p - e)) ∧ ((x' = IntKind.i64.wrap (x + (1 : Int))) ∧ True))))) ∧ (((e = e) ∧ ((p = p) ∧ True)) ∧ True))))) | false => (match (ref04UpPre (IntKind.i64.wrap (x * p)) (IntKind.i64.wrap (p - e))) with | true => (((ref04Group e p i = ref04Up (IntKind.i64.wrap (x * p)) (IntKind.i64.wrap (p - e))) ∧ True) ∧ True) | false => False)) | false => False)))) | false => False)) | false => False)))
theorem ref04GroupVc (e p i : Int) : fnX X36 (oneLoop 10 { σ := Int, st := fun S x => (S.keep [1, 2, 7, 8]).int 9 x, inv := fun _ x => 0 ≤ x ∧ x ≤ gstar e p (ref04Deadline e p i), m := fun x => (gstar e p (ref04Deadline e p i) - x).toNat }) Try.f46 [.agg [.raw (.int .i64 e), .raw (.int .i64 p)], .raw (.int .i64 i)] [] (ends [] ⟨some (.raw (.int .i64 (ref04Group e p i))), []⟩) = ref04GroupText e p i := by kernel_rfl
theorem ref04GroupHolds (e p i : Int) : ref04GroupText e p i := by
  unfold ref04GroupText ref04Group
  cases hnum : ref04Number e p i
  · exact ⟨⟨rfl, trivial⟩, trivial⟩
  obtain ⟨h, hi⟩ := number_elim hnum
  obtain ⟨h1, h2, h3⟩ := id h
  simp only [Bool.not_true]
  cases hhv : ref04Heavy e p
  · exact ⟨⟨rfl, trivial⟩, trivial⟩
  have hv : p ≤ 2 * e := by rw [heavy_of h] at hhv; exact of_decide_eq_true hhv
  simp only [Bool.not_true, deadline_pre_of h hi]
  by_cases hep : e = p
  · have : (e == p) = true := by simpa using hep
    rw [this]
    simp [hep]
  have hne : e < p := by omega
  have hb : (e == p) = false := by simpa using hep
  have hp0 : (p != 0) = true := by simp; omega
  rw [hb, hp0]
  obtain ⟨d1, d2⟩ := deadline_bound h hi
  obtain ⟨s1, s2, s3⟩ := gstart_of h hi hv hne rfl
  have hdp : ref04Deadline e p i / p ≤ ref04Deadline e p i := Int.ediv_le_self p (by omega)
  have hdp0 : 0 ≤ ref04Deadline e p i / p := Int.ediv_nonneg (by omega) (by omega)
  have hk : IntKind.i64.wrap (p - e) = p - e := wrap_id (by omega) (by omega)
  simp only [hk, tdiv_pos (show 0 ≤ ref04Deadline e p i by omega)]
  rw [wrap_id (n := ref04Deadline e p i / p) (by omega) (by omega), wrap_id (n := ref04Deadline e p i / p * (p - e)) (by omega) (by omega)]
  refine ⟨⟨ref04Deadline e p i / p * (p - e), ⟨s1, s2⟩, by simp⟩, ?_⟩
  rintro x ⟨x0, x1⟩
  obtain ⟨b0, b1, b2, b3⟩ := gstep_of h hi hv hne x0 x1
  obtain ⟨g1, g2, g3, g4, g5, g6⟩ := gstar_of h hi hv hne rfl
  rw [wrap_id (n := x * p) (by omega) (by omega), up_pre_of (by omega)]
  by_cases hlt : ref04Up (x * p) (p - e) < ref04Deadline e p i
  · rw [decide_eq_true hlt]
    have hx := b2 hlt
    have hgm : gstar e p (ref04Deadline e p i) ≤ p * gstar e p (ref04Deadline e p i) := by
      have := Int.mul_le_mul_of_nonneg_right (show 1 ≤ p by omega) (show 0 ≤ gstar e p (ref04Deadline e p i) by omega)
      omega
    refine ⟨x + 1, ⟨by omega, by omega⟩, by omega, ?_⟩
    rw [wrap_id (n := x + 1) (by omega) (by omega)]
    simp
  · rw [decide_eq_false hlt]
    have hx := b3 hlt
    simp [hx, hep]
noncomputable def ref04GroupCon : Con T O := fun args cs => match args, cs with
  | [.agg [.raw (.int .i64 e), .raw (.int .i64 p)], .raw (.int .i64 i)], [] => .ret ⟨some (.raw (.int .i64 (ref04Group e p i))), []⟩
  | _, _ => .fail
theorem ref04GroupOk : ConOk R Try.prog 46 ref04GroupCon := con_of_fn R (X36) (TabOk.con R X36Ok) mixed Try.call46 Try.func46 ref04GroupCon (by
  intro args cs K h
  unfold ref04GroupCon at h
  split at h
  · rename_i e p i
    refine ⟨oneLoop 10 { σ := Int, st := fun S x => (S.keep [1, 2, 7, 8]).int 9 x, inv := fun _ x => 0 ≤ x ∧ x ≤ gstar e p (ref04Deadline e p i), m := fun x => (gstar e p (ref04Deadline e p i) - x).toNat }, _, fun v S hv => ⟨_, h, hv⟩, ?_⟩
    rw [ref04GroupVc e p i]
    exact ref04GroupHolds e p i
  · exact h.elim)
noncomputable def tab37 : Tab T O := (46, ref04GroupCon) :: tab36
theorem tabOk37 : TabOk R Try.prog tab37 := TabOk.cons R ref04GroupOk <| tabOk36
noncomputable def X37 : Ctx T O := { X0 with con := conOf tab37 }
theorem X37Ok : TabOk R X37.P tab37 := tabOk37
end Go.Proofs.Ytmnnjclnldaejaa

namespace Go.Proofs.Ytmnnjclnldaejaa
open Go.Sx Go.Proofs Classical
/-! ### regatta/regattaref04.Of -/
def ref04OfC0 (a0E : Int) (a0P : Int) (a1 : Int) (a2 : Int) : Int := (match (!ref04Number a0E a0P a1) with | true => ((0 : Int)) | false => (match (decide (a2 < (0 : Int))) with | true => ((0 : Int)) | false => (match (decide (a2 > (4611686018427387904 : Int))) with | true => ((0 : Int)) | false => (match (ref04DeadlinePre a0E a0P a1) with | true => (match (decide (ref04Deadline a0E a0P a1 > IntKind.i64.wrap ((4611686018427387904 : Int) - a2))) with | true => ((0 : Int)) | false => (match (decide (ref04Group a0E a0P a1 > IntKind.i64.wrap ((4611686018427387904 : Int) - a2))) with | true => ((0 : Int)) | false => (match (ref04ReleasePre a0E a0P a1) with | true => (match (ref04BitPre a0E a0P a1) with | true => (match (decide (ref04Group a0E a0P a1 > (0 : Int))) with | true => (a1) | false => (a1)) | false => 0) | false => 0))) | false => 0))))
def ref04OfC1 (a0E : Int) (a0P : Int) (a1 : Int) (a2 : Int) : Int := (match (!ref04Number a0E a0P a1) with | true => ((0 : Int)) | false => (match (decide (a2 < (0 : Int))) with | true => ((0 : Int)) | false => (match (decide (a2 > (4611686018427387904 : Int))) with | true => ((0 : Int)) | false => (match (ref04DeadlinePre a0E a0P a1) with | true => (match (decide (ref04Deadline a0E a0P a1 > IntKind.i64.wrap ((4611686018427387904 : Int) - a2))) with | true => ((0 : Int)) | false => (match (decide (ref04Group a0E a0P a1 > IntKind.i64.wrap ((4611686018427387904 : Int) - a2))) with | true => ((0 : Int)) | false => (match (ref04ReleasePre a0E a0P a1) with | true => (match (ref04BitPre a0E a0P a1) with | true => (match (decide (ref04Group a0E a0P a1 > (0 : Int))) with | true => (IntKind.i64.wrap (ref04Release a0E a0P a1 + a2)) | false => (IntKind.i64.wrap (ref04Release a0E a0P a1 + a2))) | false => 0) | false => 0))) | false => 0))))
def ref04OfC2 (a0E : Int) (a0P : Int) (a1 : Int) (a2 : Int) : Int := (match (!ref04Number a0E a0P a1) with | true => ((0 : Int)) | false => (match (decide (a2 < (0 : Int))) with | true => ((0 : Int)) | false => (match (decide (a2 > (4611686018427387904 : Int))) with | true => ((0 : Int)) | false => (match (ref04DeadlinePre a0E a0P a1) with | true => (match (decide (ref04Deadline a0E a0P a1 > IntKind.i64.wrap ((4611686018427387904 : Int) - a2))) with | true => ((0 : Int)) | false => (match (decide (ref04Group a0E a0P a1 > IntKind.i64.wrap ((4611686018427387904 : Int) - a2))) with | true => ((0 : Int)) | false => (match (ref04ReleasePre a0E a0P a1) with | true => (match (ref04BitPre a0E a0P a1) with | true => (match (decide (ref04Group a0E a0P a1 > (0 : Int))) with | true => (IntKind.i64.wrap (ref04Deadline a0E a0P a1 + a2)) | false => (IntKind.i64.wrap (ref04Deadline a0E a0P a1 + a2))) | false => 0) | false => 0))) | false => 0))))
def ref04OfC3 (a0E : Int) (a0P : Int) (a1 : Int) (a2 : Int) : Int := (match (!ref04Number a0E a0P a1) with | true => ((0 : Int)) | false => (match (decide (a2 < (0 : Int))) with | true => ((0 : Int)) | false => (match (decide (a2 > (4611686018427387904 : Int))) with | true => ((0 : Int)) | false => (match (ref04DeadlinePre a0E a0P a1) with | true => (match (decide (ref04Deadline a0E a0P a1 > IntKind.i64.wrap ((4611686018427387904 : Int) - a2))) with | true => ((0 : Int)) | false => (match (decide (ref04Group a0E a0P a1 > IntKind.i64.wrap ((4611686018427387904 : Int) - a2))) with | true => ((0 : Int)) | false => (match (ref04ReleasePre a0E a0P a1) with | true => (match (ref04BitPre a0E a0P a1) with | true => (match (decide (ref04Group a0E a0P a1 > (0 : Int))) with | true => (ref04Bit a0E a0P a1) | false => (ref04Bit a0E a0P a1)) | false => 0) | false => 0))) | false => 0))))
def ref04OfC4 (a0E : Int) (a0P : Int) (a1 : Int) (a2 : Int) : Int := (match (!ref04Number a0E a0P a1) with | true => ((0 : Int)) | false => (match (decide (a2 < (0 : Int))) with | true => ((0 : Int)) | false => (match (decide (a2 > (4611686018427387904 : Int))) with | true => ((0 : Int)) | false => (match (ref04DeadlinePre a0E a0P a1) with | true => (match (decide (ref04Deadline a0E a0P a1 > IntKind.i64.wrap ((4611686018427387904 : Int) - a2))) with | true => ((0 : Int)) | false => (match (decide (ref04Group a0E a0P a1 > IntKind.i64.wrap ((4611686018427387904 : Int) - a2))) with | true => ((0 : Int)) | false => (match (ref04ReleasePre a0E a0P a1) with | true => (match (ref04BitPre a0E a0P a1) with | true => (match (decide (ref04Group a0E a0P a1 > (0 : Int))) with | true => (IntKind.i64.wrap (ref04Group a0E a0P a1 + a2)) | false => ((0 : Int))) | false => 0) | false => 0))) | false => 0))))
def ref04OfC5 (a0E : Int) (a0P : Int) (a1 : Int) (a2 : Int) : Int := (match (!ref04Number a0E a0P a1) with | true => ((1 : Int)) | false => (match (decide (a2 < (0 : Int))) with | true => ((1 : Int)) | false => (match (decide (a2 > (4611686018427387904 : Int))) with | true => ((16 : Int)) | false => (match (ref04DeadlinePre a0E a0P a1) with | true => (match (decide (ref04Deadline a0E a0P a1 > IntKind.i64.wrap ((4611686018427387904 : Int) - a2))) with | true => ((16 : Int)) | false => (match (decide (ref04Group a0E a0P a1 > IntKind.i64.wrap ((4611686018427387904 : Int) - a2))) with | true => ((16 : Int)) | false => (match (ref04ReleasePre a0E a0P a1) with | true => (match (ref04BitPre a0E a0P a1) with | true => (match (decide (ref04Group a0E a0P a1 > (0 : Int))) with | true => ((0 : Int)) | false => ((0 : Int))) | false => 0) | false => 0))) | false => 0))))
def ref04OfPre (a0E : Int) (a0P : Int) (a1 : Int) (a2 : Int) : Bool := (match (!ref04Number a0E a0P a1) with | true => true | false => (match (decide (a2 < (0 : Int))) with | true => true | false => (match (decide (a2 > (4611686018427387904 : Int))) with | true => true | false => (match (ref04DeadlinePre a0E a0P a1) with | true => (match (decide (ref04Deadline a0E a0P a1 > IntKind.i64.wrap ((4611686018427387904 : Int) - a2))) with | true => true | false => (match (decide (ref04Group a0E a0P a1 > IntKind.i64.wrap ((4611686018427387904 : Int) - a2))) with | true => true | false => (match (ref04ReleasePre a0E a0P a1) with | true => (match (ref04BitPre a0E a0P a1) with | true => (match (decide (ref04Group a0E a0P a1 > (0 : Int))) with | true => true | false => true) | false => false) | false => false))) | false => false))))
noncomputable def ref04OfCon : Con T O := fun args cs => match args, cs with
  | [.agg [.raw (.int .i64 a0E), .raw (.int .i64 a0P)], .raw (.int .i64 a1), .raw (.int .i64 a2)], [] => chk (ref04OfPre a0E a0P a1 a2) (retv (.tup [.agg [.raw (.int .i64 (ref04OfC0 a0E a0P a1 a2)), .raw (.int .i64 (ref04OfC1 a0E a0P a1 a2)), .raw (.int .i64 (ref04OfC2 a0E a0P a1 a2)), .raw (.int .i64 (ref04OfC3 a0E a0P a1 a2)), .raw (.int .i64 (ref04OfC4 a0E a0P a1 a2))], .raw (.int .i64 (ref04OfC5 a0E a0P a1 a2))]))
  | _, _ => .fail
theorem ref04OfVc (a0E : Int) (a0P : Int) (a1 : Int) (a2 : Int) : fnX X37 noAnn Try.f20 [.agg [.raw (.int .i64 a0E), .raw (.int .i64 a0P)], .raw (.int .i64 a1), .raw (.int .i64 a2)] [] (ends [] ⟨some (.tup [.agg [.raw (.int .i64 (ref04OfC0 a0E a0P a1 a2)), .raw (.int .i64 (ref04OfC1 a0E a0P a1 a2)), .raw (.int .i64 (ref04OfC2 a0E a0P a1 a2)), .raw (.int .i64 (ref04OfC3 a0E a0P a1 a2)), .raw (.int .i64 (ref04OfC4 a0E a0P a1 a2))], .raw (.int .i64 (ref04OfC5 a0E a0P a1 a2))]), []⟩) = ((match (!ref04Number a0E a0P a1) with | true => ((((((ref04OfC0 a0E a0P a1 a2 = ((0 : Int))) ∧ ((ref04OfC1 a0E a0P a1 a2 = ((0 : Int))) ∧ ((ref04OfC2 a0E a0P a1 a2 = ((0 : Int))) ∧ ((ref04OfC3 a0E a0P a1 a2 = ((0 : Int))) ∧ ((ref04OfC4 a0E a0P a1 a2 = ((0 : Int))) ∧ True)))))) ∧ ((ref04OfC5 a0E a0P a1 a2 = ((1 : Int))) ∧ True))) ∧ True) ∧ True | false => (match (decide (a2 < (0 : Int))) with | true => ((((((ref04OfC0 a0E a0P a1 a2 = ((0 : Int))) ∧ ((ref04OfC1 a0E a0P a1 a2 = ((0 : Int))) ∧ ((ref04OfC2 a0E a0P a1 a2 = ((0 : Int))) ∧ ((ref04OfC3 a0E a0P a1 a2 = ((0 : Int))) ∧ ((ref04OfC4 a0E a0P a1 a2 = ((0 : Int))) ∧ True)))))) ∧ ((ref04OfC5 a0E a0P a1 a2 = ((1 : Int))) ∧ True))) ∧ True) ∧ True | false => (match (decide (a2 > (4611686018427387904 : Int))) with | true => ((((((ref04OfC0 a0E a0P a1 a2 = ((0 : Int))) ∧ ((ref04OfC1 a0E a0P a1 a2 = ((0 : Int))) ∧ ((ref04OfC2 a0E a0P a1 a2 = ((0 : Int))) ∧ ((ref04OfC3 a0E a0P a1 a2 = ((0 : Int))) ∧ ((ref04OfC4 a0E a0P a1 a2 = ((0 : Int))) ∧ True)))))) ∧ ((ref04OfC5 a0E a0P a1 a2 = ((16 : Int))) ∧ True))) ∧ True) ∧ True | false => (match (ref04DeadlinePre a0E a0P a1) with | true => (match (decide (ref04Deadline a0E a0P a1 > IntKind.i64.wrap ((4611686018427387904 : Int) - a2))) with | true => ((((((ref04OfC0 a0E a0P a1 a2 = ((0 : Int))) ∧ ((ref04OfC1 a0E a0P a1 a2 = ((0 : Int))) ∧ ((ref04OfC2 a0E a0P a1 a2 = ((0 : Int))) ∧ ((ref04OfC3 a0E a0P a1 a2 = ((0 : Int))) ∧ ((ref04OfC4 a0E a0P a1 a2 = ((0 : Int))) ∧ True)))))) ∧ ((ref04OfC5 a0E a0P a1 a2 = ((16 : Int))) ∧ True))) ∧ True) ∧ True | false => (match (decide (ref04Group a0E a0P a1 > IntKind.i64.wrap ((4611686018427387904 : Int) - a2))) with | true => ((((((ref04OfC0 a0E a0P a1 a2 = ((0 : Int))) ∧ ((ref04OfC1 a0E a0P a1 a2 = ((0 : Int))) ∧ ((ref04OfC2 a0E a0P a1 a2 = ((0 : Int))) ∧ ((ref04OfC3 a0E a0P a1 a2 = ((0 : Int))) ∧ ((ref04OfC4 a0E a0P a1 a2 = ((0 : Int))) ∧ True)))))) ∧ ((ref04OfC5 a0E a0P a1 a2 = ((16 : Int))) ∧ True))) ∧ True) ∧ True | false => (match (ref04ReleasePre a0E a0P a1) with | true => (match (ref04DeadlinePre a0E a0P a1) with | true => (match (ref04BitPre a0E a0P a1) with | true => (match (decide (ref04Group a0E a0P a1 > (0 : Int))) with | true => ((((((ref04OfC0 a0E a0P a1 a2 = (a1)) ∧ ((ref04OfC1 a0E a0P a1 a2 = (IntKind.i64.wrap (ref04Release a0E a0P a1 + a2))) ∧ ((ref04OfC2 a0E a0P a1 a2 = (IntKind.i64.wrap (ref04Deadline a0E a0P a1 + a2))) ∧ ((ref04OfC3 a0E a0P a1 a2 = (ref04Bit a0E a0P a1)) ∧ ((ref04OfC4 a0E a0P a1 a2 = (IntKind.i64.wrap (ref04Group a0E a0P a1 + a2))) ∧ True)))))) ∧ ((ref04OfC5 a0E a0P a1 a2 = ((0 : Int))) ∧ True))) ∧ True) ∧ True | false => ((((((ref04OfC0 a0E a0P a1 a2 = (a1)) ∧ ((ref04OfC1 a0E a0P a1 a2 = (IntKind.i64.wrap (ref04Release a0E a0P a1 + a2))) ∧ ((ref04OfC2 a0E a0P a1 a2 = (IntKind.i64.wrap (ref04Deadline a0E a0P a1 + a2))) ∧ ((ref04OfC3 a0E a0P a1 a2 = (ref04Bit a0E a0P a1)) ∧ ((ref04OfC4 a0E a0P a1 a2 = ((0 : Int))) ∧ True)))))) ∧ ((ref04OfC5 a0E a0P a1 a2 = ((0 : Int))) ∧ True))) ∧ True) ∧ True) | false => False) | false => False) | false => False))) | false => False))))) := by kernel_rfl
theorem ref04OfOk : ConOk R Try.prog 20 ref04OfCon := con_of_fn R X37 (TabOk.con R X37Ok) mixed Try.call20 Try.func20 ref04OfCon (by
  intro args cs K h
  unfold ref04OfCon at h
  split at h
  · rename_i a0E a0P a1 a2
    rw [Tree.holds_chk] at h
    obtain ⟨hp, h⟩ := h
    refine ⟨noAnn, _, fun v S hv => ⟨_, h, hv⟩, ?_⟩
    rw [ref04OfVc a0E a0P a1 a2]
    revert hp
    unfold ref04OfC0 ref04OfC1 ref04OfC2 ref04OfC3 ref04OfC4 ref04OfC5 ref04OfPre
    cases (!ref04Number a0E a0P a1)
    ·
      cases (decide (a2 < (0 : Int)))
      ·
        cases (decide (a2 > (4611686018427387904 : Int)))
        ·
          cases (ref04DeadlinePre a0E a0P a1)
          ·
            intro hp; cases hp
          ·
            cases (decide (ref04Deadline a0E a0P a1 > IntKind.i64.wrap ((4611686018427387904 : Int) - a2)))
            ·
              cases (decide (ref04Group a0E a0P a1 > IntKind.i64.wrap ((4611686018427387904 : Int) - a2)))
              ·
                cases (ref04ReleasePre a0E a0P a1)
                ·
                  intro hp; cases hp
                ·
                  cases (ref04BitPre a0E a0P a1)
                  ·
                    intro hp; cases hp
                  ·
                    cases (decide (ref04Group a0E a0P a1 > (0 : Int)))
                    ·
                      intro _; exact ⟨⟨⟨⟨rfl, ⟨rfl, ⟨rfl, ⟨rfl, ⟨rfl, trivial⟩⟩⟩⟩⟩, ⟨rfl, trivial⟩⟩, trivial⟩, trivial⟩
                    ·
                      intro _; exact ⟨⟨⟨⟨rfl, ⟨rfl, ⟨rfl, ⟨rfl, ⟨rfl, trivial⟩⟩⟩⟩⟩, ⟨rfl, trivial⟩⟩, trivial⟩, trivial⟩
              ·
                intro _; exact ⟨⟨⟨⟨rfl, ⟨rfl, ⟨rfl, ⟨rfl, ⟨rfl, trivial⟩⟩⟩⟩⟩, ⟨rfl, trivial⟩⟩, trivial⟩, trivial⟩
            ·
              intro _; exact ⟨⟨⟨⟨rfl, ⟨rfl, ⟨rfl, ⟨rfl, ⟨rfl, trivial⟩⟩⟩⟩⟩, ⟨rfl, trivial⟩⟩, trivial⟩, trivial⟩
        ·
          intro _; exact ⟨⟨⟨⟨rfl, ⟨rfl, ⟨rfl, ⟨rfl, ⟨rfl, trivial⟩⟩⟩⟩⟩, ⟨rfl, trivial⟩⟩, trivial⟩, trivial⟩
      ·
        intro _; exact ⟨⟨⟨⟨rfl, ⟨rfl, ⟨rfl, ⟨rfl, ⟨rfl, trivial⟩⟩⟩⟩⟩, ⟨rfl, trivial⟩⟩, trivial⟩, trivial⟩
    ·
      intro _; exact ⟨⟨⟨⟨rfl, ⟨rfl, ⟨rfl, ⟨rfl, ⟨rfl, trivial⟩⟩⟩⟩⟩, ⟨rfl, trivial⟩⟩, trivial⟩, trivial⟩
  · exact h.elim)
noncomputable def tab38 : Tab T O := (20, ref04OfCon) :: tab37
theorem tabOk38 : TabOk R Try.prog tab38 := TabOk.cons R ref04OfOk <| tabOk37
noncomputable def X38 : Ctx T O := { X0 with con := conOf tab38 }
theorem X38Ok : TabOk R X38.P tab38 := tabOk38
end Go.Proofs.Ytmnnjclnldaejaa

namespace Go.Proofs.Ytmnnjclnldaejaa
open Go.Sx Go.Proofs Classical

section
variable {e p i : Int} (h : Wt e p) (hi : Num i)
include h hi

theorem group_of : (p ≤ 2 * e ∧ ref04Deadline e p i ≤ ref04Group e p i ∧ ref04Group e p i ≤ ref04Release e p i + p) ∨ (2 * e < p ∧ ref04Group e p i = 0) := by
  obtain ⟨h1, h2, h3⟩ := id h
  unfold ref04Group
  by_cases hv : p ≤ 2 * e
  · rw [number_of h hi, heavy_of h, decide_eq_true hv, if_pos ⟨rfl, rfl⟩]
    refine .inl ⟨hv, ?_⟩
    by_cases hep : e = p
    · rw [if_pos hep]
      obtain ⟨q1, q2⟩ := deadline_of h hi
      obtain ⟨r1, r2⟩ := release_of h hi
      subst hep
      refine ⟨Int.le_refl _, ?_⟩
      have a1 : ref04Deadline e e i ≤ i := by
        refine Int.not_lt.1 fun hn => ?_
        have m1 := Int.mul_le_mul_of_nonneg_left (show i + 1 ≤ ref04Deadline e e i by omega) (show 0 ≤ e by omega)
        grind
      have a2 : i - 1 ≤ ref04Release e e i := by
        refine Int.not_lt.1 fun hn => ?_
        have m1 := Int.mul_le_mul_of_nonneg_left (show ref04Release e e i + 1 ≤ i - 1 by omega) (show 0 ≤ e by omega)
        grind
      omega
    · rw [if_neg hep]
      exact gend_of h hi hv (by omega) rfl rfl
  · rw [heavy_of h, decide_eq_false hv, if_neg (by simp)]
    exact .inr ⟨by omega, rfl⟩

theorem of_of : ref04OfPre e p i 0 = true ∧ ref04OfC0 e p i 0 = i ∧ ref04OfC1 e p i 0 = ref04Release e p i ∧ ref04OfC2 e p i 0 = ref04Deadline e p i ∧
    ref04OfC3 e p i 0 = ref04Bit e p i ∧ ref04OfC4 e p i 0 = ref04Group e p i ∧ ref04OfC5 e p i 0 = 0 := by
  obtain ⟨h1, h2, h3⟩ := id h
  obtain ⟨r1, r2⟩ := release_bound h hi
  obtain ⟨d1, d2⟩ := deadline_bound h hi
  have hg : 0 ≤ ref04Group e p i ∧ ref04Group e p i ≤ 1152921504607895552 := by
    rcases group_of h hi with ⟨_, a, b⟩ | ⟨_, a⟩
    · omega
    · omega
  unfold ref04OfPre ref04OfC0 ref04OfC1 ref04OfC2 ref04OfC3 ref04OfC4 ref04OfC5
  rw [number_of h hi, deadline_pre_of h hi, release_pre_of h hi, bit_pre_of h hi, wrap_id (n := 4611686018427387904 - 0) (by omega) (by omega), decide_eq_false (show ¬ ref04Deadline e p i > 4611686018427387904 - 0 by omega),
    decide_eq_false (show ¬ ref04Group e p i > 4611686018427387904 - 0 by omega), Int.add_zero, Int.add_zero, Int.add_zero, wrap_id (n := ref04Release e p i) (by omega) (by omega), wrap_id (n := ref04Deadline e p i) (by omega) (by omega), wrap_id (n := ref04Group e p i) (by omega) (by omega)]
  by_cases hp : ref04Group e p i > 0
  · rw [decide_eq_true hp]
    exact ⟨rfl, rfl, rfl, rfl, rfl, rfl, rfl⟩
  · rw [decide_eq_false hp]
    exact ⟨rfl, rfl, rfl, rfl, rfl, show 0 = ref04Group e p i by omega, rfl⟩
end
theorem minG_mem : ∀ (l : List Int) (m : Int), minG m l = m ∨ minG m l ∈ l
  | [], _ => .inl rfl
  | a :: l, m => by
    rcases minG_mem l (min m a) with h | h
    · rcases Int.le_total m a with g | g
      · left; show minG (min m a) l = m; rw [h]; omega
      · right; show minG (min m a) l ∈ a :: l; rw [h, show min m a = a by omega]; exact List.mem_cons_self ..
    · right; exact List.mem_cons_of_mem _ h
theorem leastP_mem {L : List Part} (h : PartsOk L) : ∃ a ∈ L, leastP L = a.P := by
  have hl := h.1.1
  cases L with
  | nil => simp at hl
  | cons q l =>
    rcases minG_mem (l.map Part.P) q.P with e | e
    · exact ⟨q, List.mem_cons_self .., e⟩
    · obtain ⟨a, ha, hb⟩ := List.mem_map.1 e
      exact ⟨a, List.mem_cons_of_mem _ ha, hb.symm⟩
theorem use14_eq {M : List Part} (h : PartsOk M) : use14 M = plusSum (M.map asW) := by
  unfold use14
  rw [checkL_iff.2 h]
  rfl
theorem quota14 {M : List Part} (h : PartsOk M) : decide (cmpQ (use14 M) (1, 1) > 0) = quotaQ M := by
  obtain ⟨p, h1, h2⟩ := common M fun a ha => by have := h.2 a ha; omega
  obtain ⟨t, _, s1, s2⟩ := h.share2 h2
  unfold quotaQ
  rw [use14_eq h, cmp_shares h1 s1 isShare.whole, cmp_shares h1 s2 isShare.whole]
theorem weight_cases {M : List Part} (h : PartsOk M) : (weightR M).2 = 16 ∨ ((weightR M).2 = 18 ∧ quotaQ M = true) ∨
    ∃ p t : Nat, 0 < p ∧ p ≤ 1048576 ∧ isShare (use14 M) p t ∧ t ≤ p ∧ quotaQ M = false ∧ leastP M ∣ (p : Int) ∧ sumEP p M = t ∧ (∀ a ∈ M, a.P ∣ (p : Int)) ∧ weightR M = (⟨min ((t : Int) + p / leastP M) p, p⟩, 0) := by
  unfold weightR
  rw [checkL_iff.2 h, cond_true]
  cases hg : lcmG 1 (M.map Part.P) with
  | none => exact .inl rfl
  | some p =>
    dsimp only
    have hp := lcmG_pos _ _ _ (by decide) h.p hg
    obtain ⟨_, hd⟩ := lcmG_dvd _ _ _ (by decide) h.p hg
    by_cases hb : p > 1048576
    · rw [decide_eq_true hb]; exact .inl rfl
    · rw [decide_eq_false hb, cond_false]
      by_cases hq : quotaQ M = true
      · rw [hq]; exact .inr (.inl ⟨rfl, rfl⟩)
      · have hq : quotaQ M = false := by simpa using hq
        have hs := quota_same h hg
        rw [hq] at hs
        obtain ⟨n, rfl⟩ := Int.eq_ofNat_of_zero_le (show 0 ≤ p by omega)
        have hd2 : ∀ a ∈ M, a.P ∣ (n : Int) := fun a ha => hd _ (List.mem_map_of_mem ha)
        obtain ⟨t, e, _, s2⟩ := h.share2 hd2
        obtain ⟨a, ha, hl⟩ := leastP_mem h
        have hs := of_decide_eq_false hs.symm
        rw [e] at hs
        rw [hq, cond_false, e]
        exact .inr (.inr ⟨n, t, by omega, by omega, by rw [use14_eq h]; exact s2, by omega, rfl, by rw [hl]; exact hd2 a ha, e, hd2, rfl⟩)
theorem leastP_le {M : List Part} (h : PartsOk M) : 1 ≤ leastP M ∧ leastP M ≤ 1048576 := by
  obtain ⟨a, ha, e⟩ := leastP_mem h
  have := h.2 a ha
  rw [e]
  omega
theorem want_ok {M : List Part} (h : PartsOk M) : isR (lim (plusQ (use14 M) (1, (leastP M).toNat)).1) (lim (plusQ (use14 M) (1, (leastP M).toNat)).2) ∧ small (lim (plusQ (use14 M) (1, (leastP M).toNat)).1) ∧ small (lim (plusQ (use14 M) (1, (leastP M).toNat)).2) := by
  have e : plusQ (use14 M) (1, (leastP M).toNat) = plusSum (M.map asW ++ [⟨1, leastP M⟩]) := by
    rw [plusSum_snoc, use14_eq h]
    rfl
  have hl := leastP_le h
  rw [e]
  refine plusSum_ok (fun w hw => ?_) (by rw [List.length_append, List.length_map]; have := h.1.2; simp; omega)
  rcases List.mem_append.1 hw with hw | hw
  · exact h.w w hw
  · rw [List.mem_singleton.1 hw]
    exact ⟨Int.le_refl 1, hl.1, hl.2⟩
/-- the weight is as told -/
theorem weight_told {M : List Part} (h : PartsOk M) (h0 : (weightR M).2 = 0) :
    okP (weightR M).1.E (weightR M).1.P = true ∧ (1 ≤ (weightR M).1.E ∧ (weightR M).1.E ≤ (weightR M).1.P ∧ (weightR M).1.P ≤ 1048576) ∧
    (cmpQ (plusQ (use14 M) (1, (leastP M).toNat)) (1, 1) > 0 → cmpQ ((weightR M).1.E.toNat, (weightR M).1.P.toNat) (1, 1) = 0) ∧
    (¬ cmpQ (plusQ (use14 M) (1, (leastP M).toNat)) (1, 1) > 0 → cmpQ ((weightR M).1.E.toNat, (weightR M).1.P.toNat) (plusQ (use14 M) (1, (leastP M).toNat)) = 0) := by
  rcases weight_cases h with g | ⟨g, _⟩ | ⟨p, t, p0, p1, hs, htp, _, hd, _, _, e⟩
  · rw [h0] at g; cases g
  · rw [h0] at g; cases g
  obtain ⟨l1, l2⟩ := leastP_le h
  rw [e]
  dsimp only
  obtain ⟨m, hm⟩ := Int.eq_ofNat_of_zero_le (show 0 ≤ leastP M by omega)
  rw [hm] at hd l1 l2 ⊢
  have hd' : m ∣ p := Int.natCast_dvd_natCast.1 hd
  have hmp : m ≤ p := Nat.le_of_dvd p0 hd'
  have hq : 1 ≤ p / m := (Nat.le_div_iff_mul_le (by omega)).2 (by omega)
  have hw := hs.plus (e := 1) (c := m) (by omega) hd'
  rw [Nat.one_mul] at hw
  have hE : min ((t : Int) + (p : Int) / (m : Int)) (p : Int) = ((min (t + p / m) p : Nat) : Int) := by
    rw [← Int.natCast_ediv]
    omega
  rw [hE, Int.toNat_natCast, Int.toNat_natCast, Int.toNat_natCast]
  have hme : isShare (min (t + p / m) p, p) p (min (t + p / m) p) := ⟨p0, Nat.mul_comm ..⟩
  have b1 : 1 ≤ ((min (t + p / m) p : Nat) : Int) ∧ ((min (t + p / m) p : Nat) : Int) ≤ (p : Int) ∧ (p : Int) ≤ 1048576 := by omega
  refine ⟨okP_iff.2 b1, b1, ?_, ?_⟩
  · intro g
    rw [cmp_shares p0 hw isShare.whole] at g
    have g := cmpN_pos.1 g
    rw [cmp_shares p0 hme isShare.whole, show min (t + p / m) p = p by omega, cmpN_eq]
  · intro g
    rw [cmp_shares p0 hw isShare.whole] at g
    have g : ¬ p < t + p / m := fun k => g (cmpN_pos.2 k)
    rw [cmp_shares p0 hme hw, show min (t + p / m) p = t + p / m by omega, cmpN_eq]
/-! the earliest deadline goes first: what is left of what is due -/
def missedS (t : Int) : List Own → Int
  | [] => 0
  | q :: l => missedO t q + missedS t l
theorem missedG_eq (t : Int) : ∀ (M : List Own) (n : Int), missedG t n M = n + missedS t M
  | [], n => (Int.add_zero n).symm
  | q :: M, n => by
    show missedG t (n + missedO t q) M = n + (missedO t q + missedS t M)
    rw [missedG_eq t M]; omega
theorem missedS_set (t : Int) : ∀ (M : List Own) (k : Nat) (h : k < M.length) (x : Own), missedS t (M.set k x) + missedO t M[k] = missedS t M + missedO t x
  | q :: M, 0, _, x => by
    show missedO t x + missedS t M + missedO t q = missedO t q + missedS t M + missedO t x
    omega
  | q :: M, k + 1, h, x => by
    have hk : k < M.length := by simpa using h
    have ih := missedS_set t M k hk x
    show missedO t q + missedS t (M.set k x) + missedO t M[k] = missedO t q + missedS t M + missedO t x
    omega
/-- quanta of a part's jobs that are released from a slot on and due by another one -/
def demO (a t : Int) (p : Part) : Int := p.E * max 0 (t / p.P - (a + p.P - 1) / p.P)
def demS (a t : Int) : List Part → Int
  | [] => 0
  | p :: l => demO a t p + demS a t l
def partOf (q : Own) : Part := ⟨q.PartE, q.PartP⟩
theorem demO_nn {a t : Int} {p : Part} (h : 1 ≤ p.E) : 0 ≤ demO a t p := Int.mul_nonneg (by omega) (by omega)
theorem missedS_nn {b t : Int} {M : List Own} (ht : t ≤ 1099511627776) (hb : 0 ≤ b) : (∀ q ∈ M, ∃ i, PartOk b i q) → 0 ≤ missedS t M := by
  induction M with
  | nil => intro _; exact Int.le_refl _
  | cons q M ih =>
    intro h
    obtain ⟨i, hi⟩ := h q (List.mem_cons_self ..)
    have h1 := (missedO_ok hi hb ht).1
    have h2 := ih fun x hx => h x (List.mem_cons_of_mem _ hx)
    show 0 ≤ missedO t q + missedS t M
    omega
theorem RowOk.each {b : Int} {M : List Own} (h : RowOk b M) : ∀ q ∈ M, ∃ i, PartOk b i q := by
  intro q hq
  obtain ⟨i, hi, rfl⟩ := List.getElem_of_mem hq
  exact ⟨i, h.all i hi⟩
theorem missedO_zero {t : Int} {q : Own} (h : t < q.JobDeadline) : missedO t q = 0 := by
  unfold missedO
  rw [decide_eq_false (by omega)]; rfl
theorem missedO_pos {t : Int} {q : Own} (h : q.JobDeadline ≤ t) : missedO t q = q.JobLeft + (t - q.JobDeadline) / q.PartP * q.PartE := by
  unfold missedO
  rw [decide_eq_true h]; rfl
/-- a quantum of a job that is due -/
theorem missedO_after {b i t : Int} {q : Own} (h : PartOk b i q) (hd : q.JobDeadline ≤ t) : missedO t (afterO q) = missedO t q - 1 := by
  rw [missedO_pos hd]
  have e1 := h.e1
  have ep := h.ep
  unfold afterO
  by_cases c : q.JobLeft = 1
  · rw [show (q.JobLeft - 1 == 0) = true from by rw [c]; rfl, cond_true]
    by_cases g : q.JobDeadline + q.PartP ≤ t
    · rw [missedO_pos (show (nextO (decO q)).JobDeadline ≤ t from g)]
      show q.PartE + (t - (q.JobDeadline + q.PartP)) / q.PartP * q.PartE = _
      have e : (t - q.JobDeadline) / q.PartP = (t - (q.JobDeadline + q.PartP)) / q.PartP + 1 := by
        rw [show t - q.JobDeadline = t - (q.JobDeadline + q.PartP) + 1 * q.PartP by omega, Int.add_mul_ediv_right _ _ (by omega)]
      rw [e, Int.add_mul, Int.one_mul]
      omega
    · rw [missedO_zero (show t < (nextO (decO q)).JobDeadline from by show t < q.JobDeadline + q.PartP; omega)]
      rw [Int.ediv_eq_zero_of_lt (by omega) (by omega)]
      omega
  · rw [show (q.JobLeft - 1 == 0) = false from beq_eq_false_iff_ne.2 (by omega), cond_false, missedO_pos (show (decO q).JobDeadline ≤ t from hd)]
    show q.JobLeft - 1 + (t - q.JobDeadline) / q.PartP * q.PartE = _
    omega
theorem missedO_after0 {b i t : Int} {q : Own} (h : PartOk b i q) (hd : t < q.JobDeadline) : missedO t (afterO q) = 0 := by
  have e1 := h.e1
  have ep := h.ep
  refine missedO_zero ?_
  unfold afterO
  cases q.JobLeft - 1 == 0
  · exact hd
  · show t < q.JobDeadline + q.PartP
    omega
/-- what is not released yet -/
theorem missedO_dem {i s t : Int} {q : Own} (h : PartOk 0 i q) (hs : 0 ≤ s) (hr : s < q.JobRelease) : missedO t q ≤ demO (s + 1) t (partOf q) := by
  have e1 := h.e1
  have ep := h.ep
  have hrel := h.rel
  have hdead := h.dead
  by_cases c : q.JobDeadline ≤ t
  · rw [missedO_pos c]
    unfold demO partOf
    dsimp only
    have f1 : (s + 1 + q.PartP - 1) / q.PartP ≤ q.JobIndex := by
      have : (s + 1 + q.PartP - 1) / q.PartP < q.JobIndex + 1 := by
        refine (Int.ediv_lt_iff_lt_mul (by omega)).2 ?_
        rw [Int.add_mul, Int.one_mul]; omega
      omega
    have f2 : t / q.PartP = (t - q.JobDeadline) / q.PartP + (q.JobIndex + 1) := by
      rw [← Int.add_mul_ediv_right _ _ (show q.PartP ≠ 0 by omega)]
      congr 1
      rw [Int.add_mul, Int.one_mul]; omega
    have f3 : (t - q.JobDeadline) / q.PartP + 1 ≤ max 0 (t / q.PartP - (s + 1 + q.PartP - 1) / q.PartP) := by omega
    have f4 := Int.mul_le_mul_of_nonneg_left f3 (show 0 ≤ q.PartE by omega)
    have le := h.le
    rw [Int.mul_add, Int.mul_one, Int.mul_comm q.PartE] at f4
    omega
  · rw [missedO_zero (by omega)]
    exact demO_nn e1
theorem missedS_dem {s t : Int} (hs : 0 ≤ s) : ∀ M : List Own, (∀ q ∈ M, ∃ i, PartOk 0 i q) → (∀ q ∈ M, q.JobRelease ≤ s → t < q.JobDeadline) → missedS t M ≤ demS (s + 1) t (M.map partOf)
  | [], _, _ => Int.le_refl _
  | q :: M, h, hd => by
    have ih := missedS_dem hs M (fun x hx => h x (List.mem_cons_of_mem _ hx)) (fun x hx => hd x (List.mem_cons_of_mem _ hx))
    obtain ⟨i, hi⟩ := h q (List.mem_cons_self ..)
    have h1 : missedO t q ≤ demO (s + 1) t (partOf q) := by
      by_cases c : q.JobRelease ≤ s
      · rw [missedO_zero (hd q (List.mem_cons_self ..) c)]
        exact demO_nn hi.e1
      · exact missedO_dem hi hs (by omega)
    show missedO t q + missedS t M ≤ demO (s + 1) t (partOf q) + demS (s + 1) t (M.map partOf)
    omega
theorem partOf_after (q : Own) : partOf (afterO q) = partOf q := by
  unfold afterO
  cases q.JobLeft - 1 == 0 <;> rfl
theorem parts_grant (M : List Own) (last t : Int) : (grantM M last t).map partOf = M.map partOf := by
  unfold grantM
  cases slotOk last t
  · rfl
  · by_cases hb : bestM M t ≥ 0
    · rw [decide_eq_true hb, Bool.and_self, cond_true, List.map_set, partOf_after]
      obtain ⟨k, hk⟩ := Int.eq_ofNat_of_zero_le hb
      have hl := (bestG_lo M t M.length).2
      have eB : bestM M t = bestG M t M.length := rfl
      have hkl : k < M.length := by omega
      rw [hk, Int.toNat_natCast, at_nat hkl]
      have : partOf M[k] = (M.map partOf)[k]'(by rw [List.length_map]; exact hkl) := by rw [List.getElem_map]
      rw [this, List.set_getElem_self]
    · rw [decide_eq_false hb, Bool.and_false, cond_false]
/-- what is bound: all that is left and due by t, of what came behind some quantum -/
def Bd (Sl : Nat → Int → Prop) (M : List Own) (n : Nat) (t : Int) : Prop :=
  missedS t M = 0 ∨ ∃ (q : Nat) (a : Int), q ≤ n ∧ 0 ≤ a ∧ Sl q a ∧ missedS t M + ((n : Int) - q) ≤ demS a t (M.map partOf)
theorem Bd.grant {Sl : Nat → Int → Prop} {M : List Own} {n : Nat} {last s t : Int} (hR : RowOk 0 M) (hs : slotOk last s = true) (h0 : 0 ≤ s) (ht : t ≤ 1099511627776) (hn : Sl (n + 1) (s + 1)) (h : Bd Sl M n t) : Bd Sl (grantM M last s) (n + 1) t := by
  have hns := missedS_nn (t := t) ht (Int.le_refl 0) hR.each
  have hRg : RowOk 0 (grantM M last s) := hR.grant
  have caseB : (∀ q ∈ M, q.JobRelease ≤ s → t < q.JobDeadline) → missedS t (grantM M last s) = missedS t M → Bd Sl (grantM M last s) (n + 1) t := by
    intro h1 h2
    refine .inr ⟨n + 1, s + 1, Nat.le_refl _, by omega, hn, ?_⟩
    rw [h2, parts_grant]
    have := missedS_dem h0 M hR.each h1
    omega
  by_cases hb : 0 ≤ bestM M s
  · obtain ⟨k, hk, ho⟩ := best_some hR hb
    have hg := (grantM_some hs hk ho.lt).1
    have hset := missedS_set t M k ho.lt (afterO (M[k]'ho.lt))
    have hq := hR.all k ho.lt
    by_cases c : (M[k]'ho.lt).JobDeadline ≤ t
    · have ha := missedO_after hq c
      rcases h with h | ⟨q, a, h1, h2, h3, h4⟩
      · exfalso
        have hm := missedS_nn (t := t) ht (Int.le_refl 0) hRg.each
        rw [hg] at hm
        omega
      · refine .inr ⟨q, a, by omega, h2, h3, ?_⟩
        rw [parts_grant, hg]
        omega
    · have ha := missedO_after0 hq (show t < (M[k]'ho.lt).JobDeadline by omega)
      have hz := missedO_zero (show t < (M[k]'ho.lt).JobDeadline by omega)
      refine caseB ?_ (by rw [hg]; omega)
      intro q hqm hqr
      obtain ⟨i, hi, rfl⟩ := List.getElem_of_mem hqm
      rcases ho.min i hi hqr with e | e
      · subst e; omega
      · have := (ltJ_iff _ _).1 e
        simp only [ownJ] at this
        omega
  · have hg := (grantM_none (M := M) hs hb).1
    refine caseB ?_ (by rw [hg])
    intro q hqm hqr
    obtain ⟨i, hi, rfl⟩ := List.getElem_of_mem hqm
    have := best_none hR hb i hi
    omega
theorem startL_parts {L : List Part} (t : Int) : (startL t L L.length).map partOf = L := by
  apply List.ext_getElem
  · rw [List.length_map, startL_length]
  · intro i h1 h2
    simp only [startL, List.getElem_map, List.getElem_range, at_nat h2]
    rfl
theorem missedS_start : ∀ (l : List Own) (t : Int), 0 ≤ t → (∀ q ∈ l, ∃ (i : Int) (p : Part), 1 ≤ p.E ∧ p.E ≤ p.P ∧ q = startO 0 i p) → missedS t l = demS 0 t (l.map partOf)
  | [], _, _, _ => rfl
  | q :: l, t, ht, h => by
    have ih := missedS_start l t ht fun x hx => h x (List.mem_cons_of_mem _ hx)
    obtain ⟨i, p, p1, p2, rfl⟩ := h q (List.mem_cons_self ..)
    show missedO t (startO 0 i p) + missedS t l = demO 0 t ⟨p.E, p.P⟩ + demS 0 t (l.map partOf)
    have e : missedO t (startO 0 i p) = demO 0 t ⟨p.E, p.P⟩ := by
      unfold demO
      dsimp only
      rw [Int.ediv_eq_zero_of_lt (show 0 ≤ 0 + p.P - 1 by omega) (by omega), Int.sub_zero]
      have q0 : 0 ≤ t / p.P := Int.ediv_nonneg ht (by omega)
      rw [show max 0 (t / p.P) = t / p.P by omega]
      by_cases c : p.P ≤ t
      · rw [missedO_pos (show (startO 0 i p).JobDeadline ≤ t by show 0 + p.P ≤ t; omega)]
        show p.E + (t - (0 + p.P)) / p.P * p.E = _
        have e : t / p.P = (t - (0 + p.P)) / p.P + 1 := by
          rw [← Int.add_mul_ediv_right _ _ (show p.P ≠ 0 by omega)]
          congr 1; omega
        rw [e, Int.mul_add, Int.mul_one, Int.mul_comm p.E]
        omega
      · rw [missedO_zero (show t < (startO 0 i p).JobDeadline by show t < 0 + p.P; omega), Int.ediv_eq_zero_of_lt ht (by omega), Int.mul_zero]
    rw [e, ih]
theorem Bd.start {Sl : Nat → Int → Prop} {L : List Part} (hP : PartsOk L) {t : Int} (ht : 0 ≤ t) (h0 : Sl 0 0) : Bd Sl (startL 0 L L.length) 0 t := by
  refine .inr ⟨0, 0, Nat.le_refl _, Int.le_refl _, h0, ?_⟩
  rw [missedS_start _ t ht ?_]
  · omega
  · intro q hq
    unfold startL at hq
    obtain ⟨i, hi, rfl⟩ := List.mem_map.1 hq
    have hi := List.mem_range.1 hi
    obtain ⟨o1, o2, _⟩ := hP.2 _ (List.getElem_mem hi)
    exact ⟨i, L[i], o1, o2, by rw [at_nat hi]⟩
/-- the demand, by shares of a common period -/
theorem demO_le {a t : Int} {p : Part} (h1 : 1 ≤ p.E) (h2 : p.E ≤ p.P) {A : Int} (hA : 0 ≤ A) (hd : p.P ∣ A) (hat : a ≤ t) : demO a t p * A ≤ p.E * (A / p.P) * (t - a) := by
  obtain ⟨c, rfl⟩ := hd
  have hc : 0 ≤ c := by
    rcases Int.lt_or_le c 0 with g | g
    · have := Int.mul_neg_of_pos_of_neg (show 0 < p.P by omega) g
      omega
    · exact g
  rw [Int.mul_ediv_cancel_left _ (show p.P ≠ 0 by omega)]
  unfold demO
  have key : max 0 (t / p.P - (a + p.P - 1) / p.P) * p.P ≤ t - a := by
    by_cases g : t / p.P - (a + p.P - 1) / p.P ≤ 0
    · rw [show max 0 (t / p.P - (a + p.P - 1) / p.P) = 0 by omega, Int.zero_mul]; omega
    · rw [show max 0 (t / p.P - (a + p.P - 1) / p.P) = t / p.P - (a + p.P - 1) / p.P by omega, Int.sub_mul]
      have k1 := Int.ediv_mul_le t (show p.P ≠ 0 by omega)
      have k2 := Int.lt_ediv_add_one_mul_self (a + p.P - 1) (show 0 < p.P by omega)
      rw [Int.add_mul, Int.one_mul] at k2
      omega
  generalize max 0 (t / p.P - (a + p.P - 1) / p.P) = m at key ⊢
  have k3 := Int.mul_le_mul_of_nonneg_left key (show 0 ≤ p.E * c from Int.mul_nonneg (by omega) hc)
  rw [show p.E * m * (p.P * c) = p.E * c * (m * p.P) by
    rw [Int.mul_assoc, Int.mul_assoc, Int.mul_left_comm m, ← Int.mul_assoc p.P, Int.mul_comm p.P m, Int.mul_comm (m * p.P) c]] 
  exact k3
theorem demO_pos {a t : Int} {p : Part} (h1 : 1 ≤ p.E) (h2 : p.E ≤ p.P) (h : demO a t p ≠ 0) : a + p.P ≤ t := by
  unfold demO at h
  by_cases g : t / p.P - (a + p.P - 1) / p.P ≤ 0
  · rw [show max 0 (t / p.P - (a + p.P - 1) / p.P) = 0 by omega, Int.mul_zero] at h
    exact absurd rfl h
  · have k1 := Int.ediv_mul_le t (show p.P ≠ 0 by omega)
    have k2 := Int.lt_ediv_add_one_mul_self (a + p.P - 1) (show 0 < p.P by omega)
    have k3 : ((a + p.P - 1) / p.P + 1) * p.P ≤ t / p.P * p.P := Int.mul_le_mul_of_nonneg_right (by omega) (by omega)
    omega
theorem demS_le {a t A : Int} (hA : 0 ≤ A) (hat : a ≤ t) : ∀ L : List Part, (∀ p ∈ L, 1 ≤ p.E ∧ p.E ≤ p.P ∧ p.P ∣ A) → demS a t L * A ≤ sumEP A L * (t - a)
  | [], _ => by
    show 0 * A ≤ 0 * (t - a)
    rw [Int.zero_mul, Int.zero_mul]; exact Int.le_refl _
  | p :: L, h => by
    obtain ⟨h1, h2, h3⟩ := h p (List.mem_cons_self ..)
    have ih := demS_le hA hat L fun x hx => h x (List.mem_cons_of_mem _ hx)
    have hp := demO_le h1 h2 hA h3 hat
    have e : sumEP A (p :: L) = p.E * (A / p.P) + sumEP A L := by
      unfold sumEP
      show sumG A (0 + p.E * (A / p.P)) L = _
      rw [sumG_add]; omega
    show (demO a t p + demS a t L) * A ≤ _
    rw [e, Int.add_mul, Int.add_mul]
    omega
theorem demS_pos {a t : Int} : ∀ L : List Part, (∀ p ∈ L, 1 ≤ p.E ∧ p.E ≤ p.P) → demS a t L ≠ 0 → ∃ p ∈ L, a + p.P ≤ t
  | [], _, h => absurd rfl h
  | p :: L, h, hne => by
    obtain ⟨h1, h2⟩ := h p (List.mem_cons_self ..)
    by_cases c : demO a t p = 0
    · obtain ⟨x, hx, hl⟩ := demS_pos L (fun x hx => h x (List.mem_cons_of_mem _ hx)) (by
        intro e
        apply hne
        show demO a t p + demS a t L = 0
        rw [c, e]; rfl)
      exact ⟨x, List.mem_cons_of_mem _ hx, hl⟩
    · exact ⟨p, List.mem_cons_self .., demO_pos h1 h2 c⟩
theorem minG_le : ∀ (l : List Int) (m : Int), minG m l ≤ m ∧ ∀ x ∈ l, minG m l ≤ x
  | [], m => ⟨Int.le_refl _, fun x hx => by cases hx⟩
  | a :: l, m => by
    obtain ⟨h1, h2⟩ := minG_le l (min m a)
    refine ⟨by show minG (min m a) l ≤ m; omega, ?_⟩
    intro x hx
    show minG (min m a) l ≤ x
    rcases List.mem_cons.1 hx with rfl | hx
    · omega
    · exact h2 x hx
theorem leastP_min {L : List Part} : ∀ p ∈ L, leastP L ≤ p.P := by
  intro p hp
  cases L with
  | nil => cases hp
  | cons q l =>
    have h := minG_le (l.map Part.P) q.P
    show minG q.P (l.map Part.P) ≤ p.P
    rcases List.mem_cons.1 hp with rfl | hp
    · exact h.1
    · exact h.2 _ (List.mem_map_of_mem hp)
/-- a weight's quanta: a quantum came not ahead of its window's release -/
def SlW (e p : Int) (q : Nat) (a : Int) : Prop := (q = 0 ∧ a = 0) ∨ (1 ≤ q ∧ p * ((q : Int) - 1) < e * a)
theorem Bd.none {L : List Part} (hP : PartsOk L) (hw : (weightR L).2 = 0) {M : List Own} (hM : M.map partOf = L) (hR : RowOk 0 M) {n : Nat} {t : Int} (ht : t ≤ 1099511627776)
    (h : Bd (SlW (weightR L).1.E (weightR L).1.P) M n t) (hn : (weightR L).1.E * t < (weightR L).1.P * ((n : Int) + 1)) : missedS t M = 0 := by
  rcases h with h | ⟨q, a, h1, h2, h3, h4⟩
  · exact h
  have hnn := missedS_nn (t := t) ht (Int.le_refl 0) hR.each
  by_cases hz : missedS t M = 0
  · exact hz
  exfalso
  rw [hM] at h4
  rcases weight_cases hP with g | ⟨g, _⟩ | ⟨A, u, A0, _, _, hu, _, hlA, hsum, hdiv, e⟩
  · rw [hw] at g; cases g
  · rw [hw] at g; cases g
  rw [e] at hn h3
  dsimp only at hn h3
  obtain ⟨p, hp, hpt⟩ := demS_pos L (fun p hp => ⟨(hP.2 p hp).1, (hP.2 p hp).2.1⟩) (show demS a t L ≠ 0 by omega)
  have hlm := leastP_min p hp
  obtain ⟨l1, _⟩ := leastP_le hP
  have hat : a ≤ t := by have := hP.2 p hp; omega
  have hdem := demS_le (A := (A : Int)) (by omega) hat L fun p hp => ⟨(hP.2 p hp).1, (hP.2 p hp).2.1, hdiv p hp⟩
  rw [hsum] at hdem
  obtain ⟨c, hc⟩ := hlA
  have hdc : (A : Int) / leastP L = c := by rw [hc, Int.mul_ediv_cancel_left _ (by omega)]
  rw [hdc] at hn h3
  obtain ⟨x, hx⟩ : ∃ x, x = t - a := ⟨_, rfl⟩
  have hxl : leastP L ≤ x := by omega
  have hc1 : 0 ≤ c := by
    rcases Int.lt_or_le c 0 with g | g
    · have := Int.mul_neg_of_pos_of_neg (show 0 < leastP L by omega) g
      omega
    · exact g
  have hcx : (A : Int) ≤ c * x := by
    rw [hc, Int.mul_comm]
    exact Int.mul_le_mul_of_nonneg_left hxl hc1
  have hdn : ((n : Int) - q + 1) * A ≤ demS a t L * A := Int.mul_le_mul_of_nonneg_right (by omega) (by omega)
  rw [← hx] at hdem
  have htx : t = x + a := by omega
  rw [htx, Int.mul_add] at hn
  have hux : (u : Int) * x ≤ A * x := Int.mul_le_mul_of_nonneg_right (by omega) (by omega)
  by_cases hcap : (u : Int) + c ≤ A
  · rw [show min ((u : Int) + c) A = (u : Int) + c by omega, Int.add_mul] at hn
    rw [show min ((u : Int) + c) A = (u : Int) + c by omega] at h3
    rcases h3 with ⟨q0, a0⟩ | ⟨q1, hqa⟩
    · subst q0 a0
      rw [Int.mul_zero, Int.mul_comm (A : Int)] at hn
      have := Int.le_refl (u * x)
      simp only [Int.add_mul, Int.sub_mul] at hdn hn
      omega
    · rw [Int.mul_comm (A : Int)] at hqa hn
      simp only [Int.add_mul, Int.sub_mul, Int.one_mul] at hdn hn hqa
      omega
  · rw [show min ((u : Int) + c) A = (A : Int) by omega] at hn h3
    have hn2 : x + a < (n : Int) + 1 := by
      have : (A : Int) * (x + a) < A * ((n : Int) + 1) := by rw [Int.mul_add]; exact hn
      exact Int.lt_of_mul_lt_mul_left this (by omega)
    have hqa : (q : Int) ≤ a := by
      rcases h3 with ⟨q0, a0⟩ | ⟨q1, hqa⟩
      · omega
      · have := Int.lt_of_mul_lt_mul_left hqa (by omega)
        omega
    have : ((n : Int) - q + 1) * A ≤ x * A := by rw [Int.mul_comm x]; omega
    have := Int.le_of_mul_le_mul_right this (by omega)
    omega
theorem missedM_zero {M : List Own} {last t : Int} (h : missedS t M = 0) : missedM M last t = 0 := by
  unfold missedM
  cases slotOk last t
  · rfl
  · rw [cond_true, missedG_eq, h]; rfl
theorem grant_counts (M : List Own) (last s d t : Int) : s ≤ grantServed M last s t ∧ grantServed M last s t ≤ s + 1 ∧ d ≤ grantIdle M last d t ∧ grantIdle M last d t ≤ d + 1 := by
  unfold grantServed grantIdle
  cases slotOk last t <;> cases decide (bestM M t ≥ 0) <;> simp <;> omega
structure meetsI (L : List Part) (M : List Own) (served idle last : Int) (n : Nat) : Prop where
  le : n ≤ 400
  l0 : -1 ≤ last
  l1 : last ≤ 200
  l2 : (weightR L).1.E * (last + 1) < n * (weightR L).1.P + (weightR L).1.E
  s0 : 0 ≤ served
  s1 : served ≤ n
  d0 : 0 ≤ idle
  d1 : idle ≤ n
  row : RowOk 0 M
  parts : M.map partOf = L
  bd : ∀ u : Int, 0 ≤ u → u ≤ 1099511627776 → Bd (SlW (weightR L).1.E (weightR L).1.P) M n u
theorem meetsI.init {L : List Part} (hP : PartsOk L) (hw : (weightR L).2 = 0) : meetsI L (startL 0 L L.length) 0 0 (-1) 0 := by
  obtain ⟨_, ⟨w1, _, _⟩, _⟩ := weight_told hP hw
  exact ⟨by decide, by decide, by decide, by omega, Int.le_refl _, Int.le_refl _, Int.le_refl _, Int.le_refl _, startL_ok hP (by decide) (by decide), startL_parts 0, fun u h0 _ => Bd.start hP h0 (.inl ⟨rfl, rfl⟩)⟩
theorem meetsI.step {L : List Part} {M : List Own} {s d last t r D : Int} {n : Nat} (h : meetsI L M s d last n) (hn : n < 400) (ht : last < t) (ht0 : 0 ≤ t) (ht1 : t < D) (hD : D ≤ 200) (hr : r ≤ t)
    (hr2 : ((n : Int) + 1) * (weightR L).1.P - (weightR L).1.P < (weightR L).1.E * r + (weightR L).1.E) (hE : 1 ≤ (weightR L).1.E) (hD2 : (weightR L).1.E * D < ((n : Int) + 1) * (weightR L).1.P + (weightR L).1.E) :
    meetsI L (grantM M (max last 0) t) (grantServed M (max last 0) s t) (grantIdle M (max last 0) d t) t (n + 1) := by
  obtain ⟨c1, c2, c3, c4⟩ := grant_counts M (max last 0) s d t
  have := h.s0; have := h.s1; have := h.d0; have := h.d1
  have hs : slotOk (max last 0) t = true := slotOk_iff.2 ⟨by omega, by omega⟩
  refine ⟨hn, by omega, by omega, ?_, by omega, by omega, by omega, by omega, h.row.grant, by rw [parts_grant]; exact h.parts, ?_⟩
  · have := Int.mul_le_mul_of_nonneg_left (show t + 1 ≤ D by omega) (show 0 ≤ (weightR L).1.E by omega)
    have e : ((n + 1 : Nat) : Int) = (n : Int) + 1 := by omega
    rw [e]; omega
  · intro u u0 u1
    refine (h.bd u u0 u1).grant h.row hs ht0 u1 (.inr ⟨by omega, ?_⟩)
    have := Int.mul_le_mul_of_nonneg_left (show r + 1 ≤ t + 1 by omega) (show 0 ≤ (weightR L).1.E by omega)
    rw [Int.mul_add, Int.mul_one] at this
    have e : (((n + 1 : Nat) : Int) - 1) = (n : Int) := by omega
    rw [e, Int.mul_comm]
    rw [Int.add_mul, Int.one_mul] at hr2
    omega
theorem meetsI.zero {L : List Part} (hP : PartsOk L) (hw : (weightR L).2 = 0) {M : List Own} {s d last t : Int} {n : Nat} (h : meetsI L M s d last n) (hn : (weightR L).1.E * t < ((n : Int) + 1) * (weightR L).1.P) (h1 : t ≤ 200) : missedM M (max last 0) t = 0 := by
  by_cases h0 : 0 ≤ t
  · refine missedM_zero (Bd.none hP hw h.parts h.row (by omega) (h.bd t h0 (by omega)) ?_)
    rw [Int.mul_comm (weightR L).1.P]; exact hn
  · unfold missedM
    rw [show slotOk (max last 0) t = false from by
      cases hs : slotOk (max last 0) t
      · rfl
      · have := (slotOk_iff.1 hs).1; omega]
    rfl
structure leI (a b : Int) : Prop where
  le : a ≤ b

/-! ### regatta/regattalaw14.SuperMeets -/
def superMeetsText (A : List Pair) (G : List Int) : Prop := (match (decide ((madeL A).length ≤ (100000 : Nat))) with | true => (match ((weightR (madeL A)).snd != (0 : Int)) with | true => (((true = true) ∧ True) ∧ ((A = A) ∧ ((G = G) ∧ True))) | false => (match (decide ((madeL A).length ≤ (100000 : Nat))) with | true => (match (newOk (madeL A) (0 : Int)) with | true => ((∃ x : (List Own × Int × Int) × Int × Nat, ((meetsI (madeL A) x.fst.fst x.fst.snd.fst x.fst.snd.snd x.snd.fst x.snd.snd) ∧ ((True ∧ ((true = true) ∧ (True ∧ (True ∧ ((x.snd.fst = (-1 : Int)) ∧ (((↑(x.snd.snd + (1 : Nat)) : Int) = (1 : Int)) ∧ True)))))) ∧ ((A = A) ∧ ((G = G) ∧ ((((weightR (madeL A)).fst.E = (weightR (madeL A)).fst.E) ∧ (((weightR (madeL A)).fst.P = (weightR (madeL A)).fst.P) ∧ True)) ∧ ((True ∧ ((max x.snd.fst (0 : Int) = (0 : Int)) ∧ ((x.fst.snd.fst = (0 : Int)) ∧ ((x.fst.snd.snd = (0 : Int)) ∧ True)))) ∧ ((x.fst.fst = startL (0 : Int) (madeL A) (madeL A).length) ∧ True)))))))) ∧ (∀ x : (List Own × Int × Int) × Int × Nat, ((meetsI (madeL A) x.fst.fst x.fst.snd.fst x.fst.snd.snd x.snd.fst x.snd.snd) → (match (decide ((↑(x.snd.snd + (1 : Nat)) : Int) ≤ (400 : Int))) with | true => (match (ref04OfPre (weightR (madeL A)).fst.E (weightR (madeL A)).fst.P (↑(x.snd.snd + (1 : Nat)) : Int) (0 : Int)) with | true => (match (decide (ref04OfC2 (weightR (madeL A)).fst.E (weightR (madeL A)).fst.P (↑(x.snd.snd + (1 : Nat)) : Int) (0 : Int) > (200 : Int))) with | true => (match (decide (∃ b, RowOk b x.fst.fst)) with | true => (((true = (missedM x.fst.fst (max x.snd.fst (0 : Int)) x.snd.fst == (0 : Int))) ∧ True) ∧ ((A = A) ∧ ((G = G) ∧ True))) | false => False) | false => (match (decide (ref04OfC1 (weightR (madeL A)).fst.E (weightR (madeL A)).fst.P (↑(x.snd.snd + (1 : Nat)) : Int) (0 : Int) ≤ x.snd.fst)) with | true => (match (decide (IntKind.i64.wrap (ref04OfC2 (weightR (madeL A)).fst.E (weightR (madeL A)).fst.P (↑(x.snd.snd + (1 : Nat)) : Int) (0 : Int) - IntKind.i64.wrap (x.snd.fst + (1 : Int))) < (1 : Int))) with | true => (((true = false) ∧ True) ∧ ((A = A) ∧ ((G = G) ∧ True))) | false => (match (decide ((↑G.length : Int) > (0 : Int))) with | true => (match ((↑G.length : Int) != (0 : Int)) with | true => (match (inb ((↑(x.snd.snd + (1 : Nat)) : Int).tmod (↑G.length : Int)) G.length) with | true => (match (inb ((↑(x.snd.snd + (1 : Nat)) : Int).tmod (↑G.length : Int)) G.length) with | true => (match (IntKind.i64.wrap (ref04OfC2 (weightR (madeL A)).fst.E (weightR (madeL A)).fst.P (↑(x.snd.snd + (1 : Nat)) : Int) (0 : Int) - IntKind.i64.wrap (x.snd.fst + (1 : Int))) != (0 : Int)) with | true => (match (IntKind.i64.wrap (ref04OfC2 (weightR (madeL A)).fst.E (weightR (madeL A)).fst.P (↑(x.snd.snd + (1 : Nat)) : Int) (0 : Int) - IntKind.i64.wrap (x.snd.fst + (1 : Int))) != (0 : Int)) with | true => ((∃ x1 : Nat, ((leI (↑x1 : Int) (IntKind.i64.wrap (IntKind.i64.wrap (x.snd.fst + (1 : Int)) + (IntKind.i64.wrap (Int.tmod (at' (0 : Int) G ((↑(x.snd.snd + (1 : Nat)) : Int).tmod (↑G.length : Int))) (IntKind.i64.wrap (ref04OfC2 (weightR (madeL A)).fst.E (weightR (madeL A)).fst.P (↑(x.snd.snd + (1 : Nat)) : Int) (0 : Int) - IntKind.i64.wrap (x.snd.fst + (1 : Int)))) + IntKind.i64.wrap (ref04OfC2 (weightR (madeL A)).fst.E (weightR (madeL A)).fst.P (↑(x.snd.snd + (1 : Nat)) : Int) (0 : Int) - IntKind.i64.wrap (x.snd.fst + (1 : Int))))).tmod (IntKind.i64.wrap (ref04OfC2 (weightR (madeL A)).fst.E (weightR (madeL A)).fst.P (↑(x.snd.snd + (1 : Nat)) : Int) (0 : Int) - IntKind.i64.wrap (x.snd.fst + (1 : Int))))) - x.snd.fst)) ∧ ((True ∧ ((true = true) ∧ (True ∧ (True ∧ ((x.snd.fst = x.snd.fst) ∧ (((↑(x.snd.snd + (1 : Nat)) : Int) = (↑(x.snd.snd + (1 : Nat)) : Int)) ∧ ((IntKind.i64.wrap (IntKind.i64.wrap (x.snd.fst + (1 : Int)) + (IntKind.i64.wrap (Int.tmod (at' (0 : Int) G ((↑(x.snd.snd + (1 : Nat)) : Int).tmod (↑G.length : Int))) (IntKind.i64.wrap (ref04OfC2 (weightR (madeL A)).fst.E (weightR (madeL A)).fst.P (↑(x.snd.snd + (1 : Nat)) : Int) (0 : Int) - IntKind.i64.wrap (x.snd.fst + (1 : Int)))) + IntKind.i64.wrap (ref04OfC2 (weightR (madeL A)).fst.E (weightR (madeL A)).fst.P (↑(x.snd.snd + (1 : Nat)) : Int) (0 : Int) - IntKind.i64.wrap (x.snd.fst + (1 : Int))))).tmod (IntKind.i64.wrap (ref04OfC2 (weightR (madeL A)).fst.E (weightR (madeL A)).fst.P (↑(x.snd.snd + (1 : Nat)) : Int) (0 : Int) - IntKind.i64.wrap (x.snd.fst + (1 : Int))))) = IntKind.i64.wrap (IntKind.i64.wrap (x.snd.fst + (1 : Int)) + (IntKind.i64.wrap (Int.tmod (at' (0 : Int) G ((↑(x.snd.snd + (1 : Nat)) : Int).tmod (↑G.length : Int))) (IntKind.i64.wrap (ref04OfC2 (weightR (madeL A)).fst.E (weightR (madeL A)).fst.P (↑(x.snd.snd + (1 : Nat)) : Int) (0 : Int) - IntKind.i64.wrap (x.snd.fst + (1 : Int)))) + IntKind.i64.wrap (ref04OfC2 (weightR (madeL A)).fst.E (weightR (madeL A)).fst.P (↑(x.snd.snd + (1 : Nat)) : Int) (0 : Int) - IntKind.i64.wrap (x.snd.fst + (1 : Int))))).tmod (IntKind.i64.wrap (ref04OfC2 (weightR (madeL A)).fst.E (weightR (madeL A)).fst.P (↑(x.snd.snd + (1 : Nat)) : Int) (0 : Int) - IntKind.i64.wrap (x.snd.fst + (1 : Int)))))) ∧ ((x.snd.fst + (1 : Int) + (↑x1 : Int) = IntKind.i64.wrap (x.snd.fst + (1 : Int))) ∧ True)))))))) ∧ ((A = A) ∧ ((G = G) ∧ ((((weightR (madeL A)).fst.E = (weightR (madeL A)).fst.E) ∧ (((weightR (madeL A)).fst.P = (weightR (madeL A)).fst.P) ∧ True)) ∧ ((True ∧ ((max x.snd.fst (0 : Int) = max x.snd.fst (0 : Int)) ∧ ((x.fst.snd.fst = x.fst.snd.fst) ∧ ((x.fst.snd.snd = x.fst.snd.snd) ∧ True)))) ∧ ((x.fst.fst = x.fst.fst) ∧ True)))))))) ∧ (∀ x1 : Nat, ((leI (↑x1 : Int) (IntKind.i64.wrap (IntKind.i64.wrap (x.snd.fst + (1 : Int)) + (IntKind.i64.wrap (Int.tmod (at' (0 : Int) G ((↑(x.snd.snd + (1 : Nat)) : Int).tmod (↑G.length : Int))) (IntKind.i64.wrap (ref04OfC2 (weightR (madeL A)).fst.E (weightR (madeL A)).fst.P (↑(x.snd.snd + (1 : Nat)) : Int) (0 : Int) - IntKind.i64.wrap (x.snd.fst + (1 : Int)))) + IntKind.i64.wrap (ref04OfC2 (weightR (madeL A)).fst.E (weightR (madeL A)).fst.P (↑(x.snd.snd + (1 : Nat)) : Int) (0 : Int) - IntKind.i64.wrap (x.snd.fst + (1 : Int))))).tmod (IntKind.i64.wrap (ref04OfC2 (weightR (madeL A)).fst.E (weightR (madeL A)).fst.P (↑(x.snd.snd + (1 : Nat)) : Int) (0 : Int) - IntKind.i64.wrap (x.snd.fst + (1 : Int))))) - x.snd.fst)) → (match (decide (x.snd.fst + (1 : Int) + (↑x1 : Int) ≤ IntKind.i64.wrap (IntKind.i64.wrap (x.snd.fst + (1 : Int)) + (IntKind.i64.wrap (Int.tmod (at' (0 : Int) G ((↑(x.snd.snd + (1 : Nat)) : Int).tmod (↑G.length : Int))) (IntKind.i64.wrap (ref04OfC2 (weightR (madeL A)).fst.E (weightR (madeL A)).fst.P (↑(x.snd.snd + (1 : Nat)) : Int) (0 : Int) - IntKind.i64.wrap (x.snd.fst + (1 : Int)))) + IntKind.i64.wrap (ref04OfC2 (weightR (madeL A)).fst.E (weightR (madeL A)).fst.P (↑(x.snd.snd + (1 : Nat)) : Int) (0 : Int) - IntKind.i64.wrap (x.snd.fst + (1 : Int))))).tmod (IntKind.i64.wrap (ref04OfC2 (weightR (madeL A)).fst.E (weightR (madeL A)).fst.P (↑(x.snd.snd + (1 : Nat)) : Int) (0 : Int) - IntKind.i64.wrap (x.snd.fst + (1 : Int))))))) with | true => (match (decide (∃ b, RowOk b x.fst.fst)) with | true => (match (missedM x.fst.fst (max x.snd.fst (0 : Int)) (x.snd.fst + (1 : Int) + (↑x1 : Int)) != (0 : Int)) with | true => (((true = false) ∧ True) ∧ ((A = A) ∧ ((G = G) ∧ True))) | false => (∃ x' : Nat, ((leI (↑x' : Int) (IntKind.i64.wrap (IntKind.i64.wrap (x.snd.fst + (1 : Int)) + (IntKind.i64.wrap (Int.tmod (at' (0 : Int) G ((↑(x.snd.snd + (1 : Nat)) : Int).tmod (↑G.length : Int))) (IntKind.i64.wrap (ref04OfC2 (weightR (madeL A)).fst.E (weightR (madeL A)).fst.P (↑(x.snd.snd + (1 : Nat)) : Int) (0 : Int) - IntKind.i64.wrap (x.snd.fst + (1 : Int)))) + IntKind.i64.wrap (ref04OfC2 (weightR (madeL A)).fst.E (weightR (madeL A)).fst.P (↑(x.snd.snd + (1 : Nat)) : Int) (0 : Int) - IntKind.i64.wrap (x.snd.fst + (1 : Int))))).tmod (IntKind.i64.wrap (ref04OfC2 (weightR (madeL A)).fst.E (weightR (madeL A)).fst.P (↑(x.snd.snd + (1 : Nat)) : Int) (0 : Int) - IntKind.i64.wrap (x.snd.fst + (1 : Int))))) - x.snd.fst)) ∧ (((1000 : Nat) - x' < (1000 : Nat) - x1) ∧ ((True ∧ ((true = true) ∧ (True ∧ (True ∧ ((x.snd.fst = x.snd.fst) ∧ (((↑(x.snd.snd + (1 : Nat)) : Int) = (↑(x.snd.snd + (1 : Nat)) : Int)) ∧ ((IntKind.i64.wrap (IntKind.i64.wrap (x.snd.fst + (1 : Int)) + (IntKind.i64.wrap (Int.tmod (at' (0 : Int) G ((↑(x.snd.snd + (1 : Nat)) : Int).tmod (↑G.length : Int))) (IntKind.i64.wrap (ref04OfC2 (weightR (madeL A)).fst.E (weightR (madeL A)).fst.P (↑(x.snd.snd + (1 : Nat)) : Int) (0 : Int) - IntKind.i64.wrap (x.snd.fst + (1 : Int)))) + IntKind.i64.wrap (ref04OfC2 (weightR (madeL A)).fst.E (weightR (madeL A)).fst.P (↑(x.snd.snd + (1 : Nat)) : Int) (0 : Int) - IntKind.i64.wrap (x.snd.fst + (1 : Int))))).tmod (IntKind.i64.wrap (ref04OfC2 (weightR (madeL A)).fst.E (weightR (madeL A)).fst.P (↑(x.snd.snd + (1 : Nat)) : Int) (0 : Int) - IntKind.i64.wrap (x.snd.fst + (1 : Int))))) = IntKind.i64.wrap (IntKind.i64.wrap (x.snd.fst + (1 : Int)) + (IntKind.i64.wrap (Int.tmod (at' (0 : Int) G ((↑(x.snd.snd + (1 : Nat)) : Int).tmod (↑G.length : Int))) (IntKind.i64.wrap (ref04OfC2 (weightR (madeL A)).fst.E (weightR (madeL A)).fst.P (↑(x.snd.snd + (1 : Nat)) : Int) (0 : Int) - IntKind.i64.wrap (x.snd.fst + (1 : Int)))) + IntKind.i64.wrap (ref04OfC2 (weightR (madeL A)).fst.E (weightR (madeL A)).fst.P (↑(x.snd.snd + (1 : Nat)) : Int) (0 : Int) - IntKind.i64.wrap (x.snd.fst + (1 : Int))))).tmod (IntKind.i64.wrap (ref04OfC2 (weightR (madeL A)).fst.E (weightR (madeL A)).fst.P (↑(x.snd.snd + (1 : Nat)) : Int) (0 : Int) - IntKind.i64.wrap (x.snd.fst + (1 : Int)))))) ∧ ((x.snd.fst + (1 : Int) + (↑x' : Int) = IntKind.i64.wrap (x.snd.fst + (1 : Int) + (↑x1 : Int) + (1 : Int))) ∧ True)))))))) ∧ ((A = A) ∧ ((G = G) ∧ ((((weightR (madeL A)).fst.E = (weightR (madeL A)).fst.E) ∧ (((weightR (madeL A)).fst.P = (weightR (madeL A)).fst.P) ∧ True)) ∧ ((True ∧ ((max x.snd.fst (0 : Int) = max x.snd.fst (0 : Int)) ∧ ((x.fst.snd.fst = x.fst.snd.fst) ∧ ((x.fst.snd.snd = x.fst.snd.snd) ∧ True)))) ∧ ((x.fst.fst = x.fst.fst) ∧ True)))))))))) | false => False) | false => (match (decide ((∃ b, RowOk b x.fst.fst) ∧ (0 : Int) ≤ x.fst.snd.fst ∧ x.fst.snd.fst ≤ (1099511627776 : Int) ∧ (0 : Int) ≤ x.fst.snd.snd ∧ x.fst.snd.snd ≤ (1099511627776 : Int))) with | true => (∃ x' : (List Own × Int × Int) × Int × Nat, ((meetsI (madeL A) x'.fst.fst x'.fst.snd.fst x'.fst.snd.snd x'.snd.fst x'.snd.snd) ∧ (((400 : Nat) - x'.snd.snd < (400 : Nat) - x.snd.snd) ∧ ((True ∧ ((true = true) ∧ (True ∧ (True ∧ ((x'.snd.fst = IntKind.i64.wrap (IntKind.i64.wrap (x.snd.fst + (1 : Int)) + (IntKind.i64.wrap (Int.tmod (at' (0 : Int) G ((↑(x.snd.snd + (1 : Nat)) : Int).tmod (↑G.length : Int))) (IntKind.i64.wrap (ref04OfC2 (weightR (madeL A)).fst.E (weightR (madeL A)).fst.P (↑(x.snd.snd + (1 : Nat)) : Int) (0 : Int) - IntKind.i64.wrap (x.snd.fst + (1 : Int)))) + IntKind.i64.wrap (ref04OfC2 (weightR (madeL A)).fst.E (weightR (madeL A)).fst.P (↑(x.snd.snd + (1 : Nat)) : Int) (0 : Int) - IntKind.i64.wrap (x.snd.fst + (1 : Int))))).tmod (IntKind.i64.wrap (ref04OfC2 (weightR (madeL A)).fst.E (weightR (madeL A)).fst.P (↑(x.snd.snd + (1 : Nat)) : Int) (0 : Int) - IntKind.i64.wrap (x.snd.fst + (1 : Int)))))) ∧ (((↑(x'.snd.snd + (1 : Nat)) : Int) = IntKind.i64.wrap ((↑(x.snd.snd + (1 : Nat)) : Int) + (1 : Int))) ∧ True)))))) ∧ ((A = A) ∧ ((G = G) ∧ ((((weightR (madeL A)).fst.E = (weightR (madeL A)).fst.E) ∧ (((weightR (madeL A)).fst.P = (weightR (madeL A)).fst.P) ∧ True)) ∧ ((True ∧ ((max x'.snd.fst (0 : Int) = grantLast (max x.snd.fst (0 : Int)) (IntKind.i64.wrap (IntKind.i64.wrap (x.snd.fst + (1 : Int)) + (IntKind.i64.wrap (Int.tmod (at' (0 : Int) G ((↑(x.snd.snd + (1 : Nat)) : Int).tmod (↑G.length : Int))) (IntKind.i64.wrap (ref04OfC2 (weightR (madeL A)).fst.E (weightR (madeL A)).fst.P (↑(x.snd.snd + (1 : Nat)) : Int) (0 : Int) - IntKind.i64.wrap (x.snd.fst + (1 : Int)))) + IntKind.i64.wrap (ref04OfC2 (weightR (madeL A)).fst.E (weightR (madeL A)).fst.P (↑(x.snd.snd + (1 : Nat)) : Int) (0 : Int) - IntKind.i64.wrap (x.snd.fst + (1 : Int))))).tmod (IntKind.i64.wrap (ref04OfC2 (weightR (madeL A)).fst.E (weightR (madeL A)).fst.P (↑(x.snd.snd + (1 : Nat)) : Int) (0 : Int) - IntKind.i64.wrap (x.snd.fst + (1 : Int))))))) ∧ ((x'.fst.snd.fst = grantServed x.fst.fst (max x.snd.fst (0 : Int)) x.fst.snd.fst (IntKind.i64.wrap (IntKind.i64.wrap (x.snd.fst + (1 : Int)) + (IntKind.i64.wrap (Int.tmod (at' (0 : Int) G ((↑(x.snd.snd + (1 : Nat)) : Int).tmod (↑G.length : Int))) (IntKind.i64.wrap (ref04OfC2 (weightR (madeL A)).fst.E (weightR (madeL A)).fst.P (↑(x.snd.snd + (1 : Nat)) : Int) (0 : Int) - IntKind.i64.wrap (x.snd.fst + (1 : Int)))) + IntKind.i64.wrap (ref04OfC2 (weightR (madeL A)).fst.E (weightR (madeL A)).fst.P (↑(x.snd.snd + (1 : Nat)) : Int) (0 : Int) - IntKind.i64.wrap (x.snd.fst + (1 : Int))))).tmod (IntKind.i64.wrap (ref04OfC2 (weightR (madeL A)).fst.E (weightR (madeL A)).fst.P (↑(x.snd.snd + (1 : Nat)) : Int) (0 : Int) - IntKind.i64.wrap (x.snd.fst + (1 : Int))))))) ∧ ((x'.fst.snd.snd = grantIdle x.fst.fst (max x.snd.fst (0 : Int)) x.fst.snd.snd (IntKind.i64.wrap (IntKind.i64.wrap (x.snd.fst + (1 : Int)) + (IntKind.i64.wrap (Int.tmod (at' (0 : Int) G ((↑(x.snd.snd + (1 : Nat)) : Int).tmod (↑G.length : Int))) (IntKind.i64.wrap (ref04OfC2 (weightR (madeL A)).fst.E (weightR (madeL A)).fst.P (↑(x.snd.snd + (1 : Nat)) : Int) (0 : Int) - IntKind.i64.wrap (x.snd.fst + (1 : Int)))) + IntKind.i64.wrap (ref04OfC2 (weightR (madeL A)).fst.E (weightR (madeL A)).fst.P (↑(x.snd.snd + (1 : Nat)) : Int) (0 : Int) - IntKind.i64.wrap (x.snd.fst + (1 : Int))))).tmod (IntKind.i64.wrap (ref04OfC2 (weightR (madeL A)).fst.E (weightR (madeL A)).fst.P (↑(x.snd.snd + (1 : Nat)) : Int) (0 : Int) - IntKind.i64.wrap (x.snd.fst + (1 : Int))))))) ∧ True)))) ∧ ((x'.fst.fst = grantM x.fst.fst (max x.snd.fst (0 : Int)) (IntKind.i64.wrap (IntKind.i64.wrap (x.snd.fst + (1 : Int)) + (IntKind.i64.wrap (Int.tmod (at' (0 : Int) G ((↑(x.snd.snd + (1 : Nat)) : Int).tmod (↑G.length : Int))) (IntKind.i64.wrap (ref04OfC2 (weightR (madeL A)).fst.E (weightR (madeL A)).fst.P (↑(x.snd.snd + (1 : Nat)) : Int) (0 : Int) - IntKind.i64.wrap (x.snd.fst + (1 : Int)))) + IntKind.i64.wrap (ref04OfC2 (weightR (madeL A)).fst.E (weightR (madeL A)).fst.P (↑(x.snd.snd + (1 : Nat)) : Int) (0 : Int) - IntKind.i64.wrap (x.snd.fst + (1 : Int))))).tmod (IntKind.i64.wrap (ref04OfC2 (weightR (madeL A)).fst.E (weightR (madeL A)).fst.P (↑(x.snd.snd + (1 : Nat)) : Int) (0 : Int) - IntKind.i64.wrap (x.snd.fst + (1 : Int))))))) ∧ True))))))))) | false => False))))) | false => False) | false => False) | false => False) | false => False) | false => False) | false => (match (IntKind.i64.wrap (ref04OfC2 (weightR (madeL A)).fst.E (weightR (madeL A)).fst.P (↑(x.snd.snd + (1 : Nat)) : Int) (0 : Int) - IntKind.i64.wrap (x.snd.fst + (1 : Int))) != (0 : Int)) with | true => (match (IntKind.i64.wrap (ref04OfC2 (weightR (madeL A)).fst.E (weightR (madeL A)).fst.P (↑(x.snd.snd + (1 : Nat)) : Int) (0 : Int) - IntKind.i64.wrap (x.snd.fst + (1 : Int))) != (0 : Int)) with | true => ((∃ x1 : Nat, ((leI (↑x1 : Int) (IntKind.i64.wrap (IntKind.i64.wrap (x.snd.fst + (1 : Int)) + (IntKind.i64.wrap (Int.tmod (0 : Int) (IntKind.i64.wrap (ref04OfC2 (weightR (madeL A)).fst.E (weightR (madeL A)).fst.P (↑(x.snd.snd + (1 : Nat)) : Int) (0 : Int) - IntKind.i64.wrap (x.snd.fst + (1 : Int)))) + IntKind.i64.wrap (ref04OfC2 (weightR (madeL A)).fst.E (weightR (madeL A)).fst.P (↑(x.snd.snd + (1 : Nat)) : Int) (0 : Int) - IntKind.i64.wrap (x.snd.fst + (1 : Int))))).tmod (IntKind.i64.wrap (ref04OfC2 (weightR (madeL A)).fst.E (weightR (madeL A)).fst.P (↑(x.snd.snd + (1 : Nat)) : Int) (0 : Int) - IntKind.i64.wrap (x.snd.fst + (1 : Int))))) - x.snd.fst)) ∧ ((True ∧ ((true = true) ∧ (True ∧ (True ∧ ((x.snd.fst = x.snd.fst) ∧ (((↑(x.snd.snd + (1 : Nat)) : Int) = (↑(x.snd.snd + (1 : Nat)) : Int)) ∧ ((IntKind.i64.wrap (IntKind.i64.wrap (x.snd.fst + (1 : Int)) + (IntKind.i64.wrap (Int.tmod (0 : Int) (IntKind.i64.wrap (ref04OfC2 (weightR (madeL A)).fst.E (weightR (madeL A)).fst.P (↑(x.snd.snd + (1 : Nat)) : Int) (0 : Int) - IntKind.i64.wrap (x.snd.fst + (1 : Int)))) + IntKind.i64.wrap (ref04OfC2 (weightR (madeL A)).fst.E (weightR (madeL A)).fst.P (↑(x.snd.snd + (1 : Nat)) : Int) (0 : Int) - IntKind.i64.wrap (x.snd.fst + (1 : Int))))).tmod (IntKind.i64.wrap (ref04OfC2 (weightR (madeL A)).fst.E (weightR (madeL A)).fst.P (↑(x.snd.snd + (1 : Nat)) : Int) (0 : Int) - IntKind.i64.wrap (x.snd.fst + (1 : Int))))) = IntKind.i64.wrap (IntKind.i64.wrap (x.snd.fst + (1 : Int)) + (IntKind.i64.wrap (Int.tmod (0 : Int) (IntKind.i64.wrap (ref04OfC2 (weightR (madeL A)).fst.E (weightR (madeL A)).fst.P (↑(x.snd.snd + (1 : Nat)) : Int) (0 : Int) - IntKind.i64.wrap (x.snd.fst + (1 : Int)))) + IntKind.i64.wrap (ref04OfC2 (weightR (madeL A)).fst.E (weightR (madeL A)).fst.P (↑(x.snd.snd + (1 : Nat)) : Int) (0 : Int) - IntKind.i64.wrap (x.snd.fst + (1 : Int))))).tmod (IntKind.i64.wrap (ref04OfC2 (weightR (madeL A)).fst.E (weightR (madeL A)).fst.P (↑(x.snd.snd + (1 : Nat)) : Int) (0 : Int) - IntKind.i64.wrap (x.snd.fst + (1 : Int)))))) ∧ ((x.snd.fst + (1 : Int) + (↑x1 : Int) = IntKind.i64.wrap (x.snd.fst + (1 : Int))) ∧ True)))))))) ∧ ((A = A) ∧ ((G = G) ∧ ((((weightR (madeL A)).fst.E = (weightR (madeL A)).fst.E) ∧ (((weightR (madeL A)).fst.P = (weightR (madeL A)).fst.P) ∧ True)) ∧ ((True ∧ ((max x.snd.fst (0 : Int) = max x.snd.fst (0 : Int)) ∧ ((x.fst.snd.fst = x.fst.snd.fst) ∧ ((x.fst.snd.snd = x.fst.snd.snd) ∧ True)))) ∧ ((x.fst.fst = x.fst.fst) ∧ True)))))))) ∧ (∀ x1 : Nat, ((leI (↑x1 : Int) (IntKind.i64.wrap (IntKind.i64.wrap (x.snd.fst + (1 : Int)) + (IntKind.i64.wrap (Int.tmod (0 : Int) (IntKind.i64.wrap (ref04OfC2 (weightR (madeL A)).fst.E (weightR (madeL A)).fst.P (↑(x.snd.snd + (1 : Nat)) : Int) (0 : Int) - IntKind.i64.wrap (x.snd.fst + (1 : Int)))) + IntKind.i64.wrap (ref04OfC2 (weightR (madeL A)).fst.E (weightR (madeL A)).fst.P (↑(x.snd.snd + (1 : Nat)) : Int) (0 : Int) - IntKind.i64.wrap (x.snd.fst + (1 : Int))))).tmod (IntKind.i64.wrap (ref04OfC2 (weightR (madeL A)).fst.E (weightR (madeL A)).fst.P (↑(x.snd.snd + (1 : Nat)) : Int) (0 : Int) - IntKind.i64.wrap (x.snd.fst + (1 : Int))))) - x.snd.fst)) → (match (decide (x.snd.fst + (1 : Int) + (↑x1 : Int) ≤ IntKind.i64.wrap (IntKind.i64.wrap (x.snd.fst + (1 : Int)) + (IntKind.i64.wrap (Int.tmod (0 : Int) (IntKind.i64.wrap (ref04OfC2 (weightR (madeL A)).fst.E (weightR (madeL A)).fst.P (↑(x.snd.snd + (1 : Nat)) : Int) (0 : Int) - IntKind.i64.wrap (x.snd.fst + (1 : Int)))) + IntKind.i64.wrap (ref04OfC2 (weightR (madeL A)).fst.E (weightR (madeL A)).fst.P (↑(x.snd.snd + (1 : Nat)) : Int) (0 : Int) - IntKind.i64.wrap (x.snd.fst + (1 : Int))))).tmod (IntKind.i64.wrap (ref04OfC2 (weightR (madeL A)).fst.E (weightR (madeL A)).fst.P (↑(x.snd.snd + (1 : Nat)) : Int) (0 : Int) - IntKind.i64.wrap (x.snd.fst + (1 : Int))))))) with | true => (match (decide (∃ b, RowOk b x.fst.fst)) with | true => (match (missedM x.fst.fst (max x.snd.fst (0 : Int)) (x.snd.fst + (1 : Int) + (↑x1 : Int)) != (0 : Int)) with | true => (((true = false) ∧ True) ∧ ((A = A) ∧ ((G = G) ∧ True))) | false => (∃ x' : Nat, ((leI (↑x' : Int) (IntKind.i64.wrap (IntKind.i64.wrap (x.snd.fst + (1 : Int)) + (IntKind.i64.wrap (Int.tmod (0 : Int) (IntKind.i64.wrap (ref04OfC2 (weightR (madeL A)).fst.E (weightR (madeL A)).fst.P (↑(x.snd.snd + (1 : Nat)) : Int) (0 : Int) - IntKind.i64.wrap (x.snd.fst + (1 : Int)))) + IntKind.i64.wrap (ref04OfC2 (weightR (madeL A)).fst.E (weightR (madeL A)).fst.P (↑(x.snd.snd + (1 : Nat)) : Int) (0 : Int) - IntKind.i64.wrap (x.snd.fst + (1 : Int))))).tmod (IntKind.i64.wrap (ref04OfC2 (weightR (madeL A)).fst.E (weightR (madeL A)).fst.P (↑(x.snd.snd + (1 : Nat)) : Int) (0 : Int) - IntKind.i64.wrap (x.snd.fst + (1 : Int))))) - x.snd.fst)) ∧ (((1000 : Nat) - x' < (1000 : Nat) - x1) ∧ ((True ∧ ((true = true) ∧ (True ∧ (True ∧ ((x.snd.fst = x.snd.fst) ∧ (((↑(x.snd.snd + (1 : Nat)) : Int) = (↑(x.snd.snd + (1 : Nat)) : Int)) ∧ ((IntKind.i64.wrap (IntKind.i64.wrap (x.snd.fst + (1 : Int)) + (IntKind.i64.wrap (Int.tmod (0 : Int) (IntKind.i64.wrap (ref04OfC2 (weightR (madeL A)).fst.E (weightR (madeL A)).fst.P (↑(x.snd.snd + (1 : Nat)) : Int) (0 : Int) - IntKind.i64.wrap (x.snd.fst + (1 : Int)))) + IntKind.i64.wrap (ref04OfC2 (weightR (madeL A)).fst.E (weightR (madeL A)).fst.P (↑(x.snd.snd + (1 : Nat)) : Int) (0 : Int) - IntKind.i64.wrap (x.snd.fst + (1 : Int))))).tmod (IntKind.i64.wrap (ref04OfC2 (weightR (madeL A)).fst.E (weightR (madeL A)).fst.P (↑(x.snd.snd + (1 : Nat)) : Int) (0 : Int) - IntKind.i64.wrap (x.snd.fst + (1 : Int))))) = IntKind.i64.wrap (IntKind.i64.wrap (x.snd.fst + (1 : Int)) + (IntKind.i64.wrap (Int.tmod (0 : Int) (IntKind.i64.wrap (ref04OfC2 (weightR (madeL A)).fst.E (weightR (madeL A)).fst.P (↑(x.snd.snd + (1 : Nat)) : Int) (0 : Int) - IntKind.i64.wrap (x.snd.fst + (1 : Int)))) + IntKind.i64.wrap (ref04OfC2 (weightR (madeL A)).fst.E (weightR (madeL A)).fst.P (↑(x.snd.snd + (1 : Nat)) : Int) (0 : Int) - IntKind.i64.wrap (x.snd.fst + (1 : Int))))).tmod (IntKind.i64.wrap (ref04OfC2 (weightR (madeL A)).fst.E (weightR (madeL A)).fst.P (↑(x.snd.snd + (1 : Nat)) : Int) (0 : Int) - IntKind.i64.wrap (x.snd.fst + (1 : Int)))))) ∧ ((x.snd.fst + (1 : Int) + (↑x' : Int) = IntKind.i64.wrap (x.snd.fst + (1 : Int) + (↑x1 : Int) + (1 : Int))) ∧ True)))))))) ∧ ((A = A) ∧ ((G = G) ∧ ((((weightR (madeL A)).fst.E = (weightR (madeL A)).fst.E) ∧ (((weightR (madeL A)).fst.P = (weightR (madeL A)).fst.P) ∧ True)) ∧ ((True ∧ ((max x.snd.fst (0 : Int) = max x.snd.fst (0 : Int)) ∧ ((x.fst.snd.fst = x.fst.snd.fst) ∧ ((x.fst.snd.snd = x.fst.snd.snd) ∧ True)))) ∧ ((x.fst.fst = x.fst.fst) ∧ True)))))))))) | false => False) | false => (match (decide ((∃ b, RowOk b x.fst.fst) ∧ (0 : Int) ≤ x.fst.snd.fst ∧ x.fst.snd.fst ≤ (1099511627776 : Int) ∧ (0 : Int) ≤ x.fst.snd.snd ∧ x.fst.snd.snd ≤ (1099511627776 : Int))) with | true => (∃ x' : (List Own × Int × Int) × Int × Nat, ((meetsI (madeL A) x'.fst.fst x'.fst.snd.fst x'.fst.snd.snd x'.snd.fst x'.snd.snd) ∧ (((400 : Nat) - x'.snd.snd < (400 : Nat) - x.snd.snd) ∧ ((True ∧ ((true = true) ∧ (True ∧ (True ∧ ((x'.snd.fst = IntKind.i64.wrap (IntKind.i64.wrap (x.snd.fst + (1 : Int)) + (IntKind.i64.wrap (Int.tmod (0 : Int) (IntKind.i64.wrap (ref04OfC2 (weightR (madeL A)).fst.E (weightR (madeL A)).fst.P (↑(x.snd.snd + (1 : Nat)) : Int) (0 : Int) - IntKind.i64.wrap (x.snd.fst + (1 : Int)))) + IntKind.i64.wrap (ref04OfC2 (weightR (madeL A)).fst.E (weightR (madeL A)).fst.P (↑(x.snd.snd + (1 : Nat)) : Int) (0 : Int) - IntKind.i64.wrap (x.snd.fst + (1 : Int))))).tmod (IntKind.i64.wrap (ref04OfC2 (weightR (madeL A)).fst.E (weightR (madeL A)).fst.P (↑(x.snd.snd + (1 : Nat)) : Int) (0 : Int) - IntKind.i64.wrap (x.snd.fst + (1 : Int)))))) ∧ (((↑(x'.snd.snd + (1 : Nat)) : Int) = IntKind.i64.wrap ((↑(x.snd.snd + (1 : Nat)) : Int) + (1 : Int))) ∧ True)))))) ∧ ((A = A) ∧ ((G = G) ∧ ((((weightR (madeL A)).fst.E = (weightR (madeL A)).fst.E) ∧ (((weightR (madeL A)).fst.P = (weightR (madeL A)).fst.P) ∧ True)) ∧ ((True ∧ ((max x'.snd.fst (0 : Int) = grantLast (max x.snd.fst (0 : Int)) (IntKind.i64.wrap (IntKind.i64.wrap (x.snd.fst + (1 : Int)) + (IntKind.i64.wrap (Int.tmod (0 : Int) (IntKind.i64.wrap (ref04OfC2 (weightR (madeL A)).fst.E (weightR (madeL A)).fst.P (↑(x.snd.snd + (1 : Nat)) : Int) (0 : Int) - IntKind.i64.wrap (x.snd.fst + (1 : Int)))) + IntKind.i64.wrap (ref04OfC2 (weightR (madeL A)).fst.E (weightR (madeL A)).fst.P (↑(x.snd.snd + (1 : Nat)) : Int) (0 : Int) - IntKind.i64.wrap (x.snd.fst + (1 : Int))))).tmod (IntKind.i64.wrap (ref04OfC2 (weightR (madeL A)).fst.E (weightR (madeL A)).fst.P (↑(x.snd.snd + (1 : Nat)) : Int) (0 : Int) - IntKind.i64.wrap (x.snd.fst + (1 : Int))))))) ∧ ((x'.fst.snd.fst = grantServed x.fst.fst (max x.snd.fst (0 : Int)) x.fst.snd.fst (IntKind.i64.wrap (IntKind.i64.wrap (x.snd.fst + (1 : Int)) + (IntKind.i64.wrap (Int.tmod (0 : Int) (IntKind.i64.wrap (ref04OfC2 (weightR (madeL A)).fst.E (weightR (madeL A)).fst.P (↑(x.snd.snd + (1 : Nat)) : Int) (0 : Int) - IntKind.i64.wrap (x.snd.fst + (1 : Int)))) + IntKind.i64.wrap (ref04OfC2 (weightR (madeL A)).fst.E (weightR (madeL A)).fst.P (↑(x.snd.snd + (1 : Nat)) : Int) (0 : Int) - IntKind.i64.wrap (x.snd.fst + (1 : Int))))).tmod (IntKind.i64.wrap (ref04OfC2 (weightR (madeL A)).fst.E (weightR (madeL A)).fst.P (↑(x.snd.snd + (1 : Nat)) : Int) (0 : Int) - IntKind.i64.wrap (x.snd.fst + (1 : Int))))))) ∧ ((x'.fst.snd.snd = grantIdle x.fst.fst (max x.snd.fst (0 : Int)) x.fst.snd.snd (IntKind.i64.wrap (IntKind.i64.wrap (x.snd.fst + (1 : Int)) + (IntKind.i64.wrap (Int.tmod (0 : Int) (IntKind.i64.wrap (ref04OfC2 (weightR (madeL A)).fst.E (weightR (madeL A)).fst.P (↑(x.snd.snd + (1 : Nat)) : Int) (0 : Int) - IntKind.i64.wrap (x.snd.fst + (1 : Int)))) + IntKind.i64.wrap (ref04OfC2 (weightR (madeL A)).fst.E (weightR (madeL A)).fst.P (↑(x.snd.snd + (1 : Nat)) : Int) (0 : Int) - IntKind.i64.wrap (x.snd.fst + (1 : Int))))).tmod (IntKind.i64.wrap (ref04OfC2 (weightR (madeL A)).fst.E (weightR (madeL A)).fst.P (↑(x.snd.snd + (1 : Nat)) : Int) (0 : Int) - IntKind.i64.wrap (x.snd.fst + (1 : Int))))))) ∧ True)))) ∧ ((x'.fst.fst = grantM x.fst.fst (max x.snd.fst (0 : Int)) (IntKind.i64.wrap (IntKind.i64.wrap (x.snd.fst + (1 : Int)) + (IntKind.i64.wrap (Int.tmod (0 : Int) (IntKind.i64.wrap (ref04OfC2 (weightR (madeL A)).fst.E (weightR (madeL A)).fst.P (↑(x.snd.snd + (1 : Nat)) : Int) (0 : Int) - IntKind.i64.wrap (x.snd.fst + (1 : Int)))) + IntKind.i64.wrap (ref04OfC2 (weightR (madeL A)).fst.E (weightR (madeL A)).fst.P (↑(x.snd.snd + (1 : Nat)) : Int) (0 : Int) - IntKind.i64.wrap (x.snd.fst + (1 : Int))))).tmod (IntKind.i64.wrap (ref04OfC2 (weightR (madeL A)).fst.E (weightR (madeL A)).fst.P (↑(x.snd.snd + (1 : Nat)) : Int) (0 : Int) - IntKind.i64.wrap (x.snd.fst + (1 : Int))))))) ∧ True))))))))) | false => False))))) | false => False) | false => False))) | false => (match (decide (IntKind.i64.wrap (ref04OfC2 (weightR (madeL A)).fst.E (weightR (madeL A)).fst.P (↑(x.snd.snd + (1 : Nat)) : Int) (0 : Int) - ref04OfC1 (weightR (madeL A)).fst.E (weightR (madeL A)).fst.P (↑(x.snd.snd + (1 : Nat)) : Int) (0 : Int)) < (1 : Int))) with | true => (((true = false) ∧ True) ∧ ((A = A) ∧ ((G = G) ∧ True))) | false => (match (decide ((↑G.length : Int) > (0 : Int))) with | true => (match ((↑G.length : Int) != (0 : Int)) with | true => (match (inb ((↑(x.snd.snd + (1 : Nat)) : Int).tmod (↑G.length : Int)) G.length) with | true => (match (inb ((↑(x.snd.snd + (1 : Nat)) : Int).tmod (↑G.length : Int)) G.length) with | true => (match (IntKind.i64.wrap (ref04OfC2 (weightR (madeL A)).fst.E (weightR (madeL A)).fst.P (↑(x.snd.snd + (1 : Nat)) : Int) (0 : Int) - ref04OfC1 (weightR (madeL A)).fst.E (weightR (madeL A)).fst.P (↑(x.snd.snd + (1 : Nat)) : Int) (0 : Int)) != (0 : Int)) with | true => (match (IntKind.i64.wrap (ref04OfC2 (weightR (madeL A)).fst.E (weightR (madeL A)).fst.P (↑(x.snd.snd + (1 : Nat)) : Int) (0 : Int) - ref04OfC1 (weightR (madeL A)).fst.E (weightR (madeL A)).fst.P (↑(x.snd.snd + (1 : Nat)) : Int) (0 : Int)) != (0 : Int)) with | true => ((∃ x1 : Nat, ((leI (↑x1 : Int) (IntKind.i64.wrap (ref04OfC1 (weightR (madeL A)).fst.E (weightR (madeL A)).fst.P (↑(x.snd.snd + (1 : Nat)) : Int) (0 : Int) + (IntKind.i64.wrap (Int.tmod (at' (0 : Int) G ((↑(x.snd.snd + (1 : Nat)) : Int).tmod (↑G.length : Int))) (IntKind.i64.wrap (ref04OfC2 (weightR (madeL A)).fst.E (weightR (madeL A)).fst.P (↑(x.snd.snd + (1 : Nat)) : Int) (0 : Int) - ref04OfC1 (weightR (madeL A)).fst.E (weightR (madeL A)).fst.P (↑(x.snd.snd + (1 : Nat)) : Int) (0 : Int))) + IntKind.i64.wrap (ref04OfC2 (weightR (madeL A)).fst.E (weightR (madeL A)).fst.P (↑(x.snd.snd + (1 : Nat)) : Int) (0 : Int) - ref04OfC1 (weightR (madeL A)).fst.E (weightR (madeL A)).fst.P (↑(x.snd.snd + (1 : Nat)) : Int) (0 : Int)))).tmod (IntKind.i64.wrap (ref04OfC2 (weightR (madeL A)).fst.E (weightR (madeL A)).fst.P (↑(x.snd.snd + (1 : Nat)) : Int) (0 : Int) - ref04OfC1 (weightR (madeL A)).fst.E (weightR (madeL A)).fst.P (↑(x.snd.snd + (1 : Nat)) : Int) (0 : Int)))) - x.snd.fst)) ∧ ((True ∧ ((true = true) ∧ (True ∧ (True ∧ ((x.snd.fst = x.snd.fst) ∧ (((↑(x.snd.snd + (1 : Nat)) : Int) = (↑(x.snd.snd + (1 : Nat)) : Int)) ∧ ((IntKind.i64.wrap (ref04OfC1 (weightR (madeL A)).fst.E (weightR (madeL A)).fst.P (↑(x.snd.snd + (1 : Nat)) : Int) (0 : Int) + (IntKind.i64.wrap (Int.tmod (at' (0 : Int) G ((↑(x.snd.snd + (1 : Nat)) : Int).tmod (↑G.length : Int))) (IntKind.i64.wrap (ref04OfC2 (weightR (madeL A)).fst.E (weightR (madeL A)).fst.P (↑(x.snd.snd + (1 : Nat)) : Int) (0 : Int) - ref04OfC1 (weightR (madeL A)).fst.E (weightR (madeL A)).fst.P (↑(x.snd.snd + (1 : Nat)) : Int) (0 : Int))) + IntKind.i64.wrap (ref04OfC2 (weightR (madeL A)).fst.E (weightR (madeL A)).fst.P (↑(x.snd.snd + (1 : Nat)) : Int) (0 : Int) - ref04OfC1 (weightR (madeL A)).fst.E (weightR (madeL A)).fst.P (↑(x.snd.snd + (1 : Nat)) : Int) (0 : Int)))).tmod (IntKind.i64.wrap (ref04OfC2 (weightR (madeL A)).fst.E (weightR (madeL A)).fst.P (↑(x.snd.snd + (1 : Nat)) : Int) (0 : Int) - ref04OfC1 (weightR (madeL A)).fst.E (weightR (madeL A)).fst.P (↑(x.snd.snd + (1 : Nat)) : Int) (0 : Int)))) = IntKind.i64.wrap (ref04OfC1 (weightR (madeL A)).fst.E (weightR (madeL A)).fst.P (↑(x.snd.snd + (1 : Nat)) : Int) (0 : Int) + (IntKind.i64.wrap (Int.tmod (at' (0 : Int) G ((↑(x.snd.snd + (1 : Nat)) : Int).tmod (↑G.length : Int))) (IntKind.i64.wrap (ref04OfC2 (weightR (madeL A)).fst.E (weightR (madeL A)).fst.P (↑(x.snd.snd + (1 : Nat)) : Int) (0 : Int) - ref04OfC1 (weightR (madeL A)).fst.E (weightR (madeL A)).fst.P (↑(x.snd.snd + (1 : Nat)) : Int) (0 : Int))) + IntKind.i64.wrap (ref04OfC2 (weightR (madeL A)).fst.E (weightR (madeL A)).fst.P (↑(x.snd.snd + (1 : Nat)) : Int) (0 : Int) - ref04OfC1 (weightR (madeL A)).fst.E (weightR (madeL A)).fst.P (↑(x.snd.snd + (1 : Nat)) : Int) (0 : Int)))).tmod (IntKind.i64.wrap (ref04OfC2 (weightR (madeL A)).fst.E (weightR (madeL A)).fst.P (↑(x.snd.snd + (1 : Nat)) : Int) (0 : Int) - ref04OfC1 (weightR (madeL A)).fst.E (weightR (madeL A)).fst.P (↑(x.snd.snd + (1 : Nat)) : Int) (0 : Int))))) ∧ ((x.snd.fst + (1 : Int) + (↑x1 : Int) = IntKind.i64.wrap (x.snd.fst + (1 : Int))) ∧ True)))))))) ∧ ((A = A) ∧ ((G = G) ∧ ((((weightR (madeL A)).fst.E = (weightR (madeL A)).fst.E) ∧ (((weightR (madeL A)).fst.P = (weightR (madeL A)).fst.P) ∧ True)) ∧ ((True ∧ ((max x.snd.fst (0 : Int) = max x.snd.fst (0 : Int)) ∧ ((x.fst.snd.fst = x.fst.snd.fst) ∧ ((x.fst.snd.snd = x.fst.snd.snd) ∧ True)))) ∧ ((x.fst.fst = x.fst.fst) ∧ True)))))))) ∧ (∀ x1 : Nat, ((leI (↑x1 : Int) (IntKind.i64.wrap (ref04OfC1 (weightR (madeL A)).fst.E (weightR (madeL A)).fst.P (↑(x.snd.snd + (1 : Nat)) : Int) (0 : Int) + (IntKind.i64.wrap (Int.tmod (at' (0 : Int) G ((↑(x.snd.snd + (1 : Nat)) : Int).tmod (↑G.length : Int))) (IntKind.i64.wrap (ref04OfC2 (weightR (madeL A)).fst.E (weightR (madeL A)).fst.P (↑(x.snd.snd + (1 : Nat)) : Int) (0 : Int) - ref04OfC1 (weightR (madeL A)).fst.E (weightR (madeL A)).fst.P (↑(x.snd.snd + (1 : Nat)) : Int) (0 : Int))) + IntKind.i64.wrap (ref04OfC2 (weightR (madeL A)).fst.E (weightR (madeL A)).fst.P (↑(x.snd.snd + (1 : Nat)) : Int) (0 : Int) - ref04OfC1 (weightR (madeL A)).fst.E (weightR (madeL A)).fst.P (↑(x.snd.snd + (1 : Nat)) : Int) (0 : Int)))).tmod (IntKind.i64.wrap (ref04OfC2 (weightR (madeL A)).fst.E (weightR (madeL A)).fst.P (↑(x.snd.snd + (1 : Nat)) : Int) (0 : Int) - ref04OfC1 (weightR (madeL A)).fst.E (weightR (madeL A)).fst.P (↑(x.snd.snd + (1 : Nat)) : Int) (0 : Int)))) - x.snd.fst)) → (match (decide (x.snd.fst + (1 : Int) + (↑x1 : Int) ≤ IntKind.i64.wrap (ref04OfC1 (weightR (madeL A)).fst.E (weightR (madeL A)).fst.P (↑(x.snd.snd + (1 : Nat)) : Int) (0 : Int) + (IntKind.i64.wrap (Int.tmod (at' (0 : Int) G ((↑(x.snd.snd + (1 : Nat)) : Int).tmod (↑G.length : Int))) (IntKind.i64.wrap (ref04OfC2 (weightR (madeL A)).fst.E (weightR (madeL A)).fst.P (↑(x.snd.snd + (1 : Nat)) : Int) (0 : Int) - ref04OfC1 (weightR (madeL A)).fst.E (weightR (madeL A)).fst.P (↑(x.snd.snd + (1 : Nat)) : Int) (0 : Int))) + IntKind.i64.wrap (ref04OfC2 (weightR (madeL A)).fst.E (weightR (madeL A)).fst.P (↑(x.snd.snd + (1 : Nat)) : Int) (0 : Int) - ref04OfC1 (weightR (madeL A)).fst.E (weightR (madeL A)).fst.P (↑(x.snd.snd + (1 : Nat)) : Int) (0 : Int)))).tmod (IntKind.i64.wrap (ref04OfC2 (weightR (madeL A)).fst.E (weightR (madeL A)).fst.P (↑(x.snd.snd + (1 : Nat)) : Int) (0 : Int) - ref04OfC1 (weightR (madeL A)).fst.E (weightR (madeL A)).fst.P (↑(x.snd.snd + (1 : Nat)) : Int) (0 : Int)))))) with | true => (match (decide (∃ b, RowOk b x.fst.fst)) with | true => (match (missedM x.fst.fst (max x.snd.fst (0 : Int)) (x.snd.fst + (1 : Int) + (↑x1 : Int)) != (0 : Int)) with | true => (((true = false) ∧ True) ∧ ((A = A) ∧ ((G = G) ∧ True))) | false => (∃ x' : Nat, ((leI (↑x' : Int) (IntKind.i64.wrap (ref04OfC1 (weightR (madeL A)).fst.E (weightR (madeL A)).fst.P (↑(x.snd.snd + (1 : Nat)) : Int) (0 : Int) + (IntKind.i64.wrap (Int.tmod (at' (0 : Int) G ((↑(x.snd.snd + (1 : Nat)) : Int).tmod (↑G.length : Int))) (IntKind.i64.wrap (ref04OfC2 (weightR (madeL A)).fst.E (weightR (madeL A)).fst.P (↑(x.snd.snd + (1 : Nat)) : Int) (0 : Int) - ref04OfC1 (weightR (madeL A)).fst.E (weightR (madeL A)).fst.P (↑(x.snd.snd + (1 : Nat)) : Int) (0 : Int))) + IntKind.i64.wrap (ref04OfC2 (weightR (madeL A)).fst.E (weightR (madeL A)).fst.P (↑(x.snd.snd + (1 : Nat)) : Int) (0 : Int) - ref04OfC1 (weightR (madeL A)).fst.E (weightR (madeL A)).fst.P (↑(x.snd.snd + (1 : Nat)) : Int) (0 : Int)))).tmod (IntKind.i64.wrap (ref04OfC2 (weightR (madeL A)).fst.E (weightR (madeL A)).fst.P (↑(x.snd.snd + (1 : Nat)) : Int) (0 : Int) - ref04OfC1 (weightR (madeL A)).fst.E (weightR (madeL A)).fst.P (↑(x.snd.snd + (1 : Nat)) : Int) (0 : Int)))) - x.snd.fst)) ∧ (((1000 : Nat) - x' < (1000 : Nat) - x1) ∧ ((True ∧ ((true = true) ∧ (True ∧ (True ∧ ((x.snd.fst = x.snd.fst) ∧ (((↑(x.snd.snd + (1 : Nat)) : Int) = (↑(x.snd.snd + (1 : Nat)) : Int)) ∧ ((IntKind.i64.wrap (ref04OfC1 (weightR (madeL A)).fst.E (weightR (madeL A)).fst.P (↑(x.snd.snd + (1 : Nat)) : Int) (0 : Int) + (IntKind.i64.wrap (Int.tmod (at' (0 : Int) G ((↑(x.snd.snd + (1 : Nat)) : Int).tmod (↑G.length : Int))) (IntKind.i64.wrap (ref04OfC2 (weightR (madeL A)).fst.E (weightR (madeL A)).fst.P (↑(x.snd.snd + (1 : Nat)) : Int) (0 : Int) - ref04OfC1 (weightR (madeL A)).fst.E (weightR (madeL A)).fst.P (↑(x.snd.snd + (1 : Nat)) : Int) (0 : Int))) + IntKind.i64.wrap (ref04OfC2 (weightR (madeL A)).fst.E (weightR (madeL A)).fst.P (↑(x.snd.snd + (1 : Nat)) : Int) (0 : Int) - ref04OfC1 (weightR (madeL A)).fst.E (weightR (madeL A)).fst.P (↑(x.snd.snd + (1 : Nat)) : Int) (0 : Int)))).tmod (IntKind.i64.wrap (ref04OfC2 (weightR (madeL A)).fst.E (weightR (madeL A)).fst.P (↑(x.snd.snd + (1 : Nat)) : Int) (0 : Int) - ref04OfC1 (weightR (madeL A)).fst.E (weightR (madeL A)).fst.P (↑(x.snd.snd + (1 : Nat)) : Int) (0 : Int)))) = IntKind.i64.wrap (ref04OfC1 (weightR (madeL A)).fst.E (weightR (madeL A)).fst.P (↑(x.snd.snd + (1 : Nat)) : Int) (0 : Int) + (IntKind.i64.wrap (Int.tmod (at' (0 : Int) G ((↑(x.snd.snd + (1 : Nat)) : Int).tmod (↑G.length : Int))) (IntKind.i64.wrap (ref04OfC2 (weightR (madeL A)).fst.E (weightR (madeL A)).fst.P (↑(x.snd.snd + (1 : Nat)) : Int) (0 : Int) - ref04OfC1 (weightR (madeL A)).fst.E (weightR (madeL A)).fst.P (↑(x.snd.snd + (1 : Nat)) : Int) (0 : Int))) + IntKind.i64.wrap (ref04OfC2 (weightR (madeL A)).fst.E (weightR (madeL A)).fst.P (↑(x.snd.snd + (1 : Nat)) : Int) (0 : Int) - ref04OfC1 (weightR (madeL A)).fst.E (weightR (madeL A)).fst.P (↑(x.snd.snd + (1 : Nat)) : Int) (0 : Int)))).tmod (IntKind.i64.wrap (ref04OfC2 (weightR (madeL A)).fst.E (weightR (madeL A)).fst.P (↑(x.snd.snd + (1 : Nat)) : Int) (0 : Int) - ref04OfC1 (weightR (madeL A)).fst.E (weightR (madeL A)).fst.P (↑(x.snd.snd + (1 : Nat)) : Int) (0 : Int))))) ∧ ((x.snd.fst + (1 : Int) + (↑x' : Int) = IntKind.i64.wrap (x.snd.fst + (1 : Int) + (↑x1 : Int) + (1 : Int))) ∧ True)))))))) ∧ ((A = A) ∧ ((G = G) ∧ ((((weightR (madeL A)).fst.E = (weightR (madeL A)).fst.E) ∧ (((weightR (madeL A)).fst.P = (weightR (madeL A)).fst.P) ∧ True)) ∧ ((True ∧ ((max x.snd.fst (0 : Int) = max x.snd.fst (0 : Int)) ∧ ((x.fst.snd.fst = x.fst.snd.fst) ∧ ((x.fst.snd.snd = x.fst.snd.snd) ∧ True)))) ∧ ((x.fst.fst = x.fst.fst) ∧ True)))))))))) | false => False) | false => (match (decide ((∃ b, RowOk b x.fst.fst) ∧ (0 : Int) ≤ x.fst.snd.fst ∧ x.fst.snd.fst ≤ (1099511627776 : Int) ∧ (0 : Int) ≤ x.fst.snd.snd ∧ x.fst.snd.snd ≤ (1099511627776 : Int))) with | true => (∃ x' : (List Own × Int × Int) × Int × Nat, ((meetsI (madeL A) x'.fst.fst x'.fst.snd.fst x'.fst.snd.snd x'.snd.fst x'.snd.snd) ∧ (((400 : Nat) - x'.snd.snd < (400 : Nat) - x.snd.snd) ∧ ((True ∧ ((true = true) ∧ (True ∧ (True ∧ ((x'.snd.fst = IntKind.i64.wrap (ref04OfC1 (weightR (madeL A)).fst.E (weightR (madeL A)).fst.P (↑(x.snd.snd + (1 : Nat)) : Int) (0 : Int) + (IntKind.i64.wrap (Int.tmod (at' (0 : Int) G ((↑(x.snd.snd + (1 : Nat)) : Int).tmod (↑G.length : Int))) (IntKind.i64.wrap (ref04OfC2 (weightR (madeL A)).fst.E (weightR (madeL A)).fst.P (↑(x.snd.snd + (1 : Nat)) : Int) (0 : Int) - ref04OfC1 (weightR (madeL A)).fst.E (weightR (madeL A)).fst.P (↑(x.snd.snd + (1 : Nat)) : Int) (0 : Int))) + IntKind.i64.wrap (ref04OfC2 (weightR (madeL A)).fst.E (weightR (madeL A)).fst.P (↑(x.snd.snd + (1 : Nat)) : Int) (0 : Int) - ref04OfC1 (weightR (madeL A)).fst.E (weightR (madeL A)).fst.P (↑(x.snd.snd + (1 : Nat)) : Int) (0 : Int)))).tmod (IntKind.i64.wrap (ref04OfC2 (weightR (madeL A)).fst.E (weightR (madeL A)).fst.P (↑(x.snd.snd + (1 : Nat)) : Int) (0 : Int) - ref04OfC1 (weightR (madeL A)).fst.E (weightR (madeL A)).fst.P (↑(x.snd.snd + (1 : Nat)) : Int) (0 : Int))))) ∧ (((↑(x'.snd.snd + (1 : Nat)) : Int) = IntKind.i64.wrap ((↑(x.snd.snd + (1 : Nat)) : Int) + (1 : Int))) ∧ True)))))) ∧ ((A = A) ∧ ((G = G) ∧ ((((weightR (madeL A)).fst.E = (weightR (madeL A)).fst.E) ∧ (((weightR (madeL A)).fst.P = (weightR (madeL A)).fst.P) ∧ True)) ∧ ((True ∧ ((max x'.snd.fst (0 : Int) = grantLast (max x.snd.fst (0 : Int)) (IntKind.i64.wrap (ref04OfC1 (weightR (madeL A)).fst.E (weightR (madeL A)).fst.P (↑(x.snd.snd + (1 : Nat)) : Int) (0 : Int) + (IntKind.i64.wrap (Int.tmod (at' (0 : Int) G ((↑(x.snd.snd + (1 : Nat)) : Int).tmod (↑G.length : Int))) (IntKind.i64.wrap (ref04OfC2 (weightR (madeL A)).fst.E (weightR (madeL A)).fst.P (↑(x.snd.snd + (1 : Nat)) : Int) (0 : Int) - ref04OfC1 (weightR (madeL A)).fst.E (weightR (madeL A)).fst.P (↑(x.snd.snd + (1 : Nat)) : Int) (0 : Int))) + IntKind.i64.wrap (ref04OfC2 (weightR (madeL A)).fst.E (weightR (madeL A)).fst.P (↑(x.snd.snd + (1 : Nat)) : Int) (0 : Int) - ref04OfC1 (weightR (madeL A)).fst.E (weightR (madeL A)).fst.P (↑(x.snd.snd + (1 : Nat)) : Int) (0 : Int)))).tmod (IntKind.i64.wrap (ref04OfC2 (weightR (madeL A)).fst.E (weightR (madeL A)).fst.P (↑(x.snd.snd + (1 : Nat)) : Int) (0 : Int) - ref04OfC1 (weightR (madeL A)).fst.E (weightR (madeL A)).fst.P (↑(x.snd.snd + (1 : Nat)) : Int) (0 : Int)))))) ∧ ((x'.fst.snd.fst = grantServed x.fst.fst (max x.snd.fst (0 : Int)) x.fst.snd.fst (IntKind.i64.wrap (ref04OfC1 (weightR (madeL A)).fst.E (weightR (madeL A)).fst.P (↑(x.snd.snd + (1 : Nat)) : Int) (0 : Int) + (IntKind.i64.wrap (Int.tmod (at' (0 : Int) G ((↑(x.snd.snd + (1 : Nat)) : Int).tmod (↑G.length : Int))) (IntKind.i64.wrap (ref04OfC2 (weightR (madeL A)).fst.E (weightR (madeL A)).fst.P (↑(x.snd.snd + (1 : Nat)) : Int) (0 : Int) - ref04OfC1 (weightR (madeL A)).fst.E (weightR (madeL A)).fst.P (↑(x.snd.snd + (1 : Nat)) : Int) (0 : Int))) + IntKind.i64.wrap (ref04OfC2 (weightR (madeL A)).fst.E (weightR (madeL A)).fst.P (↑(x.snd.snd + (1 : Nat)) : Int) (0 : Int) - ref04OfC1 (weightR (madeL A)).fst.E (weightR (madeL A)).fst.P (↑(x.snd.snd + (1 : Nat)) : Int) (0 : Int)))).tmod (IntKind.i64.wrap (ref04OfC2 (weightR (madeL A)).fst.E (weightR (madeL A)).fst.P (↑(x.snd.snd + (1 : Nat)) : Int) (0 : Int) - ref04OfC1 (weightR (madeL A)).fst.E (weightR (madeL A)).fst.P (↑(x.snd.snd + (1 : Nat)) : Int) (0 : Int)))))) ∧ ((x'.fst.snd.snd = grantIdle x.fst.fst (max x.snd.fst (0 : Int)) x.fst.snd.snd (IntKind.i64.wrap (ref04OfC1 (weightR (madeL A)).fst.E (weightR (madeL A)).fst.P (↑(x.snd.snd + (1 : Nat)) : Int) (0 : Int) + (IntKind.i64.wrap (Int.tmod (at' (0 : Int) G ((↑(x.snd.snd + (1 : Nat)) : Int).tmod (↑G.length : Int))) (IntKind.i64.wrap (ref04OfC2 (weightR (madeL A)).fst.E (weightR (madeL A)).fst.P (↑(x.snd.snd + (1 : Nat)) : Int) (0 : Int) - ref04OfC1 (weightR (madeL A)).fst.E (weightR (madeL A)).fst.P (↑(x.snd.snd + (1 : Nat)) : Int) (0 : Int))) + IntKind.i64.wrap (ref04OfC2 (weightR (madeL A)).fst.E (weightR (madeL A)).fst.P (↑(x.snd.snd + (1 : Nat)) : Int) (0 : Int) - ref04OfC1 (weightR (madeL A)).fst.E (weightR (madeL A)).fst.P (↑(x.snd.snd + (1 : Nat)) : Int) (0 : Int)))).tmod (IntKind.i64.wrap (ref04OfC2 (weightR (madeL A)).fst.E (weightR (madeL A)).fst.P (↑(x.snd.snd + (1 : Nat)) : Int) (0 : Int) - ref04OfC1 (weightR (madeL A)).fst.E (weightR (madeL A)).fst.P (↑(x.snd.snd + (1 : Nat)) : Int) (0 : Int)))))) ∧ True)))) ∧ ((x'.fst.fst = grantM x.fst.fst (max x.snd.fst (0 : Int)) (IntKind.i64.wrap (ref04OfC1 (weightR (madeL A)).fst.E (weightR (madeL A)).fst.P (↑(x.snd.snd + (1 : Nat)) : Int) (0 : Int) + (IntKind.i64.wrap (Int.tmod (at' (0 : Int) G ((↑(x.snd.snd + (1 : Nat)) : Int).tmod (↑G.length : Int))) (IntKind.i64.wrap (ref04OfC2 (weightR (madeL A)).fst.E (weightR (madeL A)).fst.P (↑(x.snd.snd + (1 : Nat)) : Int) (0 : Int) - ref04OfC1 (weightR (madeL A)).fst.E (weightR (madeL A)).fst.P (↑(x.snd.snd + (1 : Nat)) : Int) (0 : Int))) + IntKind.i64.wrap (ref04OfC2 (weightR (madeL A)).fst.E (weightR (madeL A)).fst.P (↑(x.snd.snd + (1 : Nat)) : Int) (0 : Int) - ref04OfC1 (weightR (madeL A)).fst.E (weightR (madeL A)).fst.P (↑(x.snd.snd + (1 : Nat)) : Int) (0 : Int)))).tmod (IntKind.i64.wrap (ref04OfC2 (weightR (madeL A)).fst.E (weightR (madeL A)).fst.P (↑(x.snd.snd + (1 : Nat)) : Int) (0 : Int) - ref04OfC1 (weightR (madeL A)).fst.E (weightR (madeL A)).fst.P (↑(x.snd.snd + (1 : Nat)) : Int) (0 : Int)))))) ∧ True))))))))) | false => False))))) | false => False) | false => False) | false => False) | false => False) | false => False) | false => (match (IntKind.i64.wrap (ref04OfC2 (weightR (madeL A)).fst.E (weightR (madeL A)).fst.P (↑(x.snd.snd + (1 : Nat)) : Int) (0 : Int) - ref04OfC1 (weightR (madeL A)).fst.E (weightR (madeL A)).fst.P (↑(x.snd.snd + (1 : Nat)) : Int) (0 : Int)) != (0 : Int)) with | true => (match (IntKind.i64.wrap (ref04OfC2 (weightR (madeL A)).fst.E (weightR (madeL A)).fst.P (↑(x.snd.snd + (1 : Nat)) : Int) (0 : Int) - ref04OfC1 (weightR (madeL A)).fst.E (weightR (madeL A)).fst.P (↑(x.snd.snd + (1 : Nat)) : Int) (0 : Int)) != (0 : Int)) with | true => ((∃ x1 : Nat, ((leI (↑x1 : Int) (IntKind.i64.wrap (ref04OfC1 (weightR (madeL A)).fst.E (weightR (madeL A)).fst.P (↑(x.snd.snd + (1 : Nat)) : Int) (0 : Int) + (IntKind.i64.wrap (Int.tmod (0 : Int) (IntKind.i64.wrap (ref04OfC2 (weightR (madeL A)).fst.E (weightR (madeL A)).fst.P (↑(x.snd.snd + (1 : Nat)) : Int) (0 : Int) - ref04OfC1 (weightR (madeL A)).fst.E (weightR (madeL A)).fst.P (↑(x.snd.snd + (1 : Nat)) : Int) (0 : Int))) + IntKind.i64.wrap (ref04OfC2 (weightR (madeL A)).fst.E (weightR (madeL A)).fst.P (↑(x.snd.snd + (1 : Nat)) : Int) (0 : Int) - ref04OfC1 (weightR (madeL A)).fst.E (weightR (madeL A)).fst.P (↑(x.snd.snd + (1 : Nat)) : Int) (0 : Int)))).tmod (IntKind.i64.wrap (ref04OfC2 (weightR (madeL A)).fst.E (weightR (madeL A)).fst.P (↑(x.snd.snd + (1 : Nat)) : Int) (0 : Int) - ref04OfC1 (weightR (madeL A)).fst.E (weightR (madeL A)).fst.P (↑(x.snd.snd + (1 : Nat)) : Int) (0 : Int)))) - x.snd.fst)) ∧ ((True ∧ ((true = true) ∧ (True ∧ (True ∧ ((x.snd.fst = x.snd.fst) ∧ (((↑(x.snd.snd + (1 : Nat)) : Int) = (↑(x.snd.snd + (1 : Nat)) : Int)) ∧ ((IntKind.i64.wrap (ref04OfC1 (weightR (madeL A)).fst.E (weightR (madeL A)).fst.P (↑(x.snd.snd + (1 : Nat)) : Int) (0 : Int) + (IntKind.i64.wrap (Int.tmod (0 : Int) (IntKind.i64.wrap (ref04OfC2 (weightR (madeL A)).fst.E (weightR (madeL A)).fst.P (↑(x.snd.snd + (1 : Nat)) : Int) (0 : Int) - ref04OfC1 (weightR (madeL A)).fst.E (weightR (madeL A)).fst.P (↑(x.snd.snd + (1 : Nat)) : Int) (0 : Int))) + IntKind.i64.wrap (ref04OfC2 (weightR (madeL A)).fst.E (weightR (madeL A)).fst.P (↑(x.snd.snd + (1 : Nat)) : Int) (0 : Int) - ref04OfC1 (weightR (madeL A)).fst.E (weightR (madeL A)).fst.P (↑(x.snd.snd + (1 : Nat)) : Int) (0 : Int)))).tmod (IntKind.i64.wrap (ref04OfC2 (weightR (madeL A)).fst.E (weightR (madeL A)).fst.P (↑(x.snd.snd + (1 : Nat)) : Int) (0 : Int) - ref04OfC1 (weightR (madeL A)).fst.E (weightR (madeL A)).fst.P (↑(x.snd.snd + (1 : Nat)) : Int) (0 : Int)))) = IntKind.i64.wrap (ref04OfC1 (weightR (madeL A)).fst.E (weightR (madeL A)).fst.P (↑(x.snd.snd + (1 : Nat)) : Int) (0 : Int) + (IntKind.i64.wrap (Int.tmod (0 : Int) (IntKind.i64.wrap (ref04OfC2 (weightR (madeL A)).fst.E (weightR (madeL A)).fst.P (↑(x.snd.snd + (1 : Nat)) : Int) (0 : Int) - ref04OfC1 (weightR (madeL A)).fst.E (weightR (madeL A)).fst.P (↑(x.snd.snd + (1 : Nat)) : Int) (0 : Int))) + IntKind.i64.wrap (ref04OfC2 (weightR (madeL A)).fst.E (weightR (madeL A)).fst.P (↑(x.snd.snd + (1 : Nat)) : Int) (0 : Int) - ref04OfC1 (weightR (madeL A)).fst.E (weightR (madeL A)).fst.P (↑(x.snd.snd + (1 : Nat)) : Int) (0 : Int)))).tmod (IntKind.i64.wrap (ref04OfC2 (weightR (madeL A)).fst.E (weightR (madeL A)).fst.P (↑(x.snd.snd + (1 : Nat)) : Int) (0 : Int) - ref04OfC1 (weightR (madeL A)).fst.E (weightR (madeL A)).fst.P (↑(x.snd.snd + (1 : Nat)) : Int) (0 : Int))))) ∧ ((x.snd.fst + (1 : Int) + (↑x1 : Int) = IntKind.i64.wrap (x.snd.fst + (1 : Int))) ∧ True)))))))) ∧ ((A = A) ∧ ((G = G) ∧ ((((weightR (madeL A)).fst.E = (weightR (madeL A)).fst.E) ∧ (((weightR (madeL A)).fst.P = (weightR (madeL A)).fst.P) ∧ True)) ∧ ((True ∧ ((max x.snd.fst (0 : Int) = max x.snd.fst (0 : Int)) ∧ ((x.fst.snd.fst = x.fst.snd.fst) ∧ ((x.fst.snd.snd = x.fst.snd.snd) ∧ True)))) ∧ ((x.fst.fst = x.fst.fst) ∧ True)))))))) ∧ (∀ x1 : Nat, ((leI (↑x1 : Int) (IntKind.i64.wrap (ref04OfC1 (weightR (madeL A)).fst.E (weightR (madeL A)).fst.P (↑(x.snd.snd + (1 : Nat)) : Int) (0 : Int) + (IntKind.i64.wrap (Int.tmod (0 : Int) (IntKind.i64.wrap (ref04OfC2 (weightR (madeL A)).fst.E (weightR (madeL A)).fst.P (↑(x.snd.snd + (1 : Nat)) : Int) (0 : Int) - ref04OfC1 (weightR (madeL A)).fst.E (weightR (madeL A)).fst.P (↑(x.snd.snd + (1 : Nat)) : Int) (0 : Int))) + IntKind.i64.wrap (ref04OfC2 (weightR (madeL A)).fst.E (weightR (madeL A)).fst.P (↑(x.snd.snd + (1 : Nat)) : Int) (0 : Int) - ref04OfC1 (weightR (madeL A)).fst.E (weightR (madeL A)).fst.P (↑(x.snd.snd + (1 : Nat)) : Int) (0 : Int)))).tmod (IntKind.i64.wrap (ref04OfC2 (weightR (madeL A)).fst.E (weightR (madeL A)).fst.P (↑(x.snd.snd + (1 : Nat)) : Int) (0 : Int) - ref04OfC1 (weightR (madeL A)).fst.E (weightR (madeL A)).fst.P (↑(x.snd.snd + (1 : Nat)) : Int) (0 : Int)))) - x.snd.fst)) → (match (decide (x.snd.fst + (1 : Int) + (↑x1 : Int) ≤ IntKind.i64.wrap (ref04OfC1 (weightR (madeL A)).fst.E (weightR (madeL A)).fst.P (↑(x.snd.snd + (1 : Nat)) : Int) (0 : Int) + (IntKind.i64.wrap (Int.tmod (0 : Int) (IntKind.i64.wrap (ref04OfC2 (weightR (madeL A)).fst.E (weightR (madeL A)).fst.P (↑(x.snd.snd + (1 : Nat)) : Int) (0 : Int) - ref04OfC1 (weightR (madeL A)).fst.E (weightR (madeL A)).fst.P (↑(x.snd.snd + (1 : Nat)) : Int) (0 : Int))) + IntKind.i64.wrap (ref04OfC2 (weightR (madeL A)).fst.E (weightR (madeL A)).fst.P (↑(x.snd.snd + (1 : Nat)) : Int) (0 : Int) - ref04OfC1 (weightR (madeL A)).fst.E (weightR (madeL A)).fst.P (↑(x.snd.snd + (1 : Nat)) : Int) (0 : Int)))).tmod (IntKind.i64.wrap (ref04OfC2 (weightR (madeL A)).fst.E (weightR (madeL A)).fst.P (↑(x.snd.snd + (1 : Nat)) : Int) (0 : Int) - ref04OfC1 (weightR (madeL A)).fst.E (weightR (madeL A)).fst.P (↑(x.snd.snd + (1 : Nat)) : Int) (0 : Int)))))) with | true => (match (decide (∃ b, RowOk b x.fst.fst)) with | true => (match (missedM x.fst.fst (max x.snd.fst (0 : Int)) (x.snd.fst + (1 : Int) + (↑x1 : Int)) != (0 : Int)) with | true => (((true = false) ∧ True) ∧ ((A = A) ∧ ((G = G) ∧ True))) | false => (∃ x' : Nat, ((leI (↑x' : Int) (IntKind.i64.wrap (ref04OfC1 (weightR (madeL A)).fst.E (weightR (madeL A)).fst.P (↑(x.snd.snd + (1 : Nat)) : Int) (0 : Int) + (IntKind.i64.wrap (Int.tmod (0 : Int) (IntKind.i64.wrap (ref04OfC2 (weightR (madeL A)).fst.E (weightR (madeL A)).fst.P (↑(x.snd.snd + (1 : Nat)) : Int) (0 : Int) - ref04OfC1 (weightR (madeL A)).fst.E (weightR (madeL A)).fst.P (↑(x.snd.snd + (1 : Nat)) : Int) (0 : Int))) + IntKind.i64.wrap (ref04OfC2 (weightR (madeL A)).fst.E (weightR (madeL A)).fst.P (↑(x.snd.snd + (1 : Nat)) : Int) (0 : Int) - ref04OfC1 (weightR (madeL A)).fst.E (weightR (madeL A)).fst.P (↑(x.snd.snd + (1 : Nat)) : Int) (0 : Int)))).tmod (IntKind.i64.wrap (ref04OfC2 (weightR (madeL A)).fst.E (weightR (madeL A)).fst.P (↑(x.snd.snd + (1 : Nat)) : Int) (0 : Int) - ref04OfC1 (weightR (madeL A)).fst.E (weightR (madeL A)).fst.P (↑(x.snd.snd + (1 : Nat)) : Int) (0 : Int)))) - x.snd.fst)) ∧ (((1000 : Nat) - x' < (1000 : Nat) - x1) ∧ ((True ∧ ((true = true) ∧ (True ∧ (True ∧ ((x.snd.fst = x.snd.fst) ∧ (((↑(x.snd.snd + (1 : Nat)) : Int) = (↑(x.snd.snd + (1 : Nat)) : Int)) ∧ ((IntKind.i64.wrap (ref04OfC1 (weightR (madeL A)).fst.E (weightR (madeL A)).fst.P (↑(x.snd.snd + (1 : Nat)) : Int) (0 : Int) + (IntKind.i64.wrap (Int.tmod (0 : Int) (IntKind.i64.wrap (ref04OfC2 (weightR (madeL A)).fst.E (weightR (madeL A)).fst.P (↑(x.snd.snd + (1 : Nat)) : Int) (0 : Int) - ref04OfC1 (weightR (madeL A)).fst.E (weightR (madeL A)).fst.P (↑(x.snd.snd + (1 : Nat)) : Int) (0 : Int))) + IntKind.i64.wrap (ref04OfC2 (weightR (madeL A)).fst.E (weightR (madeL A)).fst.P (↑(x.snd.snd + (1 : Nat)) : Int) (0 : Int) - ref04OfC1 (weightR (madeL A)).fst.E (weightR (madeL A)).fst.P (↑(x.snd.snd + (1 : Nat)) : Int) (0 : Int)))).tmod (IntKind.i64.wrap (ref04OfC2 (weightR (madeL A)).fst.E (weightR (madeL A)).fst.P (↑(x.snd.snd + (1 : Nat)) : Int) (0 : Int) - ref04OfC1 (weightR (madeL A)).fst.E (weightR (madeL A)).fst.P (↑(x.snd.snd + (1 : Nat)) : Int) (0 : Int)))) = IntKind.i64.wrap (ref04OfC1 (weightR (madeL A)).fst.E (weightR (madeL A)).fst.P (↑(x.snd.snd + (1 : Nat)) : Int) (0 : Int) + (IntKind.i64.wrap (Int.tmod (0 : Int) (IntKind.i64.wrap (ref04OfC2 (weightR (madeL A)).fst.E (weightR (madeL A)).fst.P (↑(x.snd.snd + (1 : Nat)) : Int) (0 : Int) - ref04OfC1 (weightR (madeL A)).fst.E (weightR (madeL A)).fst.P (↑(x.snd.snd + (1 : Nat)) : Int) (0 : Int))) + IntKind.i64.wrap (ref04OfC2 (weightR (madeL A)).fst.E (weightR (madeL A)).fst.P (↑(x.snd.snd + (1 : Nat)) : Int) (0 : Int) - ref04OfC1 (weightR (madeL A)).fst.E (weightR (madeL A)).fst.P (↑(x.snd.snd + (1 : Nat)) : Int) (0 : Int)))).tmod (IntKind.i64.wrap (ref04OfC2 (weightR (madeL A)).fst.E (weightR (madeL A)).fst.P (↑(x.snd.snd + (1 : Nat)) : Int) (0 : Int) - ref04OfC1 (weightR (madeL A)).fst.E (weightR (madeL A)).fst.P (↑(x.snd.snd + (1 : Nat)) : Int) (0 : Int))))) ∧ ((x.snd.fst + (1 : Int) + (↑x' : Int) = IntKind.i64.wrap (x.snd.fst + (1 : Int) + (↑x1 : Int) + (1 : Int))) ∧ True)))))))) ∧ ((A = A) ∧ ((G = G) ∧ ((((weightR (madeL A)).fst.E = (weightR (madeL A)).fst.E) ∧ (((weightR (madeL A)).fst.P = (weightR (madeL A)).fst.P) ∧ True)) ∧ ((True ∧ ((max x.snd.fst (0 : Int) = max x.snd.fst (0 : Int)) ∧ ((x.fst.snd.fst = x.fst.snd.fst) ∧ ((x.fst.snd.snd = x.fst.snd.snd) ∧ True)))) ∧ ((x.fst.fst = x.fst.fst) ∧ True)))))))))) | false => False) | false => (match (decide ((∃ b, RowOk b x.fst.fst) ∧ (0 : Int) ≤ x.fst.snd.fst ∧ x.fst.snd.fst ≤ (1099511627776 : Int) ∧ (0 : Int) ≤ x.fst.snd.snd ∧ x.fst.snd.snd ≤ (1099511627776 : Int))) with | true => (∃ x' : (List Own × Int × Int) × Int × Nat, ((meetsI (madeL A) x'.fst.fst x'.fst.snd.fst x'.fst.snd.snd x'.snd.fst x'.snd.snd) ∧ (((400 : Nat) - x'.snd.snd < (400 : Nat) - x.snd.snd) ∧ ((True ∧ ((true = true) ∧ (True ∧ (True ∧ ((x'.snd.fst = IntKind.i64.wrap (ref04OfC1 (weightR (madeL A)).fst.E (weightR (madeL A)).fst.P (↑(x.snd.snd + (1 : Nat)) : Int) (0 : Int) + (IntKind.i64.wrap (Int.tmod (0 : Int) (IntKind.i64.wrap (ref04OfC2 (weightR (madeL A)).fst.E (weightR (madeL A)).fst.P (↑(x.snd.snd + (1 : Nat)) : Int) (0 : Int) - ref04OfC1 (weightR (madeL A)).fst.E (weightR (madeL A)).fst.P (↑(x.snd.snd + (1 : Nat)) : Int) (0 : Int))) + IntKind.i64.wrap (ref04OfC2 (weightR (madeL A)).fst.E (weightR (madeL A)).fst.P (↑(x.snd.snd + (1 : Nat)) : Int) (0 : Int) - ref04OfC1 (weightR (madeL A)).fst.E (weightR (madeL A)).fst.P (↑(x.snd.snd + (1 : Nat)) : Int) (0 : Int)))).tmod (IntKind.i64.wrap (ref04OfC2 (weightR (madeL A)).fst.E (weightR (madeL A)).fst.P (↑(x.snd.snd + (1 : Nat)) : Int) (0 : Int) - ref04OfC1 (weightR (madeL A)).fst.E (weightR (madeL A)).fst.P (↑(x.snd.snd + (1 : Nat)) : Int) (0 : Int))))) ∧ (((↑(x'.snd.snd + (1 : Nat)) : Int) = IntKind.i64.wrap ((↑(x.snd.snd + (1 : Nat)) : Int) + (1 : Int))) ∧ True)))))) ∧ ((A = A) ∧ ((G = G) ∧ ((((weightR (madeL A)).fst.E = (weightR (madeL A)).fst.E) ∧ (((weightR (madeL A)).fst.P = (weightR (madeL A)).fst.P) ∧ True)) ∧ ((True ∧ ((max x'.snd.fst (0 : Int) = grantLast (max x.snd.fst (0 : Int)) (IntKind.i64.wrap (ref04OfC1 (weightR (madeL A)).fst.E (weightR (madeL A)).fst.P (↑(x.snd.snd + (1 : Nat)) : Int) (0 : Int) + (IntKind.i64.wrap (Int.tmod (0 : Int) (IntKind.i64.wrap (ref04OfC2 (weightR (madeL A)).fst.E (weightR (madeL A)).fst.P (↑(x.snd.snd + (1 : Nat)) : Int) (0 : Int) - ref04OfC1 (weightR (madeL A)).fst.E (weightR (madeL A)).fst.P (↑(x.snd.snd + (1 : Nat)) : Int) (0 : Int))) + IntKind.i64.wrap (ref04OfC2 (weightR (madeL A)).fst.E (weightR (madeL A)).fst.P (↑(x.snd.snd + (1 : Nat)) : Int) (0 : Int) - ref04OfC1 (weightR (madeL A)).fst.E (weightR (madeL A)).fst.P (↑(x.snd.snd + (1 : Nat)) : Int) (0 : Int)))).tmod (IntKind.i64.wrap (ref04OfC2 (weightR (madeL A)).fst.E (weightR (madeL A)).fst.P (↑(x.snd.snd + (1 : Nat)) : Int) (0 : Int) - ref04OfC1 (weightR (madeL A)).fst.E (weightR (madeL A)).fst.P (↑(x.snd.snd + (1 : Nat)) : Int) (0 : Int)))))) ∧ ((x'.fst.snd.fst = grantServed x.fst.fst (max x.snd.fst (0 : Int)) x.fst.snd.fst (IntKind.i64.wrap (ref04OfC1 (weightR (madeL A)).fst.E (weightR (madeL A)).fst.P (↑(x.snd.snd + (1 : Nat)) : Int) (0 : Int) + (IntKind.i64.wrap (Int.tmod (0 : Int) (IntKind.i64.wrap (ref04OfC2 (weightR (madeL A)).fst.E (weightR (madeL A)).fst.P (↑(x.snd.snd + (1 : Nat)) : Int) (0 : Int) - ref04OfC1 (weightR (madeL A)).fst.E (weightR (madeL A)).fst.P (↑(x.snd.snd + (1 : Nat)) : Int) (0 : Int))) + IntKind.i64.wrap (ref04OfC2 (weightR (madeL A)).fst.E (weightR (madeL A)).fst.P (↑(x.snd.snd + (1 : Nat)) : Int) (0 : Int) - ref04OfC1 (weightR (madeL A)).fst.E (weightR (madeL A)).fst.P (↑(x.snd.snd + (1 : Nat)) : Int) (0 : Int)))).tmod (IntKind.i64.wrap (ref04OfC2 (weightR (madeL A)).fst.E (weightR (madeL A)).fst.P (↑(x.snd.snd + (1 : Nat)) : Int) (0 : Int) - ref04OfC1 (weightR (madeL A)).fst.E (weightR (madeL A)).fst.P (↑(x.snd.snd + (1 : Nat)) : Int) (0 : Int)))))) ∧ ((x'.fst.snd.snd = grantIdle x.fst.fst (max x.snd.fst (0 : Int)) x.fst.snd.snd (IntKind.i64.wrap (ref04OfC1 (weightR (madeL A)).fst.E (weightR (madeL A)).fst.P (↑(x.snd.snd + (1 : Nat)) : Int) (0 : Int) + (IntKind.i64.wrap (Int.tmod (0 : Int) (IntKind.i64.wrap (ref04OfC2 (weightR (madeL A)).fst.E (weightR (madeL A)).fst.P (↑(x.snd.snd + (1 : Nat)) : Int) (0 : Int) - ref04OfC1 (weightR (madeL A)).fst.E (weightR (madeL A)).fst.P (↑(x.snd.snd + (1 : Nat)) : Int) (0 : Int))) + IntKind.i64.wrap (ref04OfC2 (weightR (madeL A)).fst.E (weightR (madeL A)).fst.P (↑(x.snd.snd + (1 : Nat)) : Int) (0 : Int) - ref04OfC1 (weightR (madeL A)).fst.E (weightR (madeL A)).fst.P (↑(x.snd.snd + (1 : Nat)) : Int) (0 : Int)))).tmod (IntKind.i64.wrap (ref04OfC2 (weightR (madeL A)).fst.E (weightR (madeL A)).fst.P (↑(x.snd.snd + (1 : Nat)) : Int) (0 : Int) - ref04OfC1 (weightR (madeL A)).fst.E (weightR (madeL A)).fst.P (↑(x.snd.snd + (1 : Nat)) : Int) (0 : Int)))))) ∧ True)))) ∧ ((x'.fst.fst = grantM x.fst.fst (max x.snd.fst (0 : Int)) (IntKind.i64.wrap (ref04OfC1 (weightR (madeL A)).fst.E (weightR (madeL A)).fst.P (↑(x.snd.snd + (1 : Nat)) : Int) (0 : Int) + (IntKind.i64.wrap (Int.tmod (0 : Int) (IntKind.i64.wrap (ref04OfC2 (weightR (madeL A)).fst.E (weightR (madeL A)).fst.P (↑(x.snd.snd + (1 : Nat)) : Int) (0 : Int) - ref04OfC1 (weightR (madeL A)).fst.E (weightR (madeL A)).fst.P (↑(x.snd.snd + (1 : Nat)) : Int) (0 : Int))) + IntKind.i64.wrap (ref04OfC2 (weightR (madeL A)).fst.E (weightR (madeL A)).fst.P (↑(x.snd.snd + (1 : Nat)) : Int) (0 : Int) - ref04OfC1 (weightR (madeL A)).fst.E (weightR (madeL A)).fst.P (↑(x.snd.snd + (1 : Nat)) : Int) (0 : Int)))).tmod (IntKind.i64.wrap (ref04OfC2 (weightR (madeL A)).fst.E (weightR (madeL A)).fst.P (↑(x.snd.snd + (1 : Nat)) : Int) (0 : Int) - ref04OfC1 (weightR (madeL A)).fst.E (weightR (madeL A)).fst.P (↑(x.snd.snd + (1 : Nat)) : Int) (0 : Int)))))) ∧ True))))))))) | false => False))))) | false => False) | false => False))))) | false => False) | false => (match (decide (∃ b, RowOk b x.fst.fst)) with | true => (((true = (missedM x.fst.fst (max x.snd.fst (0 : Int)) x.snd.fst == (0 : Int))) ∧ True) ∧ ((A = A) ∧ ((G = G) ∧ True))) | false => False))))) | false => (((true = false) ∧ True) ∧ ((A = A) ∧ ((G = G) ∧ True)))) | false => False)) | false => False)
theorem superMeetsVc (A : List Pair) (G : List Int) : fnX X38 (annOf [(11, { σ := (List Own × Int × Int) × (Int × Nat), st := fun S x => supSt (((S.keep [1, 5, 7, 9]).int 10 x.2.1).int 11 (x.2.2 + 1 : Nat)) 2 9 x.1.1 (max x.2.1 0) x.1.2.1 x.1.2.2, inv := fun _ x => meetsI (madeL A) x.1.1 x.1.2.1 x.1.2.2 x.2.1 x.2.2, m := fun x => 400 - x.2.2 }), (26, { σ := Nat, st := fun S x => ((S.keep [1, 5, 7, 9, 10, 11, 17]).gc 2).int 18 (S.gi 10 + 1 + x), inv := fun S x => leI (x : Int) (S.gi 17 - S.gi 10), m := fun x => 1000 - x })] []) Try.f5 [.own 0, .own 1] [.ro 6 A, .ro 0 G] (ends [.ro 6 A, .ro 0 G] ⟨some (.raw (.bool true)), []⟩) = superMeetsText A G := by kernel_rfl
set_option maxHeartbeats 2000000 in
set_option maxRecDepth 20000 in
theorem superMeetsHolds (A : List Pair) (G : List Int) : superMeetsText A G := by
  unfold superMeetsText
  have hl8 := madeL_length A
  rw [decide_eq_true (show (madeL A).length ≤ 100000 by omega)]
  by_cases hw : (weightR (madeL A)).2 = 0
  · have hP := weightR_parts hw
    have hnew : newOk (madeL A) 0 = true := by unfold newOk; rw [hw]; rfl
    rw [show ((weightR (madeL A)).2 != 0) = false by rw [hw]; rfl, hnew]
    generalize madeL A = L at hP hl8 hw ⊢
    obtain ⟨_, ⟨w1, w2, w3⟩, _⟩ := weight_told hP hw
    have hWt : Wt (weightR L).1.E (weightR L).1.P := ⟨w1, w2, w3⟩
    refine ⟨⟨((startL 0 L L.length, 0, 0), (-1, 0)), meetsI.init hP hw, by repeat' first | apply And.intro | exact True.intro | with_reducible rfl | exact rfl⟩, ?_⟩
    intro x hi
    obtain ⟨⟨M, served, idle⟩, last, n⟩ := x
    dsimp only at hi ⊢
    have hR := hi.row
    have s0 := hi.s0
    have s1 := hi.s1
    have d0 := hi.d0
    have d1 := hi.d1
    have hle := hi.le
    have hl0 := hi.l0
    have hl1 := hi.l1
    have hl2 := hi.l2
    have hRe : decide (∃ b, RowOk b M) = true := decide_eq_true ⟨0, hR⟩
    have hlz : missedM M (max last 0) last = 0 := by
      refine hi.zero hP hw ?_ hl1
      rw [Int.mul_add, Int.mul_one] at hl2
      rw [Int.add_mul, Int.one_mul]
      omega
    by_cases hn400 : n < 400
    · have hNum : Num ((n + 1 : Nat) : Int) := ⟨by omega, by omega⟩
      obtain ⟨f1, _, f3, f4, _⟩ := of_of hWt hNum
      obtain ⟨r1, r2⟩ := release_of hWt hNum
      obtain ⟨r3, r4⟩ := release_bound hWt hNum
      obtain ⟨d1', d2'⟩ := deadline_of hWt hNum
      obtain ⟨d3', d4'⟩ := deadline_bound hWt hNum
      rw [show decide (((n + 1 : Nat) : Int) ≤ 400) = true from decide_eq_true (by omega), f1, f3, f4]
      have hwn : IntKind.i64.wrap (((n + 1 : Nat) : Int) + 1) = ((n + 1 + 1 : Nat) : Int) := by rw [wrap_id (by omega) (by omega)]; omega
      generalize ref04Release (weightR L).1.E (weightR L).1.P ((n + 1 : Nat) : Int) = r at *
      generalize ref04Deadline (weightR L).1.E (weightR L).1.P ((n + 1 : Nat) : Int) = D at *
      rw [show ((n + 1 : Nat) : Int) = (n : Int) + 1 by omega] at r1 r2 d1' d2'
      have r2' := r2
      by_cases hD : D > 200
      · rw [decide_eq_true hD, hRe, hlz]
        repeat' first | apply And.intro | exact True.intro | with_reducible rfl | exact rfl
      · have hD : D ≤ 200 := by omega
        rw [decide_eq_false (show ¬ D > 200 by omega)]
        have hrD : r < D := by
          refine Int.not_le.1 fun hn => ?_
          have k1 := Int.mul_le_mul_of_nonneg_left hn (show 0 ≤ (weightR L).1.E by omega)
          omega
        have hlD : last + 1 < D := by
          refine Int.not_le.1 fun hn => ?_
          have k1 := Int.mul_le_mul_of_nonneg_left hn (show 0 ≤ (weightR L).1.E by omega)
          rw [Int.add_mul, Int.one_mul] at d2'
          omega
        by_cases c1 : r ≤ last
        · rw [decide_eq_true c1, wrap_id (n := last + 1) (by omega) (by omega), wrap_id (n := D - (last + 1)) (by omega) (by omega), decide_eq_false (show ¬ D - (last + 1) < 1 by omega)]
          by_cases hG : 0 < G.length
          · have q1 : ((n + 1 : Nat) : Int).tmod (G.length : Int) = (((n + 1) % G.length : Nat) : Int) := by rw [tmod_pos (by omega)]; rfl
            have q2 : (n + 1) % G.length < G.length := Nat.mod_lt _ hG
            rw [show decide ((G.length : Int) > 0) = true from decide_eq_true (by omega), show ((G.length : Int) != 0) = true from bne_iff_ne.2 (by omega), q1, inb_nat q2, at_nat q2]
            generalize G[(n + 1) % G.length] = kk
            have m0 := Int.emod_nonneg kk (show (D - (last + 1)) ≠ 0 by omega)
            have m1 := Int.emod_lt_of_pos kk (show 0 < (D - (last + 1)) by omega)
            rw [show ((D - (last + 1)) != 0) = true from bne_iff_ne.2 (by omega), rem_mod kk (n := (D - (last + 1))) (by omega) (by omega), wrap_id (n := (last + 1) + kk % (D - (last + 1))) (by omega) (by omega)]
            obtain ⟨t, ht⟩ : ∃ t, t = (last + 1) + kk % (D - (last + 1)) := ⟨_, rfl⟩
            rw [← ht]
            have t0 : last < t := by omega
            have t1 : 0 ≤ t := by omega
            have t2 : t < D := by omega
            have t3 : r ≤ t := by omega
            clear ht m0 m1
            have hst := hi.step hn400 t0 t1 t2 hD t3 r2' w1 d1'
            have hs : slotOk (max last 0) t = true := slotOk_iff.2 ⟨by omega, by omega⟩
            have hmx : max t 0 = t := by omega
            have hz0 : last + 1 + ((0 : Nat) : Int) = last + 1 := by omega
            refine ⟨⟨0, ⟨by omega⟩, by repeat' first | exact hz0 | apply And.intro | exact True.intro | with_reducible rfl | exact rfl⟩, ?_⟩
            intro y hy
            have hy := hy.le
            by_cases g : last + 1 + (y : Int) ≤ t
            · have hz : missedM M (max last 0) (last + 1 + y) = 0 := by
                refine hi.zero hP hw ?_ (by omega)
                have := Int.mul_le_mul_of_nonneg_left (show last + 1 + (y : Int) + 1 ≤ D by omega) (show 0 ≤ (weightR L).1.E by omega)
                rw [Int.mul_add, Int.mul_one] at this
                omega
              rw [decide_eq_true g, hRe, hz, show ((0 : Int) != 0) = false from rfl, wrap_id (n := last + 1 + (y : Int) + 1) (by omega) (by omega)]
              have hy1 : last + 1 + ((y + 1 : Nat) : Int) = last + 1 + (y : Int) + 1 := by omega
              refine ⟨y + 1, ⟨by omega⟩, by omega, ?_⟩
              repeat' first | exact hy1 | apply And.intro | exact True.intro | with_reducible rfl | exact rfl
            · rw [decide_eq_false g, decide_eq_true (⟨⟨0, hR⟩, s0, by omega, d0, by omega⟩ : (∃ b, RowOk b M) ∧ 0 ≤ served ∧ served ≤ 1099511627776 ∧ 0 ≤ idle ∧ idle ≤ 1099511627776), grantLast_on hs, hwn]
              refine ⟨((grantM M (max last 0) t, grantServed M (max last 0) served t, grantIdle M (max last 0) idle t), (t, n + 1)), hst, by dsimp only; omega, ?_⟩
              repeat' first | exact hmx | apply And.intro | exact True.intro | with_reducible rfl | exact rfl
          · rw [show decide ((G.length : Int) > 0) = false from decide_eq_false (by omega)]
            have m0 := Int.emod_nonneg (0 : Int) (show (D - (last + 1)) ≠ 0 by omega)
            have m1 := Int.emod_lt_of_pos (0 : Int) (show 0 < (D - (last + 1)) by omega)
            rw [show ((D - (last + 1)) != 0) = true from bne_iff_ne.2 (by omega), rem_mod (0 : Int) (n := (D - (last + 1))) (by omega) (by omega), wrap_id (n := (last + 1) + (0 : Int) % (D - (last + 1))) (by omega) (by omega)]
            obtain ⟨t, ht⟩ : ∃ t, t = (last + 1) + (0 : Int) % (D - (last + 1)) := ⟨_, rfl⟩
            rw [← ht]
            have t0 : last < t := by omega
            have t1 : 0 ≤ t := by omega
            have t2 : t < D := by omega
            have t3 : r ≤ t := by omega
            clear ht m0 m1
            have hst := hi.step hn400 t0 t1 t2 hD t3 r2' w1 d1'
            have hs : slotOk (max last 0) t = true := slotOk_iff.2 ⟨by omega, by omega⟩
            have hmx : max t 0 = t := by omega
            have hz0 : last + 1 + ((0 : Nat) : Int) = last + 1 := by omega
            refine ⟨⟨0, ⟨by omega⟩, by repeat' first | exact hz0 | apply And.intro | exact True.intro | with_reducible rfl | exact rfl⟩, ?_⟩
            intro y hy
            have hy := hy.le
            by_cases g : last + 1 + (y : Int) ≤ t
            · have hz : missedM M (max last 0) (last + 1 + y) = 0 := by
                refine hi.zero hP hw ?_ (by omega)
                have := Int.mul_le_mul_of_nonneg_left (show last + 1 + (y : Int) + 1 ≤ D by omega) (show 0 ≤ (weightR L).1.E by omega)
                rw [Int.mul_add, Int.mul_one] at this
                omega
              rw [decide_eq_true g, hRe, hz, show ((0 : Int) != 0) = false from rfl, wrap_id (n := last + 1 + (y : Int) + 1) (by omega) (by omega)]
              have hy1 : last + 1 + ((y + 1 : Nat) : Int) = last + 1 + (y : Int) + 1 := by omega
              refine ⟨y + 1, ⟨by omega⟩, by omega, ?_⟩
              repeat' first | exact hy1 | apply And.intro | exact True.intro | with_reducible rfl | exact rfl
            · rw [decide_eq_false g, decide_eq_true (⟨⟨0, hR⟩, s0, by omega, d0, by omega⟩ : (∃ b, RowOk b M) ∧ 0 ≤ served ∧ served ≤ 1099511627776 ∧ 0 ≤ idle ∧ idle ≤ 1099511627776), grantLast_on hs, hwn]
              refine ⟨((grantM M (max last 0) t, grantServed M (max last 0) served t, grantIdle M (max last 0) idle t), (t, n + 1)), hst, by dsimp only; omega, ?_⟩
              repeat' first | exact hmx | apply And.intro | exact True.intro | with_reducible rfl | exact rfl
        · rw [decide_eq_false c1, wrap_id (n := D - r) (by omega) (by omega), wrap_id (n := last + 1) (by omega) (by omega), decide_eq_false (show ¬ D - r < 1 by omega)]
          by_cases hG : 0 < G.length
          · have q1 : ((n + 1 : Nat) : Int).tmod (G.length : Int) = (((n + 1) % G.length : Nat) : Int) := by rw [tmod_pos (by omega)]; rfl
            have q2 : (n + 1) % G.length < G.length := Nat.mod_lt _ hG
            rw [show decide ((G.length : Int) > 0) = true from decide_eq_true (by omega), show ((G.length : Int) != 0) = true from bne_iff_ne.2 (by omega), q1, inb_nat q2, at_nat q2]
            generalize G[(n + 1) % G.length] = kk
            have m0 := Int.emod_nonneg kk (show (D - r) ≠ 0 by omega)
            have m1 := Int.emod_lt_of_pos kk (show 0 < (D - r) by omega)
            rw [show ((D - r) != 0) = true from bne_iff_ne.2 (by omega), rem_mod kk (n := (D - r)) (by omega) (by omega), wrap_id (n := r + kk % (D - r)) (by omega) (by omega)]
            obtain ⟨t, ht⟩ : ∃ t, t = r + kk % (D - r) := ⟨_, rfl⟩
            rw [← ht]
            have t0 : last < t := by omega
            have t1 : 0 ≤ t := by omega
            have t2 : t < D := by omega
            have t3 : r ≤ t := by omega
            clear ht m0 m1
            have hst := hi.step hn400 t0 t1 t2 hD t3 r2' w1 d1'
            have hs : slotOk (max last 0) t = true := slotOk_iff.2 ⟨by omega, by omega⟩
            have hmx : max t 0 = t := by omega
            have hz0 : last + 1 + ((0 : Nat) : Int) = last + 1 := by omega
            refine ⟨⟨0, ⟨by omega⟩, by repeat' first | exact hz0 | apply And.intro | exact True.intro | with_reducible rfl | exact rfl⟩, ?_⟩
            intro y hy
            have hy := hy.le
            by_cases g : last + 1 + (y : Int) ≤ t
            · have hz : missedM M (max last 0) (last + 1 + y) = 0 := by
                refine hi.zero hP hw ?_ (by omega)
                have := Int.mul_le_mul_of_nonneg_left (show last + 1 + (y : Int) + 1 ≤ D by omega) (show 0 ≤ (weightR L).1.E by omega)
                rw [Int.mul_add, Int.mul_one] at this
                omega
              rw [decide_eq_true g, hRe, hz, show ((0 : Int) != 0) = false from rfl, wrap_id (n := last + 1 + (y : Int) + 1) (by omega) (by omega)]
              have hy1 : last + 1 + ((y + 1 : Nat) : Int) = last + 1 + (y : Int) + 1 := by omega
              refine ⟨y + 1, ⟨by omega⟩, by omega, ?_⟩
              repeat' first | exact hy1 | apply And.intro | exact True.intro | with_reducible rfl | exact rfl
            · rw [decide_eq_false g, decide_eq_true (⟨⟨0, hR⟩, s0, by omega, d0, by omega⟩ : (∃ b, RowOk b M) ∧ 0 ≤ served ∧ served ≤ 1099511627776 ∧ 0 ≤ idle ∧ idle ≤ 1099511627776), grantLast_on hs, hwn]
              refine ⟨((grantM M (max last 0) t, grantServed M (max last 0) served t, grantIdle M (max last 0) idle t), (t, n + 1)), hst, by dsimp only; omega, ?_⟩
              repeat' first | exact hmx | apply And.intro | exact True.intro | with_reducible rfl | exact rfl
          · rw [show decide ((G.length : Int) > 0) = false from decide_eq_false (by omega)]
            have m0 := Int.emod_nonneg (0 : Int) (show (D - r) ≠ 0 by omega)
            have m1 := Int.emod_lt_of_pos (0 : Int) (show 0 < (D - r) by omega)
            rw [show ((D - r) != 0) = true from bne_iff_ne.2 (by omega), rem_mod (0 : Int) (n := (D - r)) (by omega) (by omega), wrap_id (n := r + (0 : Int) % (D - r)) (by omega) (by omega)]
            obtain ⟨t, ht⟩ : ∃ t, t = r + (0 : Int) % (D - r) := ⟨_, rfl⟩
            rw [← ht]
            have t0 : last < t := by omega
            have t1 : 0 ≤ t := by omega
            have t2 : t < D := by omega
            have t3 : r ≤ t := by omega
            clear ht m0 m1
            have hst := hi.step hn400 t0 t1 t2 hD t3 r2' w1 d1'
            have hs : slotOk (max last 0) t = true := slotOk_iff.2 ⟨by omega, by omega⟩
            have hmx : max t 0 = t := by omega
            have hz0 : last + 1 + ((0 : Nat) : Int) = last + 1 := by omega
            refine ⟨⟨0, ⟨by omega⟩, by repeat' first | exact hz0 | apply And.intro | exact True.intro | with_reducible rfl | exact rfl⟩, ?_⟩
            intro y hy
            have hy := hy.le
            by_cases g : last + 1 + (y : Int) ≤ t
            · have hz : missedM M (max last 0) (last + 1 + y) = 0 := by
                refine hi.zero hP hw ?_ (by omega)
                have := Int.mul_le_mul_of_nonneg_left (show last + 1 + (y : Int) + 1 ≤ D by omega) (show 0 ≤ (weightR L).1.E by omega)
                rw [Int.mul_add, Int.mul_one] at this
                omega
              rw [decide_eq_true g, hRe, hz, show ((0 : Int) != 0) = false from rfl, wrap_id (n := last + 1 + (y : Int) + 1) (by omega) (by omega)]
              have hy1 : last + 1 + ((y + 1 : Nat) : Int) = last + 1 + (y : Int) + 1 := by omega
              refine ⟨y + 1, ⟨by omega⟩, by omega, ?_⟩
              repeat' first | exact hy1 | apply And.intro | exact True.intro | with_reducible rfl | exact rfl
            · rw [decide_eq_false g, decide_eq_true (⟨⟨0, hR⟩, s0, by omega, d0, by omega⟩ : (∃ b, RowOk b M) ∧ 0 ≤ served ∧ served ≤ 1099511627776 ∧ 0 ≤ idle ∧ idle ≤ 1099511627776), grantLast_on hs, hwn]
              refine ⟨((grantM M (max last 0) t, grantServed M (max last 0) served t, grantIdle M (max last 0) idle t), (t, n + 1)), hst, by dsimp only; omega, ?_⟩
              repeat' first | exact hmx | apply And.intro | exact True.intro | with_reducible rfl | exact rfl
    · obtain rfl : n = 400 := by omega
      rw [show decide (((400 + 1 : Nat) : Int) ≤ 400) = false from rfl, hRe, hlz]
      repeat' first | apply And.intro | exact True.intro | with_reducible rfl | exact rfl
  · rw [show ((weightR (madeL A)).2 != 0) = true from bne_iff_ne.2 hw]
    repeat' first | apply And.intro | exact True.intro | with_reducible rfl | exact rfl
noncomputable def superMeetsCon : Con T O := fun args cs => match args, cs with
  | [.own 0, .own 1], [.ro 6 _, .ro 0 _] => .ret ⟨some (.raw (.bool true)), []⟩
  | _, _ => .fail
theorem superMeetsOk : ConOk R Try.prog 5 superMeetsCon := con_of_fn R (X38) (TabOk.con R X38Ok) mixed Try.call5 Try.func5 superMeetsCon (by
  intro args cs K h
  unfold superMeetsCon at h
  split at h
  · rename_i A G
    refine ⟨annOf [(11, { σ := (List Own × Int × Int) × (Int × Nat), st := fun S x => supSt (((S.keep [1, 5, 7, 9]).int 10 x.2.1).int 11 (x.2.2 + 1 : Nat)) 2 9 x.1.1 (max x.2.1 0) x.1.2.1 x.1.2.2, inv := fun _ x => meetsI (madeL A) x.1.1 x.1.2.1 x.1.2.2 x.2.1 x.2.2, m := fun x => 400 - x.2.2 }), (26, { σ := Nat, st := fun S x => ((S.keep [1, 5, 7, 9, 10, 11, 17]).gc 2).int 18 (S.gi 10 + 1 + x), inv := fun S x => leI (x : Int) (S.gi 17 - S.gi 10), m := fun x => 1000 - x })] [], _, fun v S hv => ⟨_, h, hv⟩, ?_⟩
    rw [superMeetsVc A G]
    exact superMeetsHolds A G
  · exact h.elim)
noncomputable def tab39 : Tab T O := (5, superMeetsCon) :: tab38
theorem tabOk39 : TabOk R Try.prog tab39 := TabOk.cons R superMeetsOk <| tabOk38
noncomputable def X39 : Ctx T O := { X0 with con := conOf tab39 }
theorem X39Ok : TabOk R X39.P tab39 := tabOk39
end Go.Proofs.Ytmnnjclnldaejaa
