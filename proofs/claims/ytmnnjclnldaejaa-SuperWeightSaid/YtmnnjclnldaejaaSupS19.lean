/-
  Part of a proof over the seat Ytmnnjclnldaejaa: printed by a small program or typed by hand.
-/
import Derived.Test.YtmnnjclnldaejaaSupS18
import Derived.KernelRfl
namespace Go.Proofs.Ytmnnjclnldaejaa
open Go.Sx Go.Proofs Classical

def okP (e p : Int) : Bool := decide (e ≥ 1) && decide (e ≤ p) && decide (p ≤ 1048576)
def okPart (q : Part) : Bool := okP q.E q.P
def badPart (q : Part) : Bool := !okP q.E q.P
def PartsOk (L : List Part) : Prop := (1 ≤ L.length ∧ L.length ≤ 8) ∧ ∀ q ∈ L, 1 ≤ q.E ∧ q.E ≤ q.P ∧ q.P ≤ 1048576
def checkL (L : List Part) : Bool := decide (1 ≤ L.length) && decide (L.length ≤ 8) && L.all okPart
theorem okP_iff {e p : Int} : okP e p = true ↔ 1 ≤ e ∧ e ≤ p ∧ p ≤ 1048576 := by
  unfold okP
  simp only [Bool.and_eq_true, decide_eq_true_eq]
  constructor
  · rintro ⟨⟨h1, h2⟩, h3⟩; exact ⟨h1, h2, h3⟩
  · rintro ⟨h1, h2, h3⟩; exact ⟨⟨h1, h2⟩, h3⟩
theorem checkL_iff {L : List Part} : checkL L = true ↔ PartsOk L := by
  unfold checkL PartsOk
  simp only [Bool.and_eq_true, decide_eq_true_eq, List.all_eq_true, okPart, okP_iff]
theorem any_bad : ∀ L : List Part, L.all okPart = !L.any badPart
  | [] => rfl
  | q :: l => by
    rw [List.all_cons, List.any_cons, any_bad l, Bool.not_or]
    unfold okPart badPart
    rw [Bool.not_not]
def asW (q : Part) : Weight := ⟨q.E, q.P⟩
/-- the first place where something is so -/
def firstI {α : Type} (p : α → Bool) : List α → Int → Int
  | [], _ => -1
  | a :: l, i => bif p a then i else firstI p l (i + 1)
theorem firstI_any {α : Type} (p : α → Bool) : ∀ (l : List α) (i : Int), 0 ≤ i → decide (firstI p l i ≥ 0) = l.any p
  | [], i, _ => rfl
  | a :: l, i, h => by
    simp only [firstI, List.any_cons]
    by_cases hp : p a = true
    · simp only [hp, cond_true, Bool.true_or]; exact decide_eq_true h
    · have hp : p a = false := by simpa using hp
      simp only [hp, cond_false, Bool.false_or]; exact firstI_any p l (i + 1) (by omega)
def minG : Int → List Int → Int
  | m, [] => m
  | m, a :: l => minG (min m a) l
def minL (L : List Int) : Int := minG (at' 0 L 0) (L.drop 1)
/-- a sum as it comes -/
def plusSum (L : List Weight) : Qt := L.foldl (fun q w => plusQ q (wq w)) (0, 1)
theorem plusSum_snoc (L : List Weight) (w : Weight) : plusSum (L ++ [w]) = plusQ (plusSum L) (wq w) := by simp [plusSum]
theorem plusSum_bound : ∀ (k : Nat) (L : List Weight), L.length = k → WOk L → 0 < (plusSum L).2 ∧ (plusSum L).2 ≤ 1048576 ^ k ∧ (plusSum L).1 ≤ k * (plusSum L).2
  | 0, L, hk, _ => by
    rw [List.eq_nil_of_length_eq_zero hk]
    exact ⟨by decide, by decide, by decide⟩
  | k + 1, L, hk, h => by
    have hne : L ≠ [] := by intro e; rw [e] at hk; cases hk
    obtain ⟨l, w, rfl⟩ : ∃ l w, L = l ++ [w] := ⟨L.dropLast, L.getLast hne, (List.dropLast_concat_getLast hne).symm⟩
    have hl : l.length = k := by simpa using hk
    obtain ⟨i1, i2, i3⟩ := plusSum_bound k l hl (fun v hv => h v (List.mem_append_left _ hv))
    obtain ⟨w1, w2, w3⟩ := h w (by simp)
    rw [plusSum_snoc]
    generalize plusSum l = q at *
    unfold plusQ wq
    dsimp only
    refine ⟨Nat.mul_pos i1 (by omega), ?_, ?_⟩
    · rw [Nat.pow_succ]
      exact Nat.mul_le_mul i2 (by omega)
    · have e1 : q.1 * w.P.toNat ≤ k * q.2 * w.P.toNat := Nat.mul_le_mul_right _ i3
      have e2 : w.E.toNat * q.2 ≤ w.P.toNat * q.2 := Nat.mul_le_mul_right _ (by omega)
      rw [Nat.succ_mul, Nat.mul_comm w.P.toNat q.2, Nat.mul_assoc] at *
      omega
theorem pow_small (k : Nat) (h : k ≤ 64) : 1048576 ^ k ≤ b32 ^ 64 := Nat.le_trans (Nat.pow_le_pow_left (by decide) k) (Nat.pow_le_pow_right (by decide) h)
theorem plusSum_ok {L : List Weight} (h : WOk L) (hl : L.length ≤ 64) : isR (lim (plusSum L).1) (lim (plusSum L).2) ∧ small (lim (plusSum L).1) ∧ small (lim (plusSum L).2) := by
  obtain ⟨h1, h2, h3⟩ := plusSum_bound L.length L rfl h
  have h4 := pow_small L.length hl
  refine ⟨⟨isN_lim _, isN_lim _, by rw [nv_lim]; exact h1⟩, ?_, ?_⟩
  · refine Nat.le_trans (lim_lt (k := 66) ?_) (by decide)
    have h5 : L.length * (plusSum L).2 ≤ 64 * b32 ^ 64 := Nat.mul_le_mul hl (Nat.le_trans h2 h4)
    rw [show 66 = 64 + 2 from rfl, Nat.pow_add]
    have h6 : 0 < b32 ^ 64 := Nat.pow_pos (by decide)
    generalize b32 ^ 64 = t at *
    rw [show b32 ^ 2 = 18446744073709551616 from rfl]
    omega
  · refine Nat.le_trans (lim_lt (k := 65) ?_) (by decide)
    have h6 : 0 < b32 ^ 64 := Nat.pow_pos (by decide)
    rw [Nat.pow_succ]
    generalize b32 ^ 64 = t at *
    rw [show b32 = 4294967296 from rfl]
    omega

/-! ### regatta/window.Check -/
def winCheckText (e p : Int) : Prop := (match (decide (e ≥ (1 : Int))) with | true => (match (decide (e ≤ p)) with | true => (((okP e p = decide (p ≤ (1048576 : Int))) ∧ True) ∧ True) | false => (((okP e p = false) ∧ True) ∧ True)) | false => (((okP e p = false) ∧ True) ∧ True))
theorem winCheckVc (e p : Int) : fnX X18 (noAnn) Try.f64 [.agg [.raw (.int .i64 e), .raw (.int .i64 p)]] [] (ends [] ⟨some (.raw (.bool (okP e p))), []⟩) = winCheckText e p := by kernel_rfl
theorem winCheckHolds (e p : Int) : winCheckText e p := by
  unfold winCheckText
  unfold okP
  cases decide (e ≥ 1) <;> cases decide (e ≤ p) <;> cases decide (p ≤ 1048576) <;> (repeat' first | apply And.intro | exact True.intro | exact rfl)
noncomputable def winCheckCon : Con T O := fun args cs => match args, cs with
  | [.agg [.raw (.int .i64 e), .raw (.int .i64 p)]], [] => .ret ⟨some (.raw (.bool (okP e p))), []⟩
  | _, _ => .fail
theorem winCheckOk : ConOk R Try.prog 64 winCheckCon := con_of_fn R (X18) (TabOk.con R X18Ok) mixed Try.call64 Try.func64 winCheckCon (by
  intro args cs K h
  unfold winCheckCon at h
  split at h
  · rename_i e p
    refine ⟨noAnn, _, fun v S hv => ⟨_, h, hv⟩, ?_⟩
    rw [winCheckVc e p]
    exact winCheckHolds e p
  · exact h.elim)
/-! ### regatta/regattaref04.Check -/
def r4CheckText (e p : Int) : Prop := (match (decide (e ≥ (1 : Int))) with | true => (match (decide (e ≤ p)) with | true => (((okP e p = decide (p ≤ (1048576 : Int))) ∧ True) ∧ True) | false => (((okP e p = false) ∧ True) ∧ True)) | false => (((okP e p = false) ∧ True) ∧ True))
theorem r4CheckVc (e p : Int) : fnX X18 (noAnn) Try.f18 [.agg [.raw (.int .i64 e), .raw (.int .i64 p)]] [] (ends [] ⟨some (.raw (.bool (okP e p))), []⟩) = r4CheckText e p := by kernel_rfl
theorem r4CheckHolds (e p : Int) : r4CheckText e p := by
  unfold r4CheckText
  unfold okP
  cases decide (e ≥ 1) <;> cases decide (e ≤ p) <;> cases decide (p ≤ 1048576) <;> (repeat' first | apply And.intro | exact True.intro | exact rfl)
noncomputable def r4CheckCon : Con T O := fun args cs => match args, cs with
  | [.agg [.raw (.int .i64 e), .raw (.int .i64 p)]], [] => .ret ⟨some (.raw (.bool (okP e p))), []⟩
  | _, _ => .fail
theorem r4CheckOk : ConOk R Try.prog 18 r4CheckCon := con_of_fn R (X18) (TabOk.con R X18Ok) mixed Try.call18 Try.func18 r4CheckCon (by
  intro args cs K h
  unfold r4CheckCon at h
  split at h
  · rename_i e p
    refine ⟨noAnn, _, fun v S hv => ⟨_, h, hv⟩, ?_⟩
    rw [r4CheckVc e p]
    exact r4CheckHolds e p
  · exact h.elim)
/-! ### regatta/super.weight -/
def supWeightOfText (e p : Int) : Prop := ((((e = e) ∧ ((p = p) ∧ True)) ∧ True) ∧ True)
theorem supWeightOfVc (e p : Int) : fnX X18 (noAnn) Try.f65 [.agg [.raw (.int .i64 e), .raw (.int .i64 p)]] [] (ends [] ⟨some (.agg [.raw (.int .i64 e), .raw (.int .i64 p)]), []⟩) = supWeightOfText e p := by kernel_rfl
theorem supWeightOfHolds (e p : Int) : supWeightOfText e p := by
  unfold supWeightOfText
  repeat' first | apply And.intro | exact True.intro | exact rfl
noncomputable def supWeightOfCon : Con T O := fun args cs => match args, cs with
  | [.agg [.raw (.int .i64 e), .raw (.int .i64 p)]], [] => .ret ⟨some (.agg [.raw (.int .i64 e), .raw (.int .i64 p)]), []⟩
  | _, _ => .fail
theorem supWeightOfOk : ConOk R Try.prog 65 supWeightOfCon := con_of_fn R (X18) (TabOk.con R X18Ok) mixed Try.call65 Try.func65 supWeightOfCon (by
  intro args cs K h
  unfold supWeightOfCon at h
  split at h
  · rename_i e p
    refine ⟨noAnn, _, fun v S hv => ⟨_, h, hv⟩, ?_⟩
    rw [supWeightOfVc e p]
    exact supWeightOfHolds e p
  · exact h.elim)
/-! ### slices.Min[[]int64,int64] -/
def minCText (L : List Int) : Prop := (match (decide ((↑L.length : Int) < (1 : Int))) with | true => False | false => (match (inb (0 : Int) L.length) with | true => (match (inb (0 : Int) L.length) with | true => ((∃ x : Int × Nat, ((((1 : Nat) ≤ x.snd) ∧ ((x.snd ≤ L.length) ∧ (minL L = minG x.fst (List.drop x.snd L)))) ∧ ((True ∧ ((x.fst = at' (0 : Int) L (0 : Int)) ∧ (((↑x.snd : Int) = (1 : Int)) ∧ True))) ∧ ((L = L) ∧ True)))) ∧ (∀ x : Int × Nat, ((((1 : Nat) ≤ x.snd) ∧ ((x.snd ≤ L.length) ∧ (minL L = minG x.fst (List.drop x.snd L)))) → (match (decide ((↑x.snd : Int) < (↑L.length : Int))) with | true => (match (inb (↑x.snd : Int) L.length) with | true => (match (inb (↑x.snd : Int) L.length) with | true => (∃ x' : Int × Nat, ((((1 : Nat) ≤ x'.snd) ∧ ((x'.snd ≤ L.length) ∧ (minL L = minG x'.fst (List.drop x'.snd L)))) ∧ ((L.length - x'.snd < L.length - x.snd) ∧ ((True ∧ ((x'.fst = if at' (0 : Int) L (↑x.snd : Int) < x.fst then at' (0 : Int) L (↑x.snd : Int) else x.fst) ∧ (((↑x'.snd : Int) = IntKind.i64.wrap ((↑x.snd : Int) + (1 : Int))) ∧ True))) ∧ ((L = L) ∧ True))))) | false => False) | false => False) | false => (((minL L = x.fst) ∧ True) ∧ ((L = L) ∧ True)))))) | false => False) | false => False))
theorem minCVc (L : List Int) : fnX X18 (oneLoop 5 { σ := Int × Nat, st := fun S x => ((S.keep [0]).int 3 x.1).int 4 x.2, inv := fun _ x => 1 ≤ x.2 ∧ x.2 ≤ L.length ∧ minL L = minG x.1 (L.drop x.2), m := fun x => L.length - x.2 }) Try.f39 [.own 0] [.vec 0 L 2] (ends [.vec 0 L 2] ⟨some (.raw (.int .i64 (minL L))), [(0, some (.vec 0 L 2))]⟩) = minCText L := by kernel_rfl
theorem minCHolds (L : List Int) (hp : 1 ≤ L.length ∧ L.length ≤ 100000) : minCText L := by
  unfold minCText
  obtain ⟨h1, h2⟩ := hp
  rw [decide_eq_false (show ¬ (L.length : Int) < 1 by omega), show inb 0 L.length = true from inb_nat (a := 0) (by omega)]
  refine ⟨⟨(at' 0 L 0, 1), ⟨Nat.le_refl _, h1, rfl⟩, by repeat' first | trivial | rfl | apply And.intro⟩, ?_⟩
  rintro ⟨m, x⟩ ⟨i1, i2, i3⟩
  dsimp only at i1 i2 i3 ⊢
  by_cases h : x < L.length
  · have hwx := wrap_succ h (show L.length ≤ 140737488355328 by omega)
    rw [dec_lt h, inb_nat h, at_nat h]
    rw [List.drop_eq_getElem_cons h] at i3
    have e : (if L[x] < m then L[x] else m) = min m L[x] := by split <;> omega
    refine ⟨(min m L[x], x + 1), ⟨by dsimp only; omega, h, i3⟩, by dsimp only; omega, ?_⟩
    repeat' first | exact e.symm | exact hwx.symm | trivial | rfl | apply And.intro
  · rw [dec_ge (by omega : L.length ≤ x)]
    rw [List.drop_of_length_le (by omega)] at i3
    repeat' first | exact i3 | trivial | rfl | apply And.intro
noncomputable def minCCon : Con T O := fun args cs => match args, cs with
  | [.own 0], [.vec 0 L 2] => chk (decide (1 ≤ L.length ∧ L.length ≤ 100000)) (.ret ⟨some (.raw (.int .i64 (minL L))), [(0, some (.vec 0 L 2))]⟩)
  | _, _ => .fail
theorem minCOk : ConOk R Try.prog 39 minCCon := con_of_fn R (X18) (TabOk.con R X18Ok) mixed Try.call39 Try.func39 minCCon (by
  intro args cs K h
  unfold minCCon at h
  split at h
  · rename_i L
    rw [Tree.holds_chk] at h
    obtain ⟨hp, h⟩ := h
    refine ⟨oneLoop 5 { σ := Int × Nat, st := fun S x => ((S.keep [0]).int 3 x.1).int 4 x.2, inv := fun _ x => 1 ≤ x.2 ∧ x.2 ≤ L.length ∧ minL L = minG x.1 (L.drop x.2), m := fun x => L.length - x.2 }, _, fun v S hv => ⟨_, h, hv⟩, ?_⟩
    rw [minCVc L]
    exact minCHolds L (of_decide_eq_true hp)
  · exact h.elim)
/-! ### regatta/regattaref03.Sum -/
def qSumK0Text (L : List Weight) : Prop := ((∃ x : Nat, ((x.le L.length) ∧ ((True ∧ (True ∧ (True ∧ (((↑x : Int) = (0 : Int)) ∧ True)))) ∧ ((L = L) ∧ (((Value.slice none (0 : Nat) (0 : Nat) = Value.slice none (0 : Nat) (0 : Nat)) ∧ ((Value.slice none (0 : Nat) (0 : Nat) = Value.slice none (0 : Nat) (0 : Nat)) ∧ True)) ∧ ((True ∧ (True ∧ True)) ∧ ((lim (plusSum (List.take x L)).fst = []) ∧ ((lim (plusSum (List.take x L)).snd = [(1 : Int)]) ∧ True)))))))) ∧ (∀ x : Nat, ((x.le L.length) → (match (decide ((↑x : Int) < (↑L.length : Int))) with | true => (match (inb (↑x : Int) L.length) with | true => (match (inb (↑x : Int) L.length) with | true => (match (decide ((0 : Int) ≤ (at' weightE.zero L (↑x : Int)).E ∧ (at' weightE.zero L (↑x : Int)).E < (9223372036854775808 : Int) ∧ (0 : Int) ≤ (at' weightE.zero L (↑x : Int)).P ∧ (at' weightE.zero L (↑x : Int)).P < (9223372036854775808 : Int))) with | true => (match (decide (isR (lim (plusSum (List.take x L)).fst) (lim (plusSum (List.take x L)).snd) ∧ isR (lim (at' weightE.zero L (↑x : Int)).E.toNat) (lim (at' weightE.zero L (↑x : Int)).P.toNat) ∧ small (lim (plusSum (List.take x L)).fst) ∧ small (lim (plusSum (List.take x L)).snd) ∧ small (lim (at' weightE.zero L (↑x : Int)).E.toNat) ∧ small (lim (at' weightE.zero L (↑x : Int)).P.toNat))) with | true => (∃ x' : Nat, ((x'.le L.length) ∧ ((L.length - x' < L.length - x) ∧ ((True ∧ (True ∧ (True ∧ (((↑x' : Int) = IntKind.i64.wrap ((↑x : Int) + (1 : Int))) ∧ True)))) ∧ ((L = L) ∧ (((Value.slice none (0 : Nat) (0 : Nat) = Value.slice none (0 : Nat) (0 : Nat)) ∧ ((Value.slice none (0 : Nat) (0 : Nat) = Value.slice none (0 : Nat) (0 : Nat)) ∧ True)) ∧ ((True ∧ (True ∧ True)) ∧ ((lim (plusSum (List.take x' L)).fst = lim (plusQ (qv (lim (plusSum (List.take x L)).fst) (lim (plusSum (List.take x L)).snd)) (qv (lim (at' weightE.zero L (↑x : Int)).E.toNat) (lim (at' weightE.zero L (↑x : Int)).P.toNat))).fst) ∧ ((lim (plusSum (List.take x' L)).snd = lim (plusQ (qv (lim (plusSum (List.take x L)).fst) (lim (plusSum (List.take x L)).snd)) (qv (lim (at' weightE.zero L (↑x : Int)).E.toNat) (lim (at' weightE.zero L (↑x : Int)).P.toNat))).snd) ∧ True))))))))) | false => False) | false => False) | false => False) | false => False) | false => (((True ∧ (True ∧ True)) ∧ True) ∧ ((L = L) ∧ ((lim (plusSum L).fst = lim (plusSum (List.take x L)).fst) ∧ ((lim (plusSum L).snd = lim (plusSum (List.take x L)).snd) ∧ True))))))))
theorem qSumK0Vc (L : List Weight) : fnX X18 (oneLoop 3 { σ := Nat, st := fun S x => ratCell ((S.keep [0, 2, 3]).int 4 x) 1 3 (lim (plusSum (L.take x)).1) (lim (plusSum (L.take x)).2), inv := fun _ x => x ≤ L.length, m := fun x => L.length - x }) Try.f40 [.own 0] [.ro 5 L] (ends [.ro 5 L] ⟨some (.agg [.own 1, .own 2]), [(1, some (.ro 2 (lim (plusSum L).1))), (2, some (.ro 2 (lim (plusSum L).2)))]⟩) = qSumK0Text L := by kernel_rfl
theorem qSumK0Holds (L : List Weight) (hp : WOk L ∧ L.length ≤ 64) : qSumK0Text L := by
  unfold qSumK0Text
  obtain ⟨hw, hl⟩ := hp
  refine ⟨⟨0, Nat.zero_le _, by repeat' first | trivial | rfl | apply And.intro⟩, ?_⟩
  intro x hx
  have hx : x ≤ L.length := hx
  by_cases h : x < L.length
  · have hwx := wrap_succ h (show L.length ≤ 140737488355328 by omega)
    have he := hw _ (List.getElem_mem h)
    obtain ⟨s1, s2, s3⟩ := plusSum_ok (hw.take x) (by rw [List.length_take]; omega)
    have o1 : isR (lim L[x].E.toNat) (lim L[x].P.toNat) := ⟨isN_lim _, isN_lim _, by rw [nv_lim]; omega⟩
    have o2 : small (lim L[x].E.toNat) := Nat.le_trans (lim_lt (k := 1) (by show _ < 4294967296 ^ 1; omega)) (by decide)
    have o3 : small (lim L[x].P.toNat) := Nat.le_trans (lim_lt (k := 1) (by show _ < 4294967296 ^ 1; omega)) (by decide)
    rw [dec_lt h, inb_nat h, at_nat h, decide_eq_true (show 0 ≤ L[x].E ∧ L[x].E < 9223372036854775808 ∧ 0 ≤ L[x].P ∧ L[x].P < 9223372036854775808 by omega), decide_eq_true (⟨s1, o1, s2, s3, o2, o3⟩ : isR (lim (plusSum (List.take x L)).1) (lim (plusSum (List.take x L)).2) ∧ isR (lim L[x].E.toNat) (lim L[x].P.toNat) ∧ small (lim (plusSum (List.take x L)).1) ∧ small (lim (plusSum (List.take x L)).2) ∧ small (lim L[x].E.toNat) ∧ small (lim L[x].P.toNat))]
    have e : plusQ (qv (lim (plusSum (List.take x L)).1) (lim (plusSum (List.take x L)).2)) (qv (lim L[x].E.toNat) (lim L[x].P.toNat)) = plusSum (L.take (x + 1)) := by
      rw [take_at h, plusSum_snoc]
      unfold qv
      rw [nv_lim, nv_lim, nv_lim, nv_lim]
      rfl
    rw [e]
    refine ⟨x + 1, h, by omega, ?_⟩
    repeat' first | exact hwx.symm | trivial | rfl | apply And.intro
  · obtain rfl : x = L.length := by omega
    rw [dec_ge (Nat.le_refl _), List.take_length]
    repeat' first | trivial | rfl | apply And.intro
def qSumK1Text (L : List Weight) : Prop := ((∃ x : Nat, ((x.le L.length) ∧ ((True ∧ (True ∧ (True ∧ (((↑x : Int) = (0 : Int)) ∧ True)))) ∧ ((L = L) ∧ (((Value.slice none (0 : Nat) (0 : Nat) = Value.slice none (0 : Nat) (0 : Nat)) ∧ ((Value.slice none (0 : Nat) (0 : Nat) = Value.slice none (0 : Nat) (0 : Nat)) ∧ True)) ∧ ((True ∧ (True ∧ True)) ∧ ((lim (plusSum (List.take x L)).fst = []) ∧ ((lim (plusSum (List.take x L)).snd = [(1 : Int)]) ∧ True)))))))) ∧ (∀ x : Nat, ((x.le L.length) → (match (decide ((↑x : Int) < (↑L.length : Int))) with | true => (match (inb (↑x : Int) L.length) with | true => (match (inb (↑x : Int) L.length) with | true => (match (decide ((0 : Int) ≤ (at' weightE.zero L (↑x : Int)).E ∧ (at' weightE.zero L (↑x : Int)).E < (9223372036854775808 : Int) ∧ (0 : Int) ≤ (at' weightE.zero L (↑x : Int)).P ∧ (at' weightE.zero L (↑x : Int)).P < (9223372036854775808 : Int))) with | true => (match (decide (isR (lim (plusSum (List.take x L)).fst) (lim (plusSum (List.take x L)).snd) ∧ isR (lim (at' weightE.zero L (↑x : Int)).E.toNat) (lim (at' weightE.zero L (↑x : Int)).P.toNat) ∧ small (lim (plusSum (List.take x L)).fst) ∧ small (lim (plusSum (List.take x L)).snd) ∧ small (lim (at' weightE.zero L (↑x : Int)).E.toNat) ∧ small (lim (at' weightE.zero L (↑x : Int)).P.toNat))) with | true => (∃ x' : Nat, ((x'.le L.length) ∧ ((L.length - x' < L.length - x) ∧ ((True ∧ (True ∧ (True ∧ (((↑x' : Int) = IntKind.i64.wrap ((↑x : Int) + (1 : Int))) ∧ True)))) ∧ ((L = L) ∧ (((Value.slice none (0 : Nat) (0 : Nat) = Value.slice none (0 : Nat) (0 : Nat)) ∧ ((Value.slice none (0 : Nat) (0 : Nat) = Value.slice none (0 : Nat) (0 : Nat)) ∧ True)) ∧ ((True ∧ (True ∧ True)) ∧ ((lim (plusSum (List.take x' L)).fst = lim (plusQ (qv (lim (plusSum (List.take x L)).fst) (lim (plusSum (List.take x L)).snd)) (qv (lim (at' weightE.zero L (↑x : Int)).E.toNat) (lim (at' weightE.zero L (↑x : Int)).P.toNat))).fst) ∧ ((lim (plusSum (List.take x' L)).snd = lim (plusQ (qv (lim (plusSum (List.take x L)).fst) (lim (plusSum (List.take x L)).snd)) (qv (lim (at' weightE.zero L (↑x : Int)).E.toNat) (lim (at' weightE.zero L (↑x : Int)).P.toNat))).snd) ∧ True))))))))) | false => False) | false => False) | false => False) | false => False) | false => (((True ∧ (True ∧ True)) ∧ True) ∧ ((L = L) ∧ ((lim (plusSum L).fst = lim (plusSum (List.take x L)).fst) ∧ ((lim (plusSum L).snd = lim (plusSum (List.take x L)).snd) ∧ True))))))))
theorem qSumK1Vc (L : List Weight) : fnX X18 (oneLoop 3 { σ := Nat, st := fun S x => ratCell ((S.keep [0, 2, 3]).int 4 x) 1 3 (lim (plusSum (L.take x)).1) (lim (plusSum (L.take x)).2), inv := fun _ x => x ≤ L.length, m := fun x => L.length - x }) Try.f40 [.own 0] [.vec 5 L 29] (ends [.vec 5 L 29] ⟨some (.agg [.own 1, .own 2]), [(0, some (.vec 5 L 29)), (1, some (.ro 2 (lim (plusSum L).1))), (2, some (.ro 2 (lim (plusSum L).2)))]⟩) = qSumK1Text L := by kernel_rfl
theorem qSumK1Holds (L : List Weight) (hp : WOk L ∧ L.length ≤ 64) : qSumK1Text L := by
  unfold qSumK1Text
  obtain ⟨hw, hl⟩ := hp
  refine ⟨⟨0, Nat.zero_le _, by repeat' first | trivial | rfl | apply And.intro⟩, ?_⟩
  intro x hx
  have hx : x ≤ L.length := hx
  by_cases h : x < L.length
  · have hwx := wrap_succ h (show L.length ≤ 140737488355328 by omega)
    have he := hw _ (List.getElem_mem h)
    obtain ⟨s1, s2, s3⟩ := plusSum_ok (hw.take x) (by rw [List.length_take]; omega)
    have o1 : isR (lim L[x].E.toNat) (lim L[x].P.toNat) := ⟨isN_lim _, isN_lim _, by rw [nv_lim]; omega⟩
    have o2 : small (lim L[x].E.toNat) := Nat.le_trans (lim_lt (k := 1) (by show _ < 4294967296 ^ 1; omega)) (by decide)
    have o3 : small (lim L[x].P.toNat) := Nat.le_trans (lim_lt (k := 1) (by show _ < 4294967296 ^ 1; omega)) (by decide)
    rw [dec_lt h, inb_nat h, at_nat h, decide_eq_true (show 0 ≤ L[x].E ∧ L[x].E < 9223372036854775808 ∧ 0 ≤ L[x].P ∧ L[x].P < 9223372036854775808 by omega), decide_eq_true (⟨s1, o1, s2, s3, o2, o3⟩ : isR (lim (plusSum (List.take x L)).1) (lim (plusSum (List.take x L)).2) ∧ isR (lim L[x].E.toNat) (lim L[x].P.toNat) ∧ small (lim (plusSum (List.take x L)).1) ∧ small (lim (plusSum (List.take x L)).2) ∧ small (lim L[x].E.toNat) ∧ small (lim L[x].P.toNat))]
    have e : plusQ (qv (lim (plusSum (List.take x L)).1) (lim (plusSum (List.take x L)).2)) (qv (lim L[x].E.toNat) (lim L[x].P.toNat)) = plusSum (L.take (x + 1)) := by
      rw [take_at h, plusSum_snoc]
      unfold qv
      rw [nv_lim, nv_lim, nv_lim, nv_lim]
      rfl
    rw [e]
    refine ⟨x + 1, h, by omega, ?_⟩
    repeat' first | exact hwx.symm | trivial | rfl | apply And.intro
  · obtain rfl : x = L.length := by omega
    rw [dec_ge (Nat.le_refl _), List.take_length]
    repeat' first | trivial | rfl | apply And.intro
noncomputable def qSumCon : Con T O := fun args cs => match args, cs with
  | [.own 0], [.ro 5 L] => chk (decide (WOk L ∧ L.length ≤ 64)) (.ret ⟨some (.agg [.own 1, .own 2]), [(1, some (.ro 2 (lim (plusSum L).1))), (2, some (.ro 2 (lim (plusSum L).2)))]⟩)
  | [.own 0], [.vec 5 L 29] => chk (decide (WOk L ∧ L.length ≤ 64)) (.ret ⟨some (.agg [.own 1, .own 2]), [(0, some (.vec 5 L 29)), (1, some (.ro 2 (lim (plusSum L).1))), (2, some (.ro 2 (lim (plusSum L).2)))]⟩)
  | _, _ => .fail
theorem qSumOk : ConOk R Try.prog 40 qSumCon := con_of_fn R (X18) (TabOk.con R X18Ok) mixed Try.call40 Try.func40 qSumCon (by
  intro args cs K h
  unfold qSumCon at h
  split at h
  · rename_i L
    rw [Tree.holds_chk] at h
    obtain ⟨hp, h⟩ := h
    refine ⟨oneLoop 3 { σ := Nat, st := fun S x => ratCell ((S.keep [0, 2, 3]).int 4 x) 1 3 (lim (plusSum (L.take x)).1) (lim (plusSum (L.take x)).2), inv := fun _ x => x ≤ L.length, m := fun x => L.length - x }, _, fun v S hv => ⟨_, h, hv⟩, ?_⟩
    rw [qSumK0Vc L]
    exact qSumK0Holds L (of_decide_eq_true hp)
  · rename_i L
    rw [Tree.holds_chk] at h
    obtain ⟨hp, h⟩ := h
    refine ⟨oneLoop 3 { σ := Nat, st := fun S x => ratCell ((S.keep [0, 2, 3]).int 4 x) 1 3 (lim (plusSum (L.take x)).1) (lim (plusSum (L.take x)).2), inv := fun _ x => x ≤ L.length, m := fun x => L.length - x }, _, fun v S hv => ⟨_, h, hv⟩, ?_⟩
    rw [qSumK1Vc L]
    exact qSumK1Holds L (of_decide_eq_true hp)
  · exact h.elim)
noncomputable def tab19 : Tab T O := (64, winCheckCon) :: (18, r4CheckCon) :: (65, supWeightOfCon) :: (39, minCCon) :: (40, qSumCon) :: tab18
theorem tabOk19 : TabOk R Try.prog tab19 := TabOk.cons R winCheckOk <| TabOk.cons R r4CheckOk <| TabOk.cons R supWeightOfOk <| TabOk.cons R minCOk <| TabOk.cons R qSumOk <| tabOk18
noncomputable def X19 : Ctx T O := { X0 with con := conOf tab19 }
theorem X19Ok : TabOk R X19.P tab19 := tabOk19
end Go.Proofs.Ytmnnjclnldaejaa
