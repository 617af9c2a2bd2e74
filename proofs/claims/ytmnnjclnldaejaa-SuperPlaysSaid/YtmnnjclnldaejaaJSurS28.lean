/-
  Part of a proof over the seat Ytmnnjclnldaejaa: printed by a small program or typed by hand.
-/
import Derived.Test.YtmnnjclnldaejaaJSurS18
import Derived.KernelRfl
import Derived.Test.YtmnnjclnldaejaaSxStable
namespace Go.Proofs.Ytmnnjclnldaejaa
open Go.Sx Go.Proofs Classical

def useQ (L : List Part) : Qt := bif checkL L then sumQ (L.map asW) else (0, 1)
def use14 (L : List Part) : Qt := bif checkL L then plusSum (L.map asW) else (0, 1)
theorem PartsOk.w {L : List Part} (h : PartsOk L) : WOk (L.map asW) := by
  intro w hw
  obtain ⟨q, hq, rfl⟩ := List.mem_map.1 hw
  exact h.2 q hq
theorem PartsOk.p {L : List Part} (h : PartsOk L) : Ones (L.map Part.P) := by
  intro w hw
  obtain ⟨q, hq, rfl⟩ := List.mem_map.1 hw
  have := h.2 q hq
  omega
/-- what is gone through of the row, while it may be -/
structure goneI (L : List Part) (x : Nat) : Prop where
  le : x ≤ L.length
  no : checkL L = false → x = 0
def sumG (p : Int) : Int → List Part → Int
  | s, [] => s
  | s, q :: l => sumG p (s + q.E * (p / q.P)) l
theorem sumG_add (p t : Int) : ∀ (l : List Part) (s : Int), sumG p (s + t) l = sumG p s l + t
  | [], _ => rfl
  | q :: l, s => by
    simp only [sumG]
    rw [show s + t + q.E * (p / q.P) = s + q.E * (p / q.P) + t by omega, sumG_add p t l]
def sumEP (p : Int) (L : List Part) : Int := sumG p 0 L
def leastP (L : List Part) : Int := minL (L.map Part.P)
theorem minG_pos : ∀ (l : List Int) (m : Int), 1 ≤ m → (∀ n ∈ l, 1 ≤ n) → 1 ≤ minG m l
  | [], _, h, _ => h
  | a :: l, m, h, hl => minG_pos l (min m a) (by have := hl a (List.mem_cons_self ..); omega) fun n hn => hl n (List.mem_cons_of_mem _ hn)
theorem leastP_pos {L : List Part} (h : PartsOk L) : 1 ≤ leastP L := by
  have hl := h.1.1
  cases L with
  | nil => simp at hl
  | cons q l =>
    have hO := h.p
    exact minG_pos _ _ (hO q.P (List.mem_cons_self ..)).1 fun n hn => (hO n (List.mem_cons_of_mem _ hn)).1
theorem lcmG_pos : ∀ (l : List Int) (m p : Int), 1 ≤ m → Ones l → lcmG m l = some p → 1 ≤ p
  | [], m, p, h, _, e => by
    simp only [lcmG, Option.some.injEq] at e
    omega
  | n :: l, m, p, h, hO, e => by
    rw [lcmG_cons] at e
    have o1 := (hO n (List.mem_cons_self ..)).1
    have g1 := gcdI_pos (a := m) o1
    have g2 := gcdI_le (b := n) h
    have q1 : 1 ≤ m / gcdI m n := (Int.le_ediv_iff_mul_le (by omega)).2 (by omega)
    have p1 : 1 * 1 ≤ m / gcdI m n * n := Int.mul_le_mul q1 o1 (by omega) (by omega)
    by_cases hm : m / gcdI m n * n ≤ 9223372036854775807
    · rw [decide_eq_true hm, cond_true] at e
      exact lcmG_pos l _ p (by omega) (fun k hk => hO k (List.mem_cons_of_mem _ hk)) e
    · rw [decide_eq_false hm, cond_false] at e
      cases e
theorem share_le {e p a : Int} (h1 : 1 ≤ e) (h2 : e ≤ p) (ha : 0 ≤ a) : 0 ≤ e * (a / p) ∧ e * (a / p) ≤ a ∧ 0 ≤ a / p ∧ a / p ≤ a := by
  have q0 : 0 ≤ a / p := Int.ediv_nonneg ha (by omega)
  have q1 : a / p ≤ a := Int.ediv_le_self _ ha
  have q2 : e * (a / p) ≤ p * (a / p) := Int.mul_le_mul_of_nonneg_right h2 q0
  have q3 := Int.mul_ediv_self_le (x := a) (k := p) (by omega)
  exact ⟨Int.mul_nonneg (by omega) q0, by omega, q0, q1⟩
theorem useQ_ok {L : List Part} (h : PartsOk L) : isR (lim (sumQ (L.map asW)).1) (lim (sumQ (L.map asW)).2) ∧ small (lim (sumQ (L.map asW)).1) ∧ small (lim (sumQ (L.map asW)).2) := sumQ_ok h.w (by rw [List.length_map]; have := h.1.2; omega)
theorem qv_lim (q : Qt) : qv (lim q.1) (lim q.2) = q := by unfold qv; rw [nv_lim, nv_lim]
/-- what is asked of the sums -/
def quotaQ (L : List Part) : Bool := decide (cmpQ (sumQ (L.map asW)) (1, 1) > 0)
def weightR (L : List Part) : Weight × Int :=
  bif checkL L then (match lcmG 1 (L.map Part.P) with
    | none => (⟨0, 0⟩, 16)
    | some p => bif decide (p > 1048576) then (⟨0, 0⟩, 16) else bif quotaQ L then (⟨0, 0⟩, 18) else (⟨min (sumEP p L + p / leastP L) p, p⟩, 0))
  else (⟨0, 0⟩, 1)
def weight14 (L : List Part) : Weight × Int :=
  bif checkL L then (match lcmG 1 (L.map Part.P) with
    | none => (⟨0, 0⟩, 16)
    | some p => bif decide (p > 1048576) then (⟨0, 0⟩, 16) else bif decide (sumEP p L > p) then (⟨0, 0⟩, 18) else (⟨min (sumEP p L + p / leastP L) p, p⟩, 0))
  else (⟨0, 0⟩, 1)


/-- the sum and the least so far -/
structure loop14I (L : List Part) (p s m : Int) (x : Nat) : Prop where
  le : x ≤ L.length
  s0 : 0 ≤ s
  s1 : s ≤ (x : Int) * 1048576
  sum : sumEP p L = sumG p s (L.drop x)
  least : leastP L = minG m ((L.drop x).map Part.P)
theorem loop14I.init {L : List Part} {p : Int} (h : PartsOk L) : loop14I L p 0 (at' partE.zero L 0).P 0 := by
  refine ⟨Nat.zero_le _, by decide, by decide, rfl, ?_⟩
  have hl := h.1.1
  cases L with
  | nil => simp at hl
  | cons q l =>
    show minG q.P (l.map Part.P) = minG (min q.P q.P) (l.map Part.P)
    rw [Int.min_self]
theorem loop14I.step {L : List Part} {p s m : Int} {x : Nat} (h : loop14I L p s m x) (hP : PartsOk L) (h0 : 0 ≤ p) (h1 : p ≤ 1048576) (hx : x < L.length) : loop14I L p (s + L[x].E * (p / L[x].P)) (min m L[x].P) (x + 1) := by
  obtain ⟨o1, o2, o3⟩ := hP.2 _ (List.getElem_mem hx)
  obtain ⟨t0, t1, _, _⟩ := share_le o1 o2 h0
  have a1 := h.s0
  have a2 := h.s1
  have a3 := h.sum
  have a4 := h.least
  rw [List.drop_eq_getElem_cons hx] at a3 a4
  exact ⟨hx, by omega, by rw [Int.natCast_add, Int.add_mul]; omega, a3, a4⟩

/-! ### regatta/super.Use -/
def supUseText (L : List Part) : Prop := (match (decide (L.length ≤ (100000 : Nat))) with | true => (match (!checkL L) with | true => (((True ∧ (True ∧ True)) ∧ True) ∧ ((L = L) ∧ ((lim (useQ L).fst = lim (Int.toNat (0 : Int))) ∧ ((lim (useQ L).snd = lim (1 : Nat)) ∧ True)))) | false => (match (decide (L.length ≤ (100000 : Nat))) with | true => (match (decide (WOk (List.map asW L) ∧ (List.map asW L).length ≤ (64 : Nat))) with | true => (((True ∧ (True ∧ True)) ∧ True) ∧ ((L = L) ∧ ((lim (useQ L).fst = lim (sumQ (List.map asW L)).fst) ∧ ((lim (useQ L).snd = lim (sumQ (List.map asW L)).snd) ∧ True)))) | false => False) | false => False)) | false => False)
theorem supUseVc (L : List Part) : fnX X18 (noAnn) Try.f34 [.own 0] [.ro 3 L] (ends [.ro 3 L] ⟨some (.agg [.own 1, .own 2]), [(1, some (.ro 2 (lim (useQ L).1))), (2, some (.ro 2 (lim (useQ L).2)))]⟩) = supUseText L := by kernel_rfl
theorem supUseHolds (L : List Part) (hp : L.length ≤ 100000) : supUseText L := by
  unfold supUseText
  rw [decide_eq_true hp]
  by_cases hc : checkL L = true
  · have hP := checkL_iff.1 hc
    have e : useQ L = sumQ (L.map asW) := by unfold useQ; rw [hc]; rfl
    rw [hc, e, decide_eq_true (⟨hP.w, by rw [List.length_map]; have := hP.1.2; omega⟩ : WOk (L.map asW) ∧ (L.map asW).length ≤ 64)]
    repeat' first | trivial | rfl | apply And.intro
  · have hc : checkL L = false := by simpa using hc
    have e : useQ L = (0, 1) := by unfold useQ; rw [hc]; rfl
    rw [hc, e]
    repeat' first | trivial | rfl | apply And.intro
noncomputable def supUseCon : Con T O := fun args cs => match args, cs with
  | [.own 0], [.ro 3 L] => chk (decide (L.length ≤ 100000)) (.ret ⟨some (.agg [.own 1, .own 2]), [(1, some (.ro 2 (lim (useQ L).1))), (2, some (.ro 2 (lim (useQ L).2)))]⟩)
  | _, _ => .fail
theorem supUseOk : ConOk R Try.prog 34 supUseCon := con_of_fn R (X18) (TabOk.con R X18Ok) mixed Try.call34 Try.func34 supUseCon (by
  intro args cs K h
  unfold supUseCon at h
  split at h
  · rename_i L
    rw [Tree.holds_chk] at h
    obtain ⟨hp, h⟩ := h
    refine ⟨noAnn, _, fun v S hv => ⟨_, h, hv⟩, ?_⟩
    rw [supUseVc L]
    exact supUseHolds L (of_decide_eq_true hp)
  · exact h.elim)
/-! ### regatta/regattaref14.Weight -/
def r14WeightText (L : List Part) : Prop := (match (decide (L.length ≤ (100000 : Nat))) with | true => (match (!checkL L) with | true => ((((((weight14 L).fst.E = (0 : Int)) ∧ (((weight14 L).fst.P = (0 : Int)) ∧ True)) ∧ (((weight14 L).snd = (1 : Int)) ∧ True)) ∧ True) ∧ ((L = L) ∧ True)) | false => (match (decide (L.length ≤ (100000 : Nat))) with | true => (match (decide (Ones (List.map Part.P L) ∧ (List.map Part.P L).length ≤ (100000 : Nat))) with | true => (match (lcmE (lcmG (1 : Int) (List.map Part.P L)) != (0 : Int)) with | true => ((((((weight14 L).fst.E = (0 : Int)) ∧ (((weight14 L).fst.P = (0 : Int)) ∧ True)) ∧ (((weight14 L).snd = (16 : Int)) ∧ True)) ∧ True) ∧ ((L = L) ∧ True)) | false => (match (decide (lcmV (lcmG (1 : Int) (List.map Part.P L)) > (1048576 : Int))) with | true => ((((((weight14 L).fst.E = (0 : Int)) ∧ (((weight14 L).fst.P = (0 : Int)) ∧ True)) ∧ (((weight14 L).snd = (16 : Int)) ∧ True)) ∧ True) ∧ ((L = L) ∧ True)) | false => (match (inb (0 : Int) L.length) with | true => (match (inb (0 : Int) L.length) with | true => ((∃ x : (Int × Int) × Nat, ((loop14I L (lcmV (lcmG (1 : Int) (List.map Part.P L))) x.fst.fst x.fst.snd x.snd) ∧ ((True ∧ (True ∧ (((0 : Int) = (0 : Int)) ∧ ((lcmV (lcmG (1 : Int) (List.map Part.P L)) = lcmV (lcmG (1 : Int) (List.map Part.P L))) ∧ ((x.fst.fst = (0 : Int)) ∧ ((x.fst.snd = (at' partE.zero L (0 : Int)).P) ∧ (((↑x.snd : Int) = (0 : Int)) ∧ True))))))) ∧ ((L = L) ∧ ((((0 : Int) = (0 : Int)) ∧ (((0 : Int) = (0 : Int)) ∧ True)) ∧ True))))) ∧ (∀ x : (Int × Int) × Nat, ((loop14I L (lcmV (lcmG (1 : Int) (List.map Part.P L))) x.fst.fst x.fst.snd x.snd) → (match (decide ((↑x.snd : Int) < (↑L.length : Int))) with | true => (match (inb (↑x.snd : Int) L.length) with | true => (match (inb (↑x.snd : Int) L.length) with | true => (match (inb (↑x.snd : Int) L.length) with | true => (match (inb (↑x.snd : Int) L.length) with | true => (match ((at' partE.zero L (↑x.snd : Int)).P != (0 : Int)) with | true => (match (inb (↑x.snd : Int) L.length) with | true => (match (inb (↑x.snd : Int) L.length) with | true => (match (decide ((at' partE.zero L (↑x.snd : Int)).P < x.fst.snd)) with | true => (match (inb (↑x.snd : Int) L.length) with | true => (match (inb (↑x.snd : Int) L.length) with | true => (∃ x' : (Int × Int) × Nat, ((loop14I L (lcmV (lcmG (1 : Int) (List.map Part.P L))) x'.fst.fst x'.fst.snd x'.snd) ∧ ((L.length - x'.snd < L.length - x.snd) ∧ ((True ∧ (True ∧ (((0 : Int) = (0 : Int)) ∧ ((lcmV (lcmG (1 : Int) (List.map Part.P L)) = lcmV (lcmG (1 : Int) (List.map Part.P L))) ∧ ((x'.fst.fst = IntKind.i64.wrap (x.fst.fst + IntKind.i64.wrap ((at' partE.zero L (↑x.snd : Int)).E * IntKind.i64.wrap ((lcmV (lcmG (1 : Int) (List.map Part.P L))).tdiv (at' partE.zero L (↑x.snd : Int)).P)))) ∧ ((x'.fst.snd = (at' partE.zero L (↑x.snd : Int)).P) ∧ (((↑x'.snd : Int) = IntKind.i64.wrap ((↑x.snd : Int) + (1 : Int))) ∧ True))))))) ∧ ((L = L) ∧ ((((0 : Int) = (0 : Int)) ∧ (((0 : Int) = (0 : Int)) ∧ True)) ∧ True)))))) | false => False) | false => False) | false => (∃ x' : (Int × Int) × Nat, ((loop14I L (lcmV (lcmG (1 : Int) (List.map Part.P L))) x'.fst.fst x'.fst.snd x'.snd) ∧ ((L.length - x'.snd < L.length - x.snd) ∧ ((True ∧ (True ∧ (((0 : Int) = (0 : Int)) ∧ ((lcmV (lcmG (1 : Int) (List.map Part.P L)) = lcmV (lcmG (1 : Int) (List.map Part.P L))) ∧ ((x'.fst.fst = IntKind.i64.wrap (x.fst.fst + IntKind.i64.wrap ((at' partE.zero L (↑x.snd : Int)).E * IntKind.i64.wrap ((lcmV (lcmG (1 : Int) (List.map Part.P L))).tdiv (at' partE.zero L (↑x.snd : Int)).P)))) ∧ ((x'.fst.snd = x.fst.snd) ∧ (((↑x'.snd : Int) = IntKind.i64.wrap ((↑x.snd : Int) + (1 : Int))) ∧ True))))))) ∧ ((L = L) ∧ ((((0 : Int) = (0 : Int)) ∧ (((0 : Int) = (0 : Int)) ∧ True)) ∧ True))))))) | false => False) | false => False) | false => False) | false => False) | false => False) | false => False) | false => False) | false => (match (decide (x.fst.fst > lcmV (lcmG (1 : Int) (List.map Part.P L)))) with | true => ((((((weight14 L).fst.E = (0 : Int)) ∧ (((weight14 L).fst.P = (0 : Int)) ∧ True)) ∧ (((weight14 L).snd = (18 : Int)) ∧ True)) ∧ True) ∧ ((L = L) ∧ True)) | false => (match (x.fst.snd != (0 : Int)) with | true => (match (decide (IntKind.i64.wrap (x.fst.fst + IntKind.i64.wrap ((lcmV (lcmG (1 : Int) (List.map Part.P L))).tdiv x.fst.snd)) > lcmV (lcmG (1 : Int) (List.map Part.P L)))) with | true => ((((((weight14 L).fst.E = lcmV (lcmG (1 : Int) (List.map Part.P L))) ∧ (((weight14 L).fst.P = lcmV (lcmG (1 : Int) (List.map Part.P L))) ∧ True)) ∧ (((weight14 L).snd = (0 : Int)) ∧ True)) ∧ True) ∧ ((L = L) ∧ True)) | false => ((((((weight14 L).fst.E = IntKind.i64.wrap (x.fst.fst + IntKind.i64.wrap ((lcmV (lcmG (1 : Int) (List.map Part.P L))).tdiv x.fst.snd))) ∧ (((weight14 L).fst.P = lcmV (lcmG (1 : Int) (List.map Part.P L))) ∧ True)) ∧ (((weight14 L).snd = (0 : Int)) ∧ True)) ∧ True) ∧ ((L = L) ∧ True))) | false => False)))))) | false => False) | false => False))) | false => False) | false => False)) | false => False)
theorem r14WeightVc (L : List Part) : fnX X18 (oneLoop 10 { σ := (Int × Int) × Nat, st := fun S x => ((((S.keep [0, 2, 3, 5]).gc 1).int 7 x.1.1).int 8 x.1.2).int 9 x.2, inv := fun S x => loop14I L (S.gi 5) x.1.1 x.1.2 x.2, m := fun x => L.length - x.2 }) Try.f27 [.own 0] [.ro 3 L] (ends [.ro 3 L] ⟨some (.tup [.agg [.raw (.int .i64 (weight14 L).1.E), .raw (.int .i64 (weight14 L).1.P)], .raw (.int .i64 (weight14 L).2)]), []⟩) = r14WeightText L := by kernel_rfl
theorem r14WeightHolds (L : List Part) (hp : L.length ≤ 100000) : r14WeightText L := by
  unfold r14WeightText
  rw [decide_eq_true hp]
  by_cases hc : checkL L = true
  · have hP := checkL_iff.1 hc
    have hl := hP.1
    have ew : weight14 L = (match lcmG 1 (L.map Part.P) with
      | none => ((⟨0, 0⟩ : Weight), (16 : Int))
      | some p => bif decide (p > 1048576) then (⟨0, 0⟩, 16) else bif decide (sumEP p L > p) then (⟨0, 0⟩, 18) else (⟨min (sumEP p L + p / leastP L) p, p⟩, 0)) := by unfold weight14; rw [hc]; rfl
    rw [hc, decide_eq_true (⟨hP.p, by rw [List.length_map]; omega⟩ : Ones (L.map Part.P) ∧ (L.map Part.P).length ≤ 100000)]
    cases hg : lcmG 1 (L.map Part.P) with
    | none =>
      rw [hg] at ew
      rw [ew, show (lcmE none != 0) = true from rfl]
      repeat' first | trivial | rfl | apply And.intro
    | some p =>
      rw [hg] at ew
      dsimp only at ew
      have hp1 := lcmG_pos _ _ _ (by decide) hP.p hg
      rw [show (lcmE (some p) != 0) = false from rfl, show lcmV (some p) = p from rfl]
      by_cases hbig : p > 1048576
      · rw [decide_eq_true hbig, cond_true] at ew
        rw [ew, decide_eq_true hbig]
        repeat' first | trivial | rfl | apply And.intro
      · rw [decide_eq_false hbig, cond_false] at ew
        rw [decide_eq_false hbig, show inb 0 L.length = true from inb_nat (a := 0) (by omega)]
        refine ⟨⟨((0, (at' partE.zero L 0).P), 0), loop14I.init hP, by repeat' first | trivial | rfl | apply And.intro⟩, ?_⟩
        rintro ⟨⟨s, m⟩, x⟩ hi
        dsimp only at hi ⊢
        have hs0 := hi.s0
        have hs1 := hi.s1
        have hle := hi.le
        by_cases h : x < L.length
        · obtain ⟨o1, o2, o3⟩ := hP.2 _ (List.getElem_mem h)
          obtain ⟨t0, t1, t2, t3⟩ := share_le o1 o2 (show 0 ≤ p by omega)
          have hst := hi.step hP (by omega) (by omega) h
          have hwx := wrap_succ h (show L.length ≤ 140737488355328 by omega)
          rw [dec_lt h, inb_nat h, at_nat h, show (L[x].P != 0) = true from bne_iff_ne.2 (by omega), Int.tdiv_eq_ediv_of_nonneg (show 0 ≤ p by omega), wrap_id (n := p / L[x].P) (by omega) (by omega), wrap_id (n := L[x].E * (p / L[x].P)) (by omega) (by omega), wrap_id (n := s + L[x].E * (p / L[x].P)) (by omega) (by omega)]
          by_cases g : L[x].P < m
          · have e : min m L[x].P = L[x].P := by omega
            rw [decide_eq_true g]
            refine ⟨((s + L[x].E * (p / L[x].P), min m L[x].P), x + 1), hst, by dsimp only; omega, ?_⟩
            repeat' first | exact hwx.symm | exact e | trivial | rfl | apply And.intro
          · have e : min m L[x].P = m := by omega
            rw [decide_eq_false g]
            refine ⟨((s + L[x].E * (p / L[x].P), min m L[x].P), x + 1), hst, by dsimp only; omega, ?_⟩
            repeat' first | exact hwx.symm | exact e | trivial | rfl | apply And.intro
        · have e1 : sumEP p L = s := by rw [hi.sum, List.drop_of_length_le (by omega)]; rfl
          have e2 : leastP L = m := by rw [hi.least, List.drop_of_length_le (by omega)]; rfl
          have hm := leastP_pos hP
          rw [e1, e2] at ew
          rw [e2] at hm
          have q0 : 0 ≤ p / m := Int.ediv_nonneg (by omega) (by omega)
          have q1 : p / m ≤ p := Int.ediv_le_self _ (by omega)
          rw [dec_ge (by omega : L.length ≤ x), show (m != 0) = true from bne_iff_ne.2 (by omega), Int.tdiv_eq_ediv_of_nonneg (b := m) (show 0 ≤ p by omega), wrap_id (n := p / m) (by omega) (by omega), wrap_id (n := s + p / m) (by omega) (by omega)]
          by_cases g : s > p
          · rw [decide_eq_true g, cond_true] at ew
            rw [decide_eq_true g, ew]
            repeat' first | trivial | rfl | apply And.intro
          · rw [decide_eq_false g, cond_false] at ew
            rw [decide_eq_false g]
            by_cases k : s + p / m > p
            · rw [show min (s + p / m) p = p by omega] at ew
              rw [decide_eq_true k, ew]
              repeat' first | trivial | rfl | apply And.intro
            · rw [show min (s + p / m) p = s + p / m by omega] at ew
              rw [decide_eq_false k, ew]
              repeat' first | trivial | rfl | apply And.intro
  · have hc : checkL L = false := by simpa using hc
    have ew : weight14 L = (⟨0, 0⟩, 1) := by unfold weight14; rw [hc]; rfl
    rw [hc, ew]
    repeat' first | trivial | rfl | apply And.intro
noncomputable def r14WeightCon : Con T O := fun args cs => match args, cs with
  | [.own 0], [.ro 3 L] => chk (decide (L.length ≤ 100000)) (.ret ⟨some (.tup [.agg [.raw (.int .i64 (weight14 L).1.E), .raw (.int .i64 (weight14 L).1.P)], .raw (.int .i64 (weight14 L).2)]), []⟩)
  | _, _ => .fail
theorem r14WeightOk : ConOk R Try.prog 27 r14WeightCon := con_of_fn R (X18) (TabOk.con R X18Ok) mixed Try.call27 Try.func27 r14WeightCon (by
  intro args cs K h
  unfold r14WeightCon at h
  split at h
  · rename_i L
    rw [Tree.holds_chk] at h
    obtain ⟨hp, h⟩ := h
    refine ⟨oneLoop 10 { σ := (Int × Int) × Nat, st := fun S x => ((((S.keep [0, 2, 3, 5]).gc 1).int 7 x.1.1).int 8 x.1.2).int 9 x.2, inv := fun S x => loop14I L (S.gi 5) x.1.1 x.1.2 x.2, m := fun x => L.length - x.2 }, _, fun v S hv => ⟨_, h, hv⟩, ?_⟩
    rw [r14WeightVc L]
    exact r14WeightHolds L (of_decide_eq_true hp)
  · exact h.elim)
noncomputable def tab19 : Tab T O := (34, supUseCon) :: (27, r14WeightCon) :: tab18
theorem tabOk19 : TabOk R Try.prog tab19 := TabOk.cons R supUseOk <| TabOk.cons R r14WeightOk <| tabOk18
noncomputable def X19 : Ctx T O := { X0 with con := conOf tab19 }
theorem X19Ok : TabOk R X19.P tab19 := tabOk19
end Go.Proofs.Ytmnnjclnldaejaa

namespace Go.Proofs.Ytmnnjclnldaejaa
open Go.Sx Go.Proofs Classical

structure loopWI (L : List Part) (p s : Int) (x : Nat) : Prop where
  le : x ≤ L.length
  s0 : 0 ≤ s
  s1 : s ≤ (x : Int) * 1048576 + 1048576
  sum : sumEP p L + p / leastP L = sumG p s (L.drop x)
theorem loopWI.init {L : List Part} {p : Int} (h : PartsOk L) (h0 : 0 ≤ p) (h1 : p ≤ 1048576) : loopWI L p (p / leastP L) 0 := by
  have q0 : 0 ≤ p / leastP L := Int.ediv_nonneg h0 (by have := leastP_pos h; omega)
  have q1 : p / leastP L ≤ p := Int.ediv_le_self _ h0
  refine ⟨Nat.zero_le _, q0, by omega, ?_⟩
  have := sumG_add p (p / leastP L) L 0
  rw [Int.zero_add] at this
  exact this.symm
theorem loopWI.step {L : List Part} {p s : Int} {x : Nat} (h : loopWI L p s x) (hP : PartsOk L) (h0 : 0 ≤ p) (h1 : p ≤ 1048576) (hx : x < L.length) : loopWI L p (s + L[x].E * (p / L[x].P)) (x + 1) := by
  obtain ⟨o1, o2, o3⟩ := hP.2 _ (List.getElem_mem hx)
  obtain ⟨t0, t1, _, _⟩ := share_le o1 o2 h0
  have a1 := h.s0
  have a2 := h.s1
  have a3 := h.sum
  rw [List.drop_eq_getElem_cons hx] at a3
  exact ⟨hx, by omega, by rw [Int.natCast_add, Int.add_mul]; omega, a3⟩

/-! ### regatta/super.Weight -/
def supWeightText (L : List Part) : Prop := (match (decide (L.length ≤ (100000 : Nat))) with | true => (match (!checkL L) with | true => ((((((weightR L).fst.E = (0 : Int)) ∧ (((weightR L).fst.P = (0 : Int)) ∧ True)) ∧ (((weightR L).snd = (1 : Int)) ∧ True)) ∧ True) ∧ ((L = L) ∧ True)) | false => ((∃ x : Nat, ((x.le L.length) ∧ ((True ∧ (True ∧ (((0 : Int) = (0 : Int)) ∧ (True ∧ (True ∧ (((↑L.length : Int) = (↑L.length : Int)) ∧ (((↑x : Int) = (0 : Int)) ∧ True))))))) ∧ ((L = L) ∧ ((((0 : Int) = (0 : Int)) ∧ (((0 : Int) = (0 : Int)) ∧ True)) ∧ ((List.map Part.P (List.take x L) = []) ∧ True)))))) ∧ (∀ x : Nat, ((x.le L.length) → (match (decide ((↑x : Int) < (↑L.length : Int))) with | true => (match (inb (↑x : Int) L.length) with | true => (match (inb (↑x : Int) L.length) with | true => (match (roomy ((List.map Part.P (List.take x L)).length + (1 : Nat)) (nat_lit 8)) with | true => (∃ x' : Nat, ((x'.le L.length) ∧ ((L.length - x' < L.length - x) ∧ ((True ∧ (True ∧ (((0 : Int) = (0 : Int)) ∧ (True ∧ (True ∧ (((↑L.length : Int) = (↑L.length : Int)) ∧ (((↑x' : Int) = IntKind.i64.wrap ((↑x : Int) + (1 : Int))) ∧ True))))))) ∧ ((L = L) ∧ ((((0 : Int) = (0 : Int)) ∧ (((0 : Int) = (0 : Int)) ∧ True)) ∧ ((List.map Part.P (List.take x' L) = List.map Part.P (List.take x L) ++ [(at' partE.zero L (↑x : Int)).P]) ∧ True))))))) | false => False) | false => False) | false => False) | false => (match (decide (Ones (List.map Part.P (List.take x L)) ∧ (List.map Part.P (List.take x L)).length ≤ (100000 : Nat))) with | true => (match (lcmE (lcmG (1 : Int) (List.map Part.P (List.take x L))) != (0 : Int)) with | true => ((((((weightR L).fst.E = (0 : Int)) ∧ (((weightR L).fst.P = (0 : Int)) ∧ True)) ∧ (((weightR L).snd = (16 : Int)) ∧ True)) ∧ True) ∧ ((L = L) ∧ True)) | false => (match (decide (lcmV (lcmG (1 : Int) (List.map Part.P (List.take x L))) > (1048576 : Int))) with | true => ((((((weightR L).fst.E = (0 : Int)) ∧ (((weightR L).fst.P = (0 : Int)) ∧ True)) ∧ (((weightR L).snd = (16 : Int)) ∧ True)) ∧ True) ∧ ((L = L) ∧ True)) | false => (match (decide (L.length ≤ (100000 : Nat))) with | true => (match (decide (isR (lim (useQ L).fst) (lim (useQ L).snd) ∧ isR (lim (Int.toNat (1 : Int))) (lim (1 : Nat)) ∧ small (lim (useQ L).fst) ∧ small (lim (useQ L).snd) ∧ small (lim (Int.toNat (1 : Int))) ∧ small (lim (1 : Nat)))) with | true => (match (decide (cmpQ (qv (lim (useQ L).fst) (lim (useQ L).snd)) (qv (lim (Int.toNat (1 : Int))) (lim (1 : Nat))) > (0 : Int))) with | true => ((((((weightR L).fst.E = (0 : Int)) ∧ (((weightR L).fst.P = (0 : Int)) ∧ True)) ∧ (((weightR L).snd = (18 : Int)) ∧ True)) ∧ True) ∧ ((L = L) ∧ True)) | false => (match (decide ((1 : Nat) ≤ (List.map Part.P (List.take x L)).length ∧ (List.map Part.P (List.take x L)).length ≤ (100000 : Nat))) with | true => (match (minL (List.map Part.P (List.take x L)) != (0 : Int)) with | true => ((∃ x1 : Int × Nat, ((loopWI L (lcmV (lcmG (1 : Int) (List.map Part.P (List.take x L)))) x1.fst x1.snd) ∧ ((True ∧ (True ∧ (((0 : Int) = (0 : Int)) ∧ (True ∧ ((lcmV (lcmG (1 : Int) (List.map Part.P (List.take x L))) = lcmV (lcmG (1 : Int) (List.map Part.P (List.take x L)))) ∧ ((x1.fst = IntKind.i64.wrap ((lcmV (lcmG (1 : Int) (List.map Part.P (List.take x L)))).tdiv (minL (List.map Part.P (List.take x L))))) ∧ (True ∧ (((↑L.length : Int) = (↑L.length : Int)) ∧ (((↑x1.snd : Int) = (0 : Int)) ∧ True))))))))) ∧ ((L = L) ∧ ((((0 : Int) = (0 : Int)) ∧ (((0 : Int) = (0 : Int)) ∧ True)) ∧ ((List.map Part.P (List.take x L) = List.map Part.P (List.take x L)) ∧ True)))))) ∧ (∀ x1 : Int × Nat, ((loopWI L (lcmV (lcmG (1 : Int) (List.map Part.P (List.take x L)))) x1.fst x1.snd) → (match (decide ((↑x1.snd : Int) < (↑L.length : Int))) with | true => (match (inb (↑x1.snd : Int) L.length) with | true => (match (inb (↑x1.snd : Int) L.length) with | true => (match ((at' partE.zero L (↑x1.snd : Int)).P != (0 : Int)) with | true => (∃ x' : Int × Nat, ((loopWI L (lcmV (lcmG (1 : Int) (List.map Part.P (List.take x L)))) x'.fst x'.snd) ∧ ((L.length - x'.snd < L.length - x1.snd) ∧ ((True ∧ (True ∧ (((0 : Int) = (0 : Int)) ∧ (True ∧ ((lcmV (lcmG (1 : Int) (List.map Part.P (List.take x L))) = lcmV (lcmG (1 : Int) (List.map Part.P (List.take x L)))) ∧ ((x'.fst = IntKind.i64.wrap (x1.fst + IntKind.i64.wrap ((at' partE.zero L (↑x1.snd : Int)).E * IntKind.i64.wrap ((lcmV (lcmG (1 : Int) (List.map Part.P (List.take x L)))).tdiv (at' partE.zero L (↑x1.snd : Int)).P)))) ∧ (True ∧ (((↑L.length : Int) = (↑L.length : Int)) ∧ (((↑x'.snd : Int) = IntKind.i64.wrap ((↑x1.snd : Int) + (1 : Int))) ∧ True))))))))) ∧ ((L = L) ∧ ((((0 : Int) = (0 : Int)) ∧ (((0 : Int) = (0 : Int)) ∧ True)) ∧ ((List.map Part.P (List.take x L) = List.map Part.P (List.take x L)) ∧ True))))))) | false => False) | false => False) | false => False) | false => ((((((weightR L).fst.E = if lcmV (lcmG (1 : Int) (List.map Part.P (List.take x L))) < x1.fst then lcmV (lcmG (1 : Int) (List.map Part.P (List.take x L))) else x1.fst) ∧ (((weightR L).fst.P = lcmV (lcmG (1 : Int) (List.map Part.P (List.take x L)))) ∧ True)) ∧ (((weightR L).snd = (0 : Int)) ∧ True)) ∧ True) ∧ ((L = L) ∧ True)))))) | false => False) | false => False)) | false => False) | false => False))) | false => False)))))) | false => False)
theorem supWeightVc (L : List Part) : fnX X19 (annOf [(5, { σ := Nat, st := fun S x => ((S.keep [0, 2, 3, 16, 17]).int 18 x).new 4 (.vec 0 ((L.take x).map Part.P) 2), inv := fun _ x => x ≤ L.length, m := fun x => L.length - x }), (16, { σ := Int × Nat, st := fun S x => (((S.keep [0, 2, 3, 4, 7, 52, 53]).gc 1).int 9 x.1).int 54 x.2, inv := fun S x => loopWI L (S.gi 7) x.1 x.2, m := fun x => L.length - x.2 })] []) Try.f13 [.own 0] [.ro 3 L] (ends [.ro 3 L] ⟨some (.tup [.agg [.raw (.int .i64 (weightR L).1.E), .raw (.int .i64 (weightR L).1.P)], .raw (.int .i64 (weightR L).2)]), []⟩) = supWeightText L := by kernel_rfl
theorem supWeightHolds (L : List Part) (hp : L.length ≤ 100000) : supWeightText L := by
  unfold supWeightText
  rw [decide_eq_true hp]
  by_cases hc : checkL L = true
  · have hP := checkL_iff.1 hc
    have hl := hP.1
    have ew : weightR L = (match lcmG 1 (L.map Part.P) with
      | none => ((⟨0, 0⟩ : Weight), (16 : Int))
      | some p => bif decide (p > 1048576) then (⟨0, 0⟩, 16) else bif quotaQ L then (⟨0, 0⟩, 18) else (⟨min (sumEP p L + p / leastP L) p, p⟩, 0)) := by unfold weightR; rw [hc]; rfl
    have eu : useQ L = sumQ (L.map asW) := by unfold useQ; rw [hc]; rfl
    rw [hc]
    refine ⟨⟨0, Nat.zero_le _, by repeat' first | trivial | rfl | apply And.intro⟩, ?_⟩
    intro x hx
    have hx : x ≤ L.length := hx
    by_cases h : x < L.length
    · have hwx := wrap_succ h (show L.length ≤ 140737488355328 by omega)
      have hr : roomy (((L.take x).map Part.P).length + 1) 8 = true := by
        rw [List.length_map, List.length_take]
        exact decide_eq_true (by omega)
      have e : (L.take (x + 1)).map Part.P = (L.take x).map Part.P ++ [Part.P L[x]] := by rw [take_at h, List.map_append]; rfl
      rw [dec_lt h, inb_nat h, at_nat h, hr]
      refine ⟨x + 1, h, by omega, ?_⟩
      repeat' first | exact hwx.symm | exact e | trivial | rfl | apply And.intro
    obtain rfl : x = L.length := by omega
    rw [dec_ge (Nat.le_refl _), List.take_length, decide_eq_true (⟨hP.p, by rw [List.length_map]; omega⟩ : Ones (L.map Part.P) ∧ (L.map Part.P).length ≤ 100000)]
    cases hg : lcmG 1 (L.map Part.P) with
    | none =>
      rw [hg] at ew
      rw [ew, show (lcmE none != 0) = true from rfl]
      repeat' first | trivial | rfl | apply And.intro
    | some p =>
      rw [hg] at ew
      dsimp only at ew
      have hp1 := lcmG_pos _ _ _ (by decide) hP.p hg
      rw [show (lcmE (some p) != 0) = false from rfl, show lcmV (some p) = p from rfl]
      by_cases hbig : p > 1048576
      · rw [decide_eq_true hbig, cond_true] at ew
        rw [ew, decide_eq_true hbig]
        repeat' first | trivial | rfl | apply And.intro
      · rw [decide_eq_false hbig, cond_false] at ew
        obtain ⟨u1, u2, u3⟩ := useQ_ok hP
        have hq : decide (cmpQ (qv (lim (sumQ (L.map asW)).1) (lim (sumQ (L.map asW)).2)) (qv (lim (Int.toNat 1)) (lim 1)) > 0) = quotaQ L := by
          rw [qv_lim]
          unfold quotaQ
          exact congrArg (fun q => decide (cmpQ (sumQ (L.map asW)) q > 0)) (qv_lim (1, 1))
        have hone : isR (lim (Int.toNat 1)) (lim 1) ∧ small (lim (Int.toNat 1)) ∧ small (lim 1) := by
          have l1 : (lim 1).length ≤ 1 := lim_lt (k := 1) (by decide)
          exact ⟨⟨isN_lim _, isN_lim _, by rw [nv_lim]; decide⟩, Nat.le_trans l1 (by decide), Nat.le_trans l1 (by decide)⟩
        have hm := leastP_pos hP
        rw [decide_eq_false hbig, eu, decide_eq_true (⟨u1, hone.1, u2, u3, hone.2.1, hone.2.2⟩ : isR (lim (sumQ (L.map asW)).1) (lim (sumQ (L.map asW)).2) ∧ isR (lim (Int.toNat 1)) (lim 1) ∧ small (lim (sumQ (L.map asW)).1) ∧ small (lim (sumQ (L.map asW)).2) ∧ small (lim (Int.toNat 1)) ∧ small (lim 1)), hq, decide_eq_true (⟨by rw [List.length_map]; omega, by rw [List.length_map]; omega⟩ : 1 ≤ (L.map Part.P).length ∧ (L.map Part.P).length ≤ 100000)]
        by_cases hqq : quotaQ L = true
        · rw [hqq, cond_true] at ew
          rw [hqq, ew]
          repeat' first | trivial | rfl | apply And.intro
        · have hqq : quotaQ L = false := by simpa using hqq
          rw [hqq, cond_false] at ew
          have q1 : p / leastP L ≤ p := Int.ediv_le_self _ (by omega)
          have hin := loopWI.init hP (show 0 ≤ p by omega) (by omega)
          have hin0 := hin.s0
          rw [hqq, show minL (L.map Part.P) = leastP L from rfl, show (leastP L != 0) = true from bne_iff_ne.2 (by omega), Int.tdiv_eq_ediv_of_nonneg (b := leastP L) (show 0 ≤ p by omega), wrap_id (n := p / leastP L) (by omega) (by omega)]
          refine ⟨⟨(p / leastP L, 0), hin, by repeat' first | trivial | rfl | apply And.intro⟩, ?_⟩
          rintro ⟨s, y⟩ hi
          dsimp only at hi ⊢
          have hs0 := hi.s0
          have hs1 := hi.s1
          have hle := hi.le
          by_cases h2 : y < L.length
          · obtain ⟨o1, o2, o3⟩ := hP.2 _ (List.getElem_mem h2)
            obtain ⟨t0, t1, t2, t3⟩ := share_le o1 o2 (show 0 ≤ p by omega)
            have hst := hi.step hP (by omega) (by omega) h2
            have hwx := wrap_succ h2 (show L.length ≤ 140737488355328 by omega)
            rw [dec_lt h2, inb_nat h2, at_nat h2, show (L[y].P != 0) = true from bne_iff_ne.2 (by omega), Int.tdiv_eq_ediv_of_nonneg (show 0 ≤ p by omega), wrap_id (n := p / L[y].P) (by omega) (by omega), wrap_id (n := L[y].E * (p / L[y].P)) (by omega) (by omega), wrap_id (n := s + L[y].E * (p / L[y].P)) (by omega) (by omega)]
            refine ⟨(s + L[y].E * (p / L[y].P), y + 1), hst, by dsimp only; omega, ?_⟩
            repeat' first | exact hwx.symm | trivial | rfl | apply And.intro
          · have e1 : sumEP p L + p / leastP L = s := by rw [hi.sum, List.drop_of_length_le (by omega)]; rfl
            rw [e1] at ew
            have e2 : min s p = (if p < s then p else s) := by split <;> omega
            rw [dec_ge (by omega : L.length ≤ y), ew]
            repeat' first | exact e2 | trivial | rfl | apply And.intro
  · have hc : checkL L = false := by simpa using hc
    have ew : weightR L = (⟨0, 0⟩, 1) := by unfold weightR; rw [hc]; rfl
    rw [hc, ew]
    repeat' first | trivial | rfl | apply And.intro
noncomputable def supWeightBCon : Con T O := fun args cs => match args, cs with
  | [.own 0], [.ro 3 L] => chk (decide (L.length ≤ 100000)) (.ret ⟨some (.tup [.agg [.raw (.int .i64 (weightR L).1.E), .raw (.int .i64 (weightR L).1.P)], .raw (.int .i64 (weightR L).2)]), []⟩)
  | _, _ => .fail
theorem supWeightBOk : ConOk R Try.prog 13 supWeightBCon := con_of_fn R (X19) (TabOk.con R X19Ok) mixed Try.call13 Try.func13 supWeightBCon (by
  intro args cs K h
  unfold supWeightBCon at h
  split at h
  · rename_i L
    rw [Tree.holds_chk] at h
    obtain ⟨hp, h⟩ := h
    refine ⟨annOf [(5, { σ := Nat, st := fun S x => ((S.keep [0, 2, 3, 16, 17]).int 18 x).new 4 (.vec 0 ((L.take x).map Part.P) 2), inv := fun _ x => x ≤ L.length, m := fun x => L.length - x }), (16, { σ := Int × Nat, st := fun S x => (((S.keep [0, 2, 3, 4, 7, 52, 53]).gc 1).int 9 x.1).int 54 x.2, inv := fun S x => loopWI L (S.gi 7) x.1 x.2, m := fun x => L.length - x.2 })] [], _, fun v S hv => ⟨_, h, hv⟩, ?_⟩
    rw [supWeightVc L]
    exact supWeightHolds L (of_decide_eq_true hp)
  · exact h.elim)
noncomputable def supWeightCon : Con T O := relax 3 supWeightBCon
theorem supWeightOk : ConOk R Try.prog 13 supWeightCon := relax_ok R 3 supWeightBOk
noncomputable def tab20 : Tab T O := (13, supWeightCon) :: tab19
theorem tabOk20 : TabOk R Try.prog tab20 := TabOk.cons R supWeightOk <| tabOk19
noncomputable def X20 : Ctx T O := { X0 with con := conOf tab20 }
theorem X20Ok : TabOk R X20.P tab20 := tabOk20
end Go.Proofs.Ytmnnjclnldaejaa

namespace Go.Proofs.Ytmnnjclnldaejaa
open Go.Sx Go.Proofs Classical
/-! ### sums of shares, by a common period -/
theorem gcdI_dvd {m n : Int} (hm : 0 ≤ m) (hn : 0 ≤ n) : gcdI m n ∣ m ∧ gcdI m n ∣ n := by
  obtain ⟨a, rfl⟩ := Int.eq_ofNat_of_zero_le hm
  obtain ⟨b, rfl⟩ := Int.eq_ofNat_of_zero_le hn
  exact ⟨Int.natCast_dvd_natCast.2 (Nat.gcd_dvd_left a b), Int.natCast_dvd_natCast.2 (Nat.gcd_dvd_right a b)⟩
theorem lcm_step {m n : Int} (hm : 1 ≤ m) (hn : 1 ≤ n) : m ∣ m / gcdI m n * n ∧ n ∣ m / gcdI m n * n := by
  obtain ⟨h1, k, hk⟩ := gcdI_dvd (m := m) (n := n) (by omega) (by omega)
  refine ⟨⟨k, ?_⟩, Int.dvd_mul_left _ _⟩
  calc m / gcdI m n * n = m / gcdI m n * (gcdI m n * k) := by rw [← hk]
    _ = m * k := by rw [← Int.mul_assoc, Int.ediv_mul_cancel h1]
theorem lcmG_dvd : ∀ (l : List Int) (m p : Int), 1 ≤ m → Ones l → lcmG m l = some p → m ∣ p ∧ ∀ n ∈ l, n ∣ p
  | [], m, p, h, _, e => by
    simp only [lcmG, Option.some.injEq] at e
    subst e
    exact ⟨Int.dvd_refl _, fun n hn => by cases hn⟩
  | n :: l, m, p, h, hO, e => by
    rw [lcmG_cons] at e
    have o1 := (hO n (List.mem_cons_self ..)).1
    have g1 := gcdI_pos (a := m) o1
    have g2 := gcdI_le (b := n) h
    have q1 : 1 ≤ m / gcdI m n := (Int.le_ediv_iff_mul_le (by omega)).2 (by omega)
    have p1 : 1 * 1 ≤ m / gcdI m n * n := Int.mul_le_mul q1 o1 (by omega) (by omega)
    obtain ⟨d1, d2⟩ := lcm_step h o1
    by_cases hm : m / gcdI m n * n ≤ 9223372036854775807
    · rw [decide_eq_true hm, cond_true] at e
      obtain ⟨i1, i2⟩ := lcmG_dvd l _ p (by omega) (fun k hk => hO k (List.mem_cons_of_mem _ hk)) e
      refine ⟨Int.dvd_trans d1 i1, fun k hk => ?_⟩
      rcases List.mem_cons.1 hk with rfl | hk
      · exact Int.dvd_trans d2 i1
      · exact i2 k hk
    · rw [decide_eq_false hm, cond_false] at e
      cases e
/-- a ratio is a number of quanta of a period -/
def isShare (q : Qt) (p s : Nat) : Prop := 0 < q.2 ∧ q.1 * p = q.2 * s
theorem isShare.plus {q : Qt} {p s : Nat} (h : isShare q p s) {e c : Nat} (hc : 0 < c) (hd : c ∣ p) : isShare (plusQ q (e, c)) p (s + e * (p / c)) := by
  obtain ⟨k, rfl⟩ := hd
  obtain ⟨h1, h2⟩ := h
  refine ⟨Nat.mul_pos h1 hc, ?_⟩
  rw [Nat.mul_div_cancel_left _ hc]
  unfold plusQ
  dsimp only
  have e1 : q.1 * c * (c * k) = c * (q.1 * (c * k)) := by rw [Nat.mul_comm q.1 c, Nat.mul_assoc]
  rw [Nat.add_mul, e1, h2, Nat.mul_add]
  have e2 : c * (q.2 * s) = q.2 * c * s := by rw [← Nat.mul_assoc, Nat.mul_comm c q.2]
  have e3 : e * q.2 * (c * k) = q.2 * c * (e * k) := by
    rw [Nat.mul_comm e q.2, Nat.mul_assoc, Nat.mul_assoc, Nat.mul_left_comm e c k]
  rw [e2, e3]
theorem isShare.low {q : Qt} {p s : Nat} (h : isShare q p s) : isShare (least q) p s := by
  obtain ⟨h1, h2⟩ := h
  refine ⟨least_pos h1, ?_⟩
  have hl := least_eq h1
  refine Nat.eq_of_mul_eq_mul_right h1 ?_
  calc (least q).1 * p * q.2 = (least q).1 * q.2 * p := by rw [Nat.mul_right_comm]
    _ = (least q).2 * (q.1 * p) := by rw [hl, Nat.mul_comm q.1, Nat.mul_assoc]
    _ = (least q).2 * s * q.2 := by rw [h2, Nat.mul_comm q.2 s, Nat.mul_assoc]
theorem shares (p : Nat) : ∀ (L : List Part) (q r : Qt) (s : Nat), (∀ a ∈ L, 1 ≤ a.E ∧ 1 ≤ a.P ∧ a.P ∣ (p : Int)) → isShare q p s → isShare r p s →
    ∃ t : Nat, sumG p s L = (t : Int) ∧ isShare ((L.map asW).foldl (fun q w => addQ q (wq w)) q) p t ∧ isShare ((L.map asW).foldl (fun q w => plusQ q (wq w)) r) p t
  | [], q, r, s, _, hq, hr => ⟨s, rfl, hq, hr⟩
  | a :: L, q, r, s, hL, hq, hr => by
    obtain ⟨a1, a2, a3⟩ := hL a (List.mem_cons_self ..)
    have hd : a.P.toNat ∣ p := by
      have := Int.toNat_of_nonneg (show 0 ≤ a.P by omega)
      rw [← this] at a3
      exact Int.natCast_dvd_natCast.1 a3
    have hc : 0 < a.P.toNat := by omega
    have e : (s : Int) + a.E * ((p : Int) / a.P) = ((s + a.E.toNat * (p / a.P.toNat) : Nat) : Int) := by
      rw [Int.natCast_add, Int.natCast_mul, Int.natCast_ediv, Int.toNat_of_nonneg (show 0 ≤ a.E by omega), Int.toNat_of_nonneg (show 0 ≤ a.P by omega)]
    simp only [sumG, List.map_cons, List.foldl_cons]
    rw [e]
    exact shares p L _ _ _ (fun b hb => hL b (List.mem_cons_of_mem _ hb)) (hq.plus hc hd).low (hr.plus hc hd)
theorem isShare.one {p : Nat} : isShare (0, 1) p 0 := ⟨Nat.one_pos, by simp⟩
/-- both sums, by the common period -/
theorem PartsOk.share2 {L : List Part} (h : PartsOk L) {p : Nat} (hd : ∀ a ∈ L, a.P ∣ (p : Int)) : ∃ t : Nat, sumEP p L = (t : Int) ∧ isShare (sumQ (L.map asW)) p t ∧ isShare (plusSum (L.map asW)) p t :=
  shares p L (0, 1) (0, 1) 0 (fun a ha => by have := h.2 a ha; exact ⟨by omega, by omega, hd a ha⟩) isShare.one isShare.one
/-- a common period -/
theorem common : ∀ L : List Part, (∀ a ∈ L, 1 ≤ a.P) → ∃ p : Nat, 0 < p ∧ ∀ a ∈ L, a.P ∣ (p : Int)
  | [], _ => ⟨1, by decide, fun a ha => by cases ha⟩
  | b :: L, h => by
    obtain ⟨p, h1, h2⟩ := common L fun a ha => h a (List.mem_cons_of_mem _ ha)
    have hb := h b (List.mem_cons_self ..)
    refine ⟨b.P.toNat * p, Nat.mul_pos (by omega) h1, fun a ha => ?_⟩
    rw [Int.natCast_mul, Int.toNat_of_nonneg (show 0 ≤ b.P by omega)]
    rcases List.mem_cons.1 ha with rfl | ha
    · exact Int.dvd_mul_right _ _
    · exact Int.dvd_trans (h2 a ha) (Int.dvd_mul_left _ _)
theorem cmp_shares {q r : Qt} {p s t : Nat} (hp : 0 < p) (hq : isShare q p s) (hr : isShare r p t) : cmpQ q r = cmpN s t := by
  have e1 : q.1 * r.2 * p = q.2 * r.2 * s := by rw [Nat.mul_right_comm, hq.2, Nat.mul_right_comm]
  have e2 : r.1 * q.2 * p = q.2 * r.2 * t := by rw [Nat.mul_right_comm, hr.2, Nat.mul_right_comm, Nat.mul_comm q.2 r.2]
  have h0 : 0 < q.2 * r.2 := Nat.mul_pos hq.1 hr.1
  unfold cmpQ
  rcases Nat.lt_trichotomy s t with h | h | h
  · rw [cmpN_lt h, cmpN_lt]
    refine Nat.lt_of_mul_lt_mul_right (a := p) ?_
    rw [e1, e2]
    exact Nat.mul_lt_mul_of_pos_left h h0
  · subst h
    rw [cmpN_eq, show q.1 * r.2 = r.1 * q.2 from Nat.eq_of_mul_eq_mul_right hp (e1.trans e2.symm), cmpN_eq]
  · rw [cmpN_gt h, cmpN_gt]
    refine Nat.lt_of_mul_lt_mul_right (a := p) ?_
    rw [e1, e2]
    exact Nat.mul_lt_mul_of_pos_left h h0
/-- what parts use is the same, summed either way -/
theorem use_same (L : List Part) : cmpQ (useQ L) (use14 L) = 0 := by
  unfold useQ use14
  by_cases hc : checkL L = true
  · have hP := checkL_iff.1 hc
    obtain ⟨p, h1, h2⟩ := common L fun a ha => by have := hP.2 a ha; omega
    obtain ⟨t, _, s1, s2⟩ := hP.share2 h2
    rw [hc, cond_true, cond_true, cmp_shares h1 s1 s2, cmpN_eq]
  · have hc : checkL L = false := by simpa using hc
    rw [hc, cond_false, cond_false]
    decide
theorem isShare.whole {p : Nat} : isShare (1, 1) p p := ⟨Nat.one_pos, rfl⟩
theorem cmpN_pos {m n : Nat} : cmpN m n > 0 ↔ n < m := by
  rcases Nat.lt_trichotomy m n with h | h | h
  · rw [cmpN_lt h]; exact ⟨fun g => by omega, fun g => by omega⟩
  · subst h; rw [cmpN_eq]; exact ⟨fun g => by omega, fun g => by omega⟩
  · rw [cmpN_gt h]; exact ⟨fun _ => h, fun _ => by omega⟩
theorem quota_same {L : List Part} (h : PartsOk L) {p : Int} (hg : lcmG 1 (L.map Part.P) = some p) : quotaQ L = decide (sumEP p L > p) := by
  have hp := lcmG_pos _ _ _ (by decide) h.p hg
  obtain ⟨_, hd⟩ := lcmG_dvd _ _ _ (by decide) h.p hg
  obtain ⟨n, rfl⟩ := Int.eq_ofNat_of_zero_le (show 0 ≤ p by omega)
  obtain ⟨t, e, s1, _⟩ := h.share2 (p := n) fun a ha => hd _ (List.mem_map_of_mem ha)
  unfold quotaQ
  rw [cmp_shares (show 0 < n by omega) s1 isShare.whole, show sumEP (n : Int) L = (t : Int) from e]
  exact decide_eq_decide.2 (cmpN_pos.trans (by omega))
theorem weight_same (L : List Part) : weightR L = weight14 L := by
  unfold weightR weight14
  by_cases hc : checkL L = true
  · have hP := checkL_iff.1 hc
    cases hg : lcmG 1 (L.map Part.P) with
    | none => rfl
    | some p => dsimp only; rw [quota_same hP hg]
  · have hc : checkL L = false := by simpa using hc
    rw [hc]
    rfl


theorem one_ok : isR (lim 0) (lim 1) ∧ small (lim 0) ∧ small (lim 1) := by
  have l1 : (lim 1).length ≤ 1 := lim_lt (k := 1) (by decide)
  exact ⟨⟨isN_lim _, isN_lim _, by rw [nv_lim]; decide⟩, Nat.zero_le _, Nat.le_trans l1 (by decide)⟩
theorem use_ok (L : List Part) : isR (lim (useQ L).1) (lim (useQ L).2) ∧ small (lim (useQ L).1) ∧ small (lim (useQ L).2) := by
  unfold useQ
  by_cases hc : checkL L = true
  · rw [hc, cond_true]; exact useQ_ok (checkL_iff.1 hc)
  · have hc : checkL L = false := by simpa using hc
    rw [hc, cond_false]; exact one_ok
theorem use14_ok (L : List Part) : isR (lim (use14 L).1) (lim (use14 L).2) ∧ small (lim (use14 L).1) ∧ small (lim (use14 L).2) := by
  unfold use14
  by_cases hc : checkL L = true
  · have hP := checkL_iff.1 hc
    rw [hc, cond_true]; exact plusSum_ok hP.w (by rw [List.length_map]; have := hP.1.2; omega)
  · have hc : checkL L = false := by simpa using hc
    rw [hc, cond_false]; exact one_ok
def madePer (q : Pair) : Int := 1 + q.i1 % 24
def madeP (q : Pair) : Part := ⟨1 + q.i0 % madePer q, madePer q⟩
def madeL (L : List Pair) : List Part := (L.take 8).map madeP
theorem madePer_ok (q : Pair) : 1 ≤ madePer q ∧ madePer q ≤ 24 := by unfold madePer; omega
theorem madeP_ok (q : Pair) : 1 ≤ (madeP q).E ∧ (madeP q).E ≤ (madeP q).P ∧ (madeP q).P ≤ 24 := by
  have h := madePer_ok q
  have h1 := Int.emod_nonneg q.i0 (b := madePer q) (by omega)
  have h2 := Int.emod_lt_of_pos q.i0 (b := madePer q) (by omega)
  refine ⟨?_, ?_, h.2⟩
  · show 1 ≤ 1 + q.i0 % madePer q; omega
  · show 1 + q.i0 % madePer q ≤ madePer q; omega
theorem madeL_length (L : List Pair) : (madeL L).length ≤ 8 := by unfold madeL; rw [List.length_map, List.length_take]; omega
theorem madeL_ok {L : List Pair} (h : 1 ≤ L.length) : PartsOk (madeL L) := by
  refine ⟨⟨?_, madeL_length L⟩, ?_⟩
  · unfold madeL; rw [List.length_map, List.length_take]; omega
  · intro p hp
    unfold madeL at hp
    obtain ⟨q, _, rfl⟩ := List.mem_map.1 hp
    have := madeP_ok q
    omega
theorem rem_mod (a : Int) {n : Int} (h : 0 < n) (h2 : n ≤ 4611686018427387904) : (IntKind.i64.wrap (a.tmod n + n)).tmod n = a % n := by
  have h1 := Int.mul_tdiv_add_tmod a n
  have h3 : -n < a.tmod n := Int.lt_tmod_of_pos a h
  have h4 : a.tmod n < n := Int.tmod_lt_of_pos a h
  rw [wrap_id (by omega) (by omega), tmod_pos (by omega), Int.add_emod_right]
  conv => rhs; rw [← h1, Int.mul_add_emod_self_left]
structure madeI (L : List Pair) (x : Nat) : Prop where
  le : x ≤ L.length
  top : x ≤ 8

/-! ### regatta/regattalaw14.awake -/
def awakeText  : Prop := (((true = checkL [Part.mk (1 : Int) (1 : Int)]) ∧ True) ∧ True)
theorem awakeVc  : fnX X20 (noAnn) Try.f10 [] [] (ends [] ⟨some (.raw (.bool true)), []⟩) = awakeText  := by kernel_rfl
theorem awakeHolds  : awakeText  := by
  unfold awakeText
  exact ⟨⟨by decide, trivial⟩, trivial⟩
noncomputable def awakeCon : Con T O := fun args cs => match args, cs with
  | [], [] => .ret ⟨some (.raw (.bool true)), []⟩
  | _, _ => .fail
theorem awakeOk : ConOk R Try.prog 10 awakeCon := con_of_fn R (X20) (TabOk.con R X20Ok) mixed Try.call10 Try.func10 awakeCon (by
  intro args cs K h
  unfold awakeCon at h
  split at h
  ·
    refine ⟨noAnn, _, fun v S hv => ⟨_, h, hv⟩, ?_⟩
    rw [awakeVc ]
    exact awakeHolds 
  · exact h.elim)
/-! ### regatta/regattalaw14.made -/
def madeText (L : List Pair) : Prop := ((∃ x : Nat, ((madeI L x) ∧ ((True ∧ (True ∧ (((↑x : Int) = (0 : Int)) ∧ True))) ∧ ((L = L) ∧ ((List.map madeP (List.take x L) = []) ∧ True))))) ∧ (∀ x : Nat, ((madeI L x) → (match (decide ((↑x : Int) < (↑L.length : Int))) with | true => (match (decide ((↑x : Int) < (8 : Int))) with | true => (match (inb (↑x : Int) L.length) with | true => (match (inb (↑x : Int) L.length) with | true => (match (inb (↑x : Int) L.length) with | true => (match (inb (↑x : Int) L.length) with | true => (match (IntKind.i64.wrap ((1 : Int) + (IntKind.i64.wrap ((at' pairE.zero L (↑x : Int)).i1.tmod (24 : Int) + (24 : Int))).tmod (24 : Int)) != (0 : Int)) with | true => (match (IntKind.i64.wrap ((1 : Int) + (IntKind.i64.wrap ((at' pairE.zero L (↑x : Int)).i1.tmod (24 : Int) + (24 : Int))).tmod (24 : Int)) != (0 : Int)) with | true => (match (roomy ((List.map madeP (List.take x L)).length + (1 : Nat)) (nat_lit 16)) with | true => (∃ x' : Nat, ((madeI L x') ∧ ((L.length - x' < L.length - x) ∧ ((True ∧ (True ∧ (((↑x' : Int) = IntKind.i64.wrap ((↑x : Int) + (1 : Int))) ∧ True))) ∧ ((L = L) ∧ ((List.map madeP (List.take x' L) = List.map madeP (List.take x L) ++ [Part.mk (IntKind.i64.wrap ((1 : Int) + (IntKind.i64.wrap ((at' pairE.zero L (↑x : Int)).i0.tmod (IntKind.i64.wrap ((1 : Int) + (IntKind.i64.wrap ((at' pairE.zero L (↑x : Int)).i1.tmod (24 : Int) + (24 : Int))).tmod (24 : Int))) + IntKind.i64.wrap ((1 : Int) + (IntKind.i64.wrap ((at' pairE.zero L (↑x : Int)).i1.tmod (24 : Int) + (24 : Int))).tmod (24 : Int)))).tmod (IntKind.i64.wrap ((1 : Int) + (IntKind.i64.wrap ((at' pairE.zero L (↑x : Int)).i1.tmod (24 : Int) + (24 : Int))).tmod (24 : Int))))) (IntKind.i64.wrap ((1 : Int) + (IntKind.i64.wrap ((at' pairE.zero L (↑x : Int)).i1.tmod (24 : Int) + (24 : Int))).tmod (24 : Int)))]) ∧ True)))))) | false => False) | false => False) | false => False) | false => False) | false => False) | false => False) | false => False) | false => ((True ∧ True) ∧ ((L = L) ∧ ((madeL L = List.map madeP (List.take x L)) ∧ True)))) | false => ((True ∧ True) ∧ ((L = L) ∧ ((madeL L = List.map madeP (List.take x L)) ∧ True)))))))
theorem madeVc (L : List Pair) : fnX { X20 with frz := true } (oneLoop 3 { σ := Nat, st := fun S x => ((S.keep [0]).int 4 x).new 3 (.vec 3 ((L.take x).map madeP) 39), inv := fun _ x => madeI L x, m := fun x => L.length - x }) Try.f12 [.own 0] [.ro 6 L] (ends [.ro 6 L] ⟨some (.own 1), [(1, some (.ro 3 (madeL L)))]⟩) = madeText L := by kernel_rfl
theorem madeHolds (L : List Pair) : madeText L := by
  unfold madeText
  refine ⟨⟨0, ⟨Nat.zero_le _, Nat.zero_le _⟩, by repeat' first | trivial | rfl | apply And.intro⟩, ?_⟩
  intro x hi
  have hle := hi.le
  have htop := hi.top
  by_cases h : x < L.length
  · rw [dec_lt h]
    by_cases k : x < 8
    · have hwx : ((x + 1 : Nat) : Int) = IntKind.i64.wrap ((x : Int) + 1) := by rw [wrap_id (by omega) (by omega)]; omega
      have hr : roomy (((L.take x).map madeP).length + 1) 16 = true := by
        rw [List.length_map, List.length_take]
        exact decide_eq_true (by omega)
      have e : (L.take (x + 1)).map madeP = (L.take x).map madeP ++ [madeP L[x]] := by rw [take_at h, List.map_append]; rfl
      have hp := madePer_ok L[x]
      have h1 := Int.emod_nonneg L[x].i0 (b := madePer L[x]) (by omega)
      have h2 := Int.emod_lt_of_pos L[x].i0 (b := madePer L[x]) (by omega)
      have ep : IntKind.i64.wrap (1 + L[x].i1 % 24) = madePer L[x] := wrap_id (by omega) (by omega)
      have ee : IntKind.i64.wrap (1 + L[x].i0 % madePer L[x]) = 1 + L[x].i0 % madePer L[x] := wrap_id (by omega) (by omega)
      rw [show decide ((x : Int) < 8) = true from decide_eq_true (by omega), inb_nat h, at_nat h, rem_mod L[x].i1 (by decide) (by decide), ep, rem_mod L[x].i0 (by omega) (by omega), ee, show (madePer L[x] != 0) = true from bne_iff_ne.2 (by omega), hr]
      refine ⟨x + 1, ⟨h, k⟩, by omega, ?_⟩
      repeat' first | exact hwx | exact e | trivial | rfl | apply And.intro
    · obtain rfl : x = 8 := by omega
      rw [show decide (((8 : Nat) : Int) < 8) = false from rfl]
      repeat' first | trivial | rfl | apply And.intro
  · have e : madeL L = (L.take x).map madeP := by
      unfold madeL
      rw [List.take_of_length_le (by omega), List.take_of_length_le (by omega)]
    rw [dec_ge (by omega : L.length ≤ x)]
    repeat' first | exact e | trivial | rfl | apply And.intro
noncomputable def madeCon : Con T O := fun args cs => match args, cs with
  | [.own 0], [.ro 6 L] => .ret ⟨some (.own 1), [(1, some (.ro 3 (madeL L)))]⟩
  | _, _ => .fail
theorem madeOk : ConOk R Try.prog 12 madeCon := con_of_fn R ({ X20 with frz := true }) (TabOk.con R X20Ok) mixed Try.call12 Try.func12 madeCon (by
  intro args cs K h
  unfold madeCon at h
  split at h
  · rename_i L
    refine ⟨oneLoop 3 { σ := Nat, st := fun S x => ((S.keep [0]).int 4 x).new 3 (.vec 3 ((L.take x).map madeP) 39), inv := fun _ x => madeI L x, m := fun x => L.length - x }, _, fun v S hv => ⟨_, h, hv⟩, ?_⟩
    rw [madeVc L]
    exact madeHolds L
  · exact h.elim)
noncomputable def tab21 : Tab T O := (10, awakeCon) :: (12, madeCon) :: tab20
theorem tabOk21 : TabOk R Try.prog tab21 := TabOk.cons R awakeOk <| TabOk.cons R madeOk <| tabOk20
noncomputable def X21 : Ctx T O := { X0 with con := conOf tab21 }
theorem X21Ok : TabOk R X21.P tab21 := tabOk21
end Go.Proofs.Ytmnnjclnldaejaa

namespace Go.Proofs.Ytmnnjclnldaejaa
open Go.Sx Go.Proofs Classical
/-! ### cmp.isNaN[int64] -/
def nanL (a0 : Int) : Bool := (a0 != a0)
noncomputable def nanLCon : Con T O := fun args cs => match args, cs with
  | [.raw (.int .i64 a0)], [] => retv (.raw (.bool (nanL a0)))
  | _, _ => .fail
theorem nanLVc (a0 : Int) : fnX X21 noAnn Try.f99 [.raw (.int .i64 a0)] [] (ends [] ⟨some (.raw (.bool (nanL a0))), []⟩) = (((nanL a0 = (a0 != a0)) ∧ True) ∧ True) := by kernel_rfl
theorem nanLOk : ConOk R Try.prog 99 nanLCon := con_of_fn R X21 (TabOk.con R X21Ok) mixed Try.call99 Try.func99 nanLCon (by
  intro args cs K h
  unfold nanLCon at h
  split at h
  · rename_i a0
    refine ⟨noAnn, _, fun v S hv => ⟨_, h, hv⟩, ?_⟩
    rw [nanLVc a0]
    unfold nanL
    exact ⟨⟨rfl, trivial⟩, trivial⟩
  · exact h.elim)
noncomputable def tab22 : Tab T O := (99, nanLCon) :: tab21
theorem tabOk22 : TabOk R Try.prog tab22 := TabOk.cons R nanLOk <| tabOk21
noncomputable def X22 : Ctx T O := { X0 with con := conOf tab22 }
theorem X22Ok : TabOk R X22.P tab22 := tabOk22
end Go.Proofs.Ytmnnjclnldaejaa

namespace Go.Proofs.Ytmnnjclnldaejaa
open Go.Sx Go.Proofs Classical

def orL : List Int → Int
  | [] => 0
  | a :: l => bif a != 0 then a else orL l

/-! ### cmp.Compare[int64] -/
def cmpL (a0 : Int) (a1 : Int) : Int := (match (nanL a0) with | true => (match (nanL a1) with | true => ((0 : Int)) | false => ((-1 : Int))) | false => (match (nanL a1) with | true => ((1 : Int)) | false => (match (decide (a0 < a1)) with | true => ((-1 : Int)) | false => (match (decide (a0 > a1)) with | true => ((1 : Int)) | false => ((0 : Int))))))
noncomputable def cmpLCon : Con T O := fun args cs => match args, cs with
  | [.raw (.int .i64 a0), .raw (.int .i64 a1)], [] => retv (.raw (.int .i64 (cmpL a0 a1)))
  | _, _ => .fail
theorem cmpLVc (a0 : Int) (a1 : Int) : fnX X22 noAnn Try.f81 [.raw (.int .i64 a0), .raw (.int .i64 a1)] [] (ends [] ⟨some (.raw (.int .i64 (cmpL a0 a1))), []⟩) = ((match (nanL a0) with | true => (match (nanL a1) with | true => ((cmpL a0 a1 = ((0 : Int))) ∧ True) ∧ True | false => ((cmpL a0 a1 = ((-1 : Int))) ∧ True) ∧ True) | false => (match (nanL a1) with | true => ((cmpL a0 a1 = ((1 : Int))) ∧ True) ∧ True | false => (match (decide (a0 < a1)) with | true => ((cmpL a0 a1 = ((-1 : Int))) ∧ True) ∧ True | false => (match (decide (a0 > a1)) with | true => ((cmpL a0 a1 = ((1 : Int))) ∧ True) ∧ True | false => ((cmpL a0 a1 = ((0 : Int))) ∧ True) ∧ True))))) := by kernel_rfl
theorem cmpLOk : ConOk R Try.prog 81 cmpLCon := con_of_fn R X22 (TabOk.con R X22Ok) mixed Try.call81 Try.func81 cmpLCon (by
  intro args cs K h
  unfold cmpLCon at h
  split at h
  · rename_i a0 a1
    refine ⟨noAnn, _, fun v S hv => ⟨_, h, hv⟩, ?_⟩
    rw [cmpLVc a0 a1]
    unfold cmpL
    cases (nanL a0)
    ·
      cases (nanL a1)
      ·
        cases (decide (a0 < a1))
        ·
          cases (decide (a0 > a1))
          ·
            exact ⟨⟨rfl, trivial⟩, trivial⟩
          ·
            exact ⟨⟨rfl, trivial⟩, trivial⟩
        ·
          exact ⟨⟨rfl, trivial⟩, trivial⟩
      ·
        exact ⟨⟨rfl, trivial⟩, trivial⟩
    ·
      cases (nanL a1)
      ·
        exact ⟨⟨rfl, trivial⟩, trivial⟩
      ·
        exact ⟨⟨rfl, trivial⟩, trivial⟩
  · exact h.elim)
/-! ### cmp.Or[int] -/
def cmpOrText (L : List Int) : Prop := ((∃ x : Nat, (((x ≤ L.length) ∧ (orL L = orL (List.drop x L))) ∧ ((((0 : Int) = (0 : Int)) ∧ (True ∧ (((↑L.length : Int) = (↑L.length : Int)) ∧ (((↑x : Int) = (0 : Int)) ∧ True)))) ∧ ((L = L) ∧ True)))) ∧ (∀ x : Nat, (((x ≤ L.length) ∧ (orL L = orL (List.drop x L))) → (match (decide ((↑x : Int) < (↑L.length : Int))) with | true => (match (inb (↑x : Int) L.length) with | true => (match (inb (↑x : Int) L.length) with | true => (match (at' (0 : Int) L (↑x : Int) != (0 : Int)) with | true => (((orL L = at' (0 : Int) L (↑x : Int)) ∧ True) ∧ ((L = L) ∧ True)) | false => (∃ x' : Nat, (((x' ≤ L.length) ∧ (orL L = orL (List.drop x' L))) ∧ ((L.length - x' < L.length - x) ∧ ((((0 : Int) = (0 : Int)) ∧ (True ∧ (((↑L.length : Int) = (↑L.length : Int)) ∧ (((↑x' : Int) = IntKind.i64.wrap ((↑x : Int) + (1 : Int))) ∧ True)))) ∧ ((L = L) ∧ True)))))) | false => False) | false => False) | false => (((orL L = (0 : Int)) ∧ True) ∧ ((L = L) ∧ True))))))
theorem cmpOrVc (L : List Int) : fnX X22 (oneLoop 3 { σ := Nat, st := fun S x => (S.keep [3, 6, 7]).int 8 x, inv := fun _ x => x ≤ L.length ∧ orL L = orL (L.drop x), m := fun x => L.length - x }) Try.f80 [.own 0] [.vec 0 L 3] (ends [.vec 0 L 3] ⟨some (.raw (.int .i64 (orL L))), [(0, some (.vec 0 L 3))]⟩) = cmpOrText L := by kernel_rfl
theorem cmpOrHolds (L : List Int) (hp : L.length ≤ 140737488355328) : cmpOrText L := by
  unfold cmpOrText
  refine ⟨⟨0, ⟨by omega, rfl⟩, by repeat' first | trivial | rfl | apply And.intro⟩, ?_⟩
  rintro x ⟨hx, hs⟩
  by_cases h : x < L.length
  · rw [dec_lt h, inb_nat h, at_nat h]
    rw [drop_at h] at hs
    simp only [orL] at hs
    have hw := wrap_succ h hp
    cases hq : L[x] != 0
    · rw [hq] at hs
      exact ⟨x + 1, ⟨by omega, by simpa using hs⟩, by omega, by repeat' first | exact hw.symm | trivial | rfl | apply And.intro⟩
    · rw [hq] at hs
      exact ⟨⟨by simpa using hs, trivial⟩, rfl, trivial⟩
  · rw [dec_ge (by omega)]
    rw [List.drop_of_length_le (by omega)] at hs
    exact ⟨⟨hs, trivial⟩, rfl, trivial⟩
noncomputable def cmpOrCon : Con T O := fun args cs => match args, cs with
  | [.own 0], [.vec 0 L 3] => chk (decide (L.length ≤ 140737488355328)) (.ret ⟨some (.raw (.int .i64 (orL L))), [(0, some (.vec 0 L 3))]⟩)
  | _, _ => .fail
theorem cmpOrOk : ConOk R Try.prog 80 cmpOrCon := con_of_fn R (X22) (TabOk.con R X22Ok) mixed Try.call80 Try.func80 cmpOrCon (by
  intro args cs K h
  unfold cmpOrCon at h
  split at h
  · rename_i L
    rw [Tree.holds_chk] at h
    obtain ⟨hp, h⟩ := h
    refine ⟨oneLoop 3 { σ := Nat, st := fun S x => (S.keep [3, 6, 7]).int 8 x, inv := fun _ x => x ≤ L.length ∧ orL L = orL (L.drop x), m := fun x => L.length - x }, _, fun v S hv => ⟨_, h, hv⟩, ?_⟩
    rw [cmpOrVc L]
    exact cmpOrHolds L (of_decide_eq_true hp)
  · exact h.elim)
noncomputable def tab23 : Tab T O := (81, cmpLCon) :: (80, cmpOrCon) :: tab22
theorem tabOk23 : TabOk R Try.prog tab23 := TabOk.cons R cmpLOk <| TabOk.cons R cmpOrOk <| tabOk22
noncomputable def X23 : Ctx T O := { X0 with con := conOf tab23 }
theorem X23Ok : TabOk R X23.P tab23 := tabOk23
end Go.Proofs.Ytmnnjclnldaejaa

namespace Go.Proofs.Ytmnnjclnldaejaa
open Go.Sx Go.Proofs Classical
/-! the parts as they stand -/
def ownJ (q : Own) : Job := ⟨q.JobPart, q.JobIndex, q.JobRelease, q.JobDeadline, q.JobLeft⟩
def nextO (q : Own) : Own := ⟨q.PartE, q.PartP, q.JobPart, q.JobIndex + 1, q.JobDeadline, q.JobDeadline + q.PartP, q.PartE⟩
def decO (q : Own) : Own := { q with JobLeft := q.JobLeft - 1 }
def afterO (q : Own) : Own := bif q.JobLeft - 1 == 0 then nextO (decO q) else decO q
def startO (t i : Int) (p : Part) : Own := ⟨p.E, p.P, i, 0, t, t + p.P, p.E⟩
def startL (t : Int) (L : List Part) (n : Nat) : List Own := (List.range n).map fun i : Nat => startO t (i : Int) (at' partE.zero L (i : Int))
theorem startL_succ (t : Int) (L : List Part) (n : Nat) : startL t L (n + 1) = startL t L n ++ [startO t n (at' partE.zero L n)] := by
  unfold startL
  rw [List.range_succ, List.map_append]; rfl
theorem startL_length (t : Int) (L : List Part) (n : Nat) : (startL t L n).length = n := by simp [startL]
structure PartOk (t i : Int) (q : Own) : Prop where
  e1 : 1 ≤ q.PartE
  ep : q.PartE ≤ q.PartP
  p : q.PartP ≤ 1048576
  part : q.JobPart = i
  idx : 0 ≤ q.JobIndex
  rel : q.JobRelease = t + q.JobIndex * q.PartP
  dead : q.JobDeadline = q.JobRelease + q.PartP
  l1 : 1 ≤ q.JobLeft
  le : q.JobLeft ≤ q.PartE
  top : q.JobRelease ≤ 1099512676352
structure RowOk (t : Int) (M : List Own) : Prop where
  t0 : 0 ≤ t
  t1 : t ≤ 1099511627776
  len : M.length ≤ 8
  all : ∀ (i : Nat) (h : i < M.length), PartOk t i M[i]
theorem mul_ge {a b : Int} (ha : 0 ≤ a) (hb : 1 ≤ b) : a ≤ a * b := by
  have := Int.mul_le_mul_of_nonneg_left hb ha
  omega
theorem PartOk.idx_le {t i : Int} {q : Own} (h : PartOk t i q) (ht : 0 ≤ t) : q.JobIndex ≤ 1099512676352 := by
  have h1 := mul_ge h.idx (show 1 ≤ q.PartP by have := h.e1; have := h.ep; omega)
  have h2 := h.rel
  have h3 := h.top
  omega
theorem PartOk.rel0 {t i : Int} {q : Own} (h : PartOk t i q) (ht : 0 ≤ t) : 0 ≤ q.JobRelease := by
  have h1 := mul_ge h.idx (show 1 ≤ q.PartP by have := h.e1; have := h.ep; omega)
  have h2 := h.rel
  have h3 := h.idx
  omega
theorem PartOk.next {t i : Int} {q : Own} (h : PartOk t i q) (hr : q.JobRelease ≤ 1099511627776) : PartOk t i (nextO q) := by
  refine ⟨h.e1, h.ep, h.p, h.part, ?_, ?_, rfl, h.e1, Int.le_refl _, ?_⟩
  · have := h.idx; show 0 ≤ q.JobIndex + 1; omega
  · show q.JobDeadline = t + (q.JobIndex + 1) * q.PartP
    have := h.rel; have := h.dead
    rw [Int.add_mul, Int.one_mul]; omega
  · show q.JobDeadline ≤ 1099512676352
    have := h.dead; have := h.p; omega
theorem PartOk.after {t i : Int} {q : Own} (h : PartOk t i q) (hr : q.JobRelease ≤ 1099511627776) : PartOk t i (afterO q) := by
  unfold afterO
  have h1 := h.l1
  have h2 := h.le
  by_cases c : q.JobLeft = 1
  · rw [show (q.JobLeft - 1 == 0) = true from by rw [c]; rfl, cond_true]
    exact h.next hr
  · rw [show (q.JobLeft - 1 == 0) = false from beq_eq_false_iff_ne.2 (by omega), cond_false]
    exact ⟨h.e1, h.ep, h.p, h.part, h.idx, h.rel, h.dead, by show 1 ≤ q.JobLeft - 1; omega, by show q.JobLeft - 1 ≤ q.PartE; omega, h.top⟩
/-- jobs in order: the earliest deadline, then the first part -/
def cmpJ (a b : Job) : Int := orL [cmpL a.Deadline b.Deadline, cmpI a.Part b.Part]
def ltJ (a b : Job) : Bool := decide (cmpJ a b < 0)
theorem cmpL_cases (x y : Int) : (x < y ∧ cmpL x y = -1) ∨ (x = y ∧ cmpL x y = 0) ∨ (y < x ∧ cmpL x y = 1) := by
  have hn : ∀ x : Int, nanL x = false := fun x => by unfold nanL; simp
  unfold cmpL
  rw [hn, hn]
  by_cases h : x < y
  · rw [decide_eq_true h]; exact .inl ⟨h, rfl⟩
  · rw [decide_eq_false h]
    by_cases g : x > y
    · rw [decide_eq_true g]; exact .inr (.inr ⟨g, rfl⟩)
    · rw [decide_eq_false g]; exact .inr (.inl ⟨by omega, rfl⟩)
theorem cmpI_cases (x y : Int) : (x < y ∧ cmpI x y = -1) ∨ (x = y ∧ cmpI x y = 0) ∨ (y < x ∧ cmpI x y = 1) := cmpL_cases x y
theorem ltJ_iff (a b : Job) : ltJ a b = true ↔ a.Deadline < b.Deadline ∨ a.Deadline = b.Deadline ∧ a.Part < b.Part := by
  unfold ltJ cmpJ
  rw [decide_eq_true_iff]
  simp only [orL]
  rcases cmpL_cases a.Deadline b.Deadline with ⟨h, e⟩ | ⟨h, e⟩ | ⟨h, e⟩
  · rw [e]; simp [h]
  · rw [e]
    rcases cmpI_cases a.Part b.Part with ⟨g, e⟩ | ⟨g, e⟩ | ⟨g, e⟩
    · rw [e]; simp [h, g]
    · rw [e]; simp; omega
    · rw [e]; simp; omega
  · rw [e]; simp; omega
theorem ltJ_not (a b : Job) : ltJ a b = false ↔ ¬ (a.Deadline < b.Deadline ∨ a.Deadline = b.Deadline ∧ a.Part < b.Part) := by
  rw [← ltJ_iff]; cases ltJ a b <;> simp
theorem ordJ : Ord2 ltJ ltJ where
  irr a := by rw [ltJ_not]; omega
  tr a b c := by simp only [ltJ_iff]; omega
  ntr a b c := by simp only [ltJ_not]; omega
  sub a b h := h
/-- the part that a grant goes to, of the first ones -/
def bestG (M : List Own) (t : Int) : Nat → Int
  | 0 => -1
  | x + 1 => let j := ownJ (at' ownE.zero M x)
    let b := bestG M t x
    bif decide (j.Release > t) || (decide (b ≥ 0) && ltJ (ownJ (at' ownE.zero M b)) j) then b else x
theorem bestG_lo (M : List Own) (t : Int) : ∀ n : Nat, -1 ≤ bestG M t n ∧ bestG M t n < n
  | 0 => by simp only [bestG]; decide
  | x + 1 => by
    have h := bestG_lo M t x
    simp only [bestG]
    cases (decide ((ownJ (at' ownE.zero M x)).Release > t) || (decide (bestG M t x ≥ 0) && ltJ (ownJ (at' ownE.zero M (bestG M t x))) (ownJ (at' ownE.zero M x))))
    · rw [cond_false]; omega
    · rw [cond_true]; omega
theorem bestG_rel (M : List Own) (t : Int) : ∀ n : Nat, 0 ≤ bestG M t n → (at' ownE.zero M (bestG M t n)).JobRelease ≤ t
  | 0, h => by simp only [bestG] at h; exact absurd h (by decide)
  | x + 1, h => by
    simp only [bestG] at h ⊢
    cases hc : (decide ((ownJ (at' ownE.zero M x)).Release > t) || (decide (bestG M t x ≥ 0) && ltJ (ownJ (at' ownE.zero M (bestG M t x))) (ownJ (at' ownE.zero M x))))
    · rw [cond_false]
      have : decide ((ownJ (at' ownE.zero M x)).Release > t) = false := by
        cases hd : decide ((ownJ (at' ownE.zero M x)).Release > t)
        · rfl
        · rw [hd] at hc; cases hc
      have := of_decide_eq_false this
      show (at' ownE.zero M x).JobRelease ≤ t
      have e : (ownJ (at' ownE.zero M (x : Int))).Release = (at' ownE.zero M (x : Int)).JobRelease := rfl
      omega
    · rw [hc, cond_true] at h
      rw [cond_true]
      exact bestG_rel M t x h
def slotOk (last t : Int) : Bool := decide (t ≥ last) && decide (t ≤ 1099511627776)
def bestM (M : List Own) (t : Int) : Int := bestG M t M.length
/-- what a grant tells and makes -/
def grantM (M : List Own) (last t : Int) : List Own := bif slotOk last t && decide (bestM M t ≥ 0) then M.set (bestM M t).toNat (afterO (at' ownE.zero M (bestM M t))) else M
def grantJ (M : List Own) (last t : Int) : Job := bif slotOk last t && decide (bestM M t ≥ 0) then ownJ (decO (at' ownE.zero M (bestM M t))) else ⟨0, 0, 0, 0, 0⟩
def grantIs (M : List Own) (last t : Int) : Bool := slotOk last t && decide (bestM M t ≥ 0)
def grantLast (last t : Int) : Int := bif slotOk last t then t else last
def grantServed (M : List Own) (last served t : Int) : Int := bif slotOk last t && decide (bestM M t ≥ 0) then served + 1 else served
def grantIdle (M : List Own) (last idle t : Int) : Int := bif slotOk last t && !decide (bestM M t ≥ 0) then idle + 1 else idle
/-- jobs of a part that are released -/
def eachN : Nat → Int → Own → List Job
  | 0, _, _ => []
  | n + 1, t, q => bif decide (q.JobRelease ≤ t) then ownJ q :: eachN n t (nextO q) else []
theorem eachN_length (n : Nat) (t : Int) : ∀ q, (eachN n t q).length ≤ n := by
  induction n with
  | zero => intro q; exact Nat.le_refl _
  | succ n ih =>
    intro q
    simp only [eachN]
    cases decide (q.JobRelease ≤ t)
    · exact Nat.zero_le _
    · rw [cond_true, List.length_cons]; exact Nat.succ_le_succ (ih _)
def mostJ : Nat := 1000
theorem mostJ_eq : mostJ = 1000 := rfl
def eachA (t : Int) (q : Own) : List Job := eachN mostJ t q
theorem eachA_def (t : Int) (q : Own) : eachA t q = eachN mostJ t q := rfl
def allJ (t : Int) (M : List Own) : List Job := M.flatMap (eachA t)
def jobsL (t : Int) (M : List Own) : List Job := srtT ltJ (allJ t M)
theorem allJ_take {t : Int} {M : List Own} {x : Nat} (h : x < M.length) : allJ t (M.take (x + 1)) = allJ t (M.take x) ++ eachA t M[x] := by
  unfold allJ
  rw [take_at h, List.flatMap_append]; simp
theorem allJ_length (t : Int) : ∀ M : List Own, (allJ t M).length ≤ 1000 * M.length
  | [] => Nat.le_refl _
  | q :: M => by
    have h1 := allJ_length t M
    have h2 := eachN_length mostJ t q
    unfold allJ at h1 ⊢
    rw [← eachA_def, mostJ_eq] at h2
    rw [List.flatMap_cons, List.length_append, List.length_cons]; omega
def missedO (t : Int) (q : Own) : Int := bif decide (q.JobDeadline ≤ t) then q.JobLeft + (t - q.JobDeadline) / q.PartP * q.PartE else 0
def missedG (t : Int) : Int → List Own → Int
  | n, [] => n
  | n, q :: l => missedG t (n + missedO t q) l
def missedM (M : List Own) (last t : Int) : Int := bif slotOk last t then missedG t 0 M else 0
theorem missedO_ok {t i u : Int} {q : Own} (h : PartOk t i q) (ht : 0 ≤ t) (hu : u ≤ 1099511627776) : 0 ≤ missedO u q ∧ missedO u q ≤ 1099512676352 ∧ (q.JobDeadline ≤ u → 0 ≤ (u - q.JobDeadline) / q.PartP ∧ (u - q.JobDeadline) / q.PartP ≤ 1099511627776 ∧ 0 ≤ (u - q.JobDeadline) / q.PartP * q.PartE ∧ (u - q.JobDeadline) / q.PartP * q.PartE ≤ 1099511627776) := by
  have e1 := h.e1
  have ep := h.ep
  have hp := h.p
  have l1 := h.l1
  have le := h.le
  have r0 := h.rel0 ht
  have hd := h.dead
  have key : q.JobDeadline ≤ u → 0 ≤ (u - q.JobDeadline) / q.PartP ∧ (u - q.JobDeadline) / q.PartP ≤ 1099511627776 ∧ 0 ≤ (u - q.JobDeadline) / q.PartP * q.PartE ∧ (u - q.JobDeadline) / q.PartP * q.PartE ≤ 1099511627776 := by
    intro hle
    have q0 : 0 ≤ (u - q.JobDeadline) / q.PartP := Int.ediv_nonneg (by omega) (by omega)
    have q1 : (u - q.JobDeadline) / q.PartP ≤ u - q.JobDeadline := Int.ediv_le_self _ (by omega)
    have q2 : (u - q.JobDeadline) / q.PartP * q.PartE ≤ (u - q.JobDeadline) / q.PartP * q.PartP := Int.mul_le_mul_of_nonneg_left ep q0
    have q3 : (u - q.JobDeadline) / q.PartP * q.PartP ≤ u - q.JobDeadline := Int.ediv_mul_le _ (by omega)
    exact ⟨q0, by omega, Int.mul_nonneg q0 (by omega), by omega⟩
  unfold missedO
  by_cases c : q.JobDeadline ≤ u
  · rw [decide_eq_true c, cond_true]
    have := key c
    refine ⟨by omega, by omega, key⟩
  · rw [decide_eq_false c, cond_false]
    exact ⟨Int.le_refl _, by decide, key⟩

theorem weightR_parts {L : List Part} (h : (weightR L).2 = 0) : PartsOk L := by
  apply checkL_iff.1
  cases hc : checkL L
  · unfold weightR at h
    rw [hc, cond_false] at h
    exact absurd h (by decide)
  · rfl
theorem slotOk_iff {last t : Int} : slotOk last t = true ↔ last ≤ t ∧ t ≤ 1099511627776 := by
  unfold slotOk
  rw [Bool.and_eq_true, decide_eq_true_iff, decide_eq_true_iff]

/-! ### regatta/super.order -/
def orderJText (a b : Job) : Prop := (((cmpJ a b = orL [cmpL a.Deadline b.Deadline, cmpI a.Part b.Part]) ∧ True) ∧ True)
theorem orderJVc (a b : Job) : fnX X23 (noAnn) Try.f51 [.agg [.raw (.int .i64 a.Part), .raw (.int .i64 a.Index), .raw (.int .i64 a.Release), .raw (.int .i64 a.Deadline), .raw (.int .i64 a.Left)], .agg [.raw (.int .i64 b.Part), .raw (.int .i64 b.Index), .raw (.int .i64 b.Release), .raw (.int .i64 b.Deadline), .raw (.int .i64 b.Left)]] [] (ends [] ⟨some (.raw (.int .i64 (cmpJ a b))), []⟩) = orderJText a b := by kernel_rfl
theorem orderJHolds (a b : Job) : orderJText a b := by
  unfold orderJText
  repeat' first | apply And.intro | exact True.intro | with_reducible rfl | exact rfl
noncomputable def orderJCon : Con T O := fun args cs => match args, cs with
  | [.agg [.raw (.int .i64 a_0), .raw (.int .i64 a_1), .raw (.int .i64 a_2), .raw (.int .i64 a_3), .raw (.int .i64 a_4)], .agg [.raw (.int .i64 b_0), .raw (.int .i64 b_1), .raw (.int .i64 b_2), .raw (.int .i64 b_3), .raw (.int .i64 b_4)]], [] => .ret ⟨some (.raw (.int .i64 (cmpJ (⟨a_0, a_1, a_2, a_3, a_4⟩ : Job) (⟨b_0, b_1, b_2, b_3, b_4⟩ : Job)))), []⟩
  | _, _ => .fail
theorem orderJOk : ConOk R Try.prog 51 orderJCon := con_of_fn R (X23) (TabOk.con R X23Ok) mixed Try.call51 Try.func51 orderJCon (by
  intro args cs K h
  unfold orderJCon at h
  split at h
  · rename_i a_0 a_1 a_2 a_3 a_4 b_0 b_1 b_2 b_3 b_4
    refine ⟨noAnn, _, fun v S hv => ⟨_, h, hv⟩, ?_⟩
    rw [orderJVc (⟨a_0, a_1, a_2, a_3, a_4⟩ : Job) (⟨b_0, b_1, b_2, b_3, b_4⟩ : Job)]
    exact orderJHolds (⟨a_0, a_1, a_2, a_3, a_4⟩ : Job) (⟨b_0, b_1, b_2, b_3, b_4⟩ : Job)
  · exact h.elim)
/-! ### (*regatta/super.Super).Jobs$1 -/
def jobsIsText (j : Job) (t : Int) : Prop := (((decide (j.Release ≤ t) = decide (j.Release ≤ t)) ∧ True) ∧ (((t = t) ∧ True) ∧ True))
theorem jobsIsVc (j : Job) (t : Int) : fnX X23 (noAnn) Try.f55 [.agg [.raw (.int .i64 j.Part), .raw (.int .i64 j.Index), .raw (.int .i64 j.Release), .raw (.int .i64 j.Deadline), .raw (.int .i64 j.Left)], .ptr 0 0] [.cells [.raw (.int .i64 t)] 2] (ends [.cells [.raw (.int .i64 t)] 2] ⟨some (.raw (.bool (decide (j.Release ≤ t)))), []⟩) = jobsIsText j t := by kernel_rfl
theorem jobsIsHolds (j : Job) (t : Int) : jobsIsText j t := by
  unfold jobsIsText
  repeat' first | apply And.intro | exact True.intro | with_reducible rfl | exact rfl
noncomputable def jobsIsCon : Con T O := fun args cs => match args, cs with
  | [.agg [.raw (.int .i64 j_0), .raw (.int .i64 j_1), .raw (.int .i64 j_2), .raw (.int .i64 j_3), .raw (.int .i64 j_4)], .ptr 0 0], [.cells [.raw (.int .i64 t)] 2] => .ret ⟨some (.raw (.bool (decide ((⟨j_0, j_1, j_2, j_3, j_4⟩ : Job).Release ≤ t)))), []⟩
  | _, _ => .fail
theorem jobsIsOk : ConOk R Try.prog 55 jobsIsCon := con_of_fn R (X23) (TabOk.con R X23Ok) mixed Try.call55 Try.func55 jobsIsCon (by
  intro args cs K h
  unfold jobsIsCon at h
  split at h
  · rename_i j_0 j_1 j_2 j_3 j_4 t
    refine ⟨noAnn, _, fun v S hv => ⟨_, h, hv⟩, ?_⟩
    rw [jobsIsVc (⟨j_0, j_1, j_2, j_3, j_4⟩ : Job) t]
    exact jobsIsHolds (⟨j_0, j_1, j_2, j_3, j_4⟩ : Job) t
  · exact h.elim)
/-! ### (*regatta/super.part).next -/
def nextCK0Text (e p i n r d l : Int) : Prop := ((True ∧ True) ∧ (((e = e) ∧ ((p = p) ∧ ((i = i) ∧ ((n + (1 : Int) = IntKind.i64.wrap (n + (1 : Int))) ∧ ((d = d) ∧ ((d + p = IntKind.i64.wrap (d + p)) ∧ ((e = e) ∧ True))))))) ∧ True))
theorem nextCK0Vc (e p i n r d l : Int) : fnX X23 (noAnn) Try.f52 [.ptr 0 0] [.cells [.raw (.int .i64 e), .raw (.int .i64 p), .raw (.int .i64 i), .raw (.int .i64 n), .raw (.int .i64 r), .raw (.int .i64 d), .raw (.int .i64 l)] 84] (ends [.cells [.raw (.int .i64 e), .raw (.int .i64 p), .raw (.int .i64 i), .raw (.int .i64 n), .raw (.int .i64 r), .raw (.int .i64 d), .raw (.int .i64 l)] 84] ⟨some (.tup []), [(0, some (.cells [.raw (.int .i64 e), .raw (.int .i64 p), .raw (.int .i64 i), .raw (.int .i64 (n + 1)), .raw (.int .i64 d), .raw (.int .i64 (d + p)), .raw (.int .i64 e)] 84))]⟩) = nextCK0Text e p i n r d l := by kernel_rfl
theorem nextCK0Holds (e p i n r d l : Int) (hp : 0 ≤ n ∧ n ≤ 1099512676352 ∧ 0 ≤ d ∧ d ≤ 1099513724928 ∧ 0 ≤ p ∧ p ≤ 1048576) : nextCK0Text e p i n r d l := by
  unfold nextCK0Text
  obtain ⟨h1, h2, h3, h4, h5, h6⟩ := hp
  rw [wrap_id (n := n + 1) (by omega) (by omega), wrap_id (n := d + p) (by omega) (by omega)]
  repeat' first | apply And.intro | exact True.intro | with_reducible rfl | exact rfl
def nextCK1Text (M : List Own) (i : Int) : Prop := let q0_ := (IntKind.i64.wrap ((at' ownE.zero M i).JobIndex + (1 : Int)));
  let q1_ := (Own.mk (at' ownE.zero M i).PartE (at' ownE.zero M i).PartP (at' ownE.zero M i).JobPart q0_ (at' ownE.zero M i).JobRelease (at' ownE.zero M i).JobDeadline (at' ownE.zero M i).JobLeft);
  let q2_ := (Own.mk (at' ownE.zero (M.set i.toNat q1_) i).PartE (at' ownE.zero (M.set i.toNat q1_) i).PartP (at' ownE.zero (M.set i.toNat q1_) i).JobPart (at' ownE.zero (M.set i.toNat q1_) i).JobIndex (at' ownE.zero (M.set i.toNat q1_) i).JobDeadline (at' ownE.zero (M.set i.toNat q1_) i).JobDeadline (at' ownE.zero (M.set i.toNat q1_) i).JobLeft);
  let q3_ := ((at' ownE.zero ((M.set i.toNat q1_).set i.toNat q2_) i).JobDeadline + (at' ownE.zero ((M.set i.toNat q1_).set i.toNat q2_) i).PartP);
  let q4_ := (Own.mk (at' ownE.zero ((M.set i.toNat q1_).set i.toNat q2_) i).PartE (at' ownE.zero ((M.set i.toNat q1_).set i.toNat q2_) i).PartP (at' ownE.zero ((M.set i.toNat q1_).set i.toNat q2_) i).JobPart (at' ownE.zero ((M.set i.toNat q1_).set i.toNat q2_) i).JobIndex (at' ownE.zero ((M.set i.toNat q1_).set i.toNat q2_) i).JobRelease (IntKind.i64.wrap q3_) (at' ownE.zero ((M.set i.toNat q1_).set i.toNat q2_) i).JobLeft);
  let q5_ := (at' ownE.zero (((M.set i.toNat q1_).set i.toNat q2_).set i.toNat q4_) i);
  (match (inb i M.length) with | true => (match (inb i M.length) with | true => (match (inb i (M.set i.toNat q1_).length) with | true => (match (inb i (M.set i.toNat q1_).length) with | true => (match (inb i ((M.set i.toNat q1_).set i.toNat q2_).length) with | true => (match (inb i ((M.set i.toNat q1_).set i.toNat q2_).length) with | true => (match (inb i ((M.set i.toNat q1_).set i.toNat q2_).length) with | true => (match (inb i (((M.set i.toNat q1_).set i.toNat q2_).set i.toNat q4_).length) with | true => (match (inb i (((M.set i.toNat q1_).set i.toNat q2_).set i.toNat q4_).length) with | true => ((True ∧ True) ∧ ((M.set i.toNat (nextO (at' ownE.zero M i)) = (((M.set i.toNat q1_).set i.toNat q2_).set i.toNat q4_).set i.toNat (Own.mk q5_.PartE q5_.PartP q5_.JobPart q5_.JobIndex q5_.JobRelease q5_.JobDeadline q5_.PartE)) ∧ True)) | false => False) | false => False) | false => False) | false => False) | false => False) | false => False) | false => False) | false => False) | false => False)
theorem nextCK1Vc (M : List Own) (i : Int) : fnX X23 (noAnn) Try.f52 [.elt 0 i 7 0] [.vec 7 M 84] (ends [.vec 7 M 84] ⟨some (.tup []), [(0, some (.vec 7 (M.set i.toNat (nextO (at' ownE.zero M i))) 84))]⟩) = nextCK1Text M i := by kernel_rfl
theorem nextCK1Holds (M : List Own) (i : Int) (hp : 0 ≤ i ∧ i < M.length ∧ 0 ≤ (at' ownE.zero M i).JobIndex ∧ (at' ownE.zero M i).JobIndex ≤ 1099512676352 ∧ 0 ≤ (at' ownE.zero M i).JobDeadline ∧ (at' ownE.zero M i).JobDeadline ≤ 1099513724928 ∧ 0 ≤ (at' ownE.zero M i).PartP ∧ (at' ownE.zero M i).PartP ≤ 1048576) : nextCK1Text M i := by
  unfold nextCK1Text
  obtain ⟨a1, a2, h1, h2, h3, h4, h5, h6⟩ := hp
  intro q0 q1 q2 q3 q4 q5
  have hk : i.toNat < M.length := by omega
  have key : ∀ (N : List Own) (a : Own), N.length = M.length → at' ownE.zero (N.set i.toNat a) i = a := by
    intro N a hN
    have h := at_nat (z := ownE.zero) (L := N.set i.toNat a) (x := i.toNat) (by rw [List.length_set, hN]; exact hk)
    rw [Int.toNat_of_nonneg a1] at h
    rw [h, List.getElem_set_self]
  have hin : inb i M.length = true := by have := inb_nat hk; rwa [Int.toNat_of_nonneg a1] at this
  have l1 : (M.set i.toNat q1).length = M.length := List.length_set ..
  have l2 : ((M.set i.toNat q1).set i.toNat q2).length = M.length := by rw [List.length_set, l1]
  have l3 : (((M.set i.toNat q1).set i.toNat q2).set i.toNat q4).length = M.length := by rw [List.length_set, l2]
  have e1 := key M q1 rfl
  have e2 := key _ q2 l1
  have e3 : q5 = q4 := key _ _ l2
  have g0 : q0 = (at' ownE.zero M i).JobIndex + 1 := wrap_id (by omega) (by omega)
  have g1 : q1 = ⟨(at' ownE.zero M i).PartE, (at' ownE.zero M i).PartP, (at' ownE.zero M i).JobPart, q0, (at' ownE.zero M i).JobRelease, (at' ownE.zero M i).JobDeadline, (at' ownE.zero M i).JobLeft⟩ := rfl
  have g2 : q2 = ⟨q1.PartE, q1.PartP, q1.JobPart, q1.JobIndex, q1.JobDeadline, q1.JobDeadline, q1.JobLeft⟩ := by rw [← e1]
  have g3 : q3 = q2.JobDeadline + q2.PartP := by rw [← e2]
  have g4 : q4 = ⟨q2.PartE, q2.PartP, q2.JobPart, q2.JobIndex, q2.JobRelease, IntKind.i64.wrap q3, q2.JobLeft⟩ := by rw [← e2]
  have e : nextO (at' ownE.zero M i) = Own.mk q5.PartE q5.PartP q5.JobPart q5.JobIndex q5.JobRelease q5.JobDeadline q5.PartE := by
    clear_value q0 q1 q2 q3 q4 q5
    rw [e3, g4, g3, g2, g1, g0]
    generalize at' ownE.zero M i = A at h1 h2 h3 h4 h5 h6
    dsimp only
    rw [wrap_id (by omega) (by omega)]
    rfl
  rw [l1, l2, l3, hin]
  refine ⟨⟨trivial, trivial⟩, ?_, trivial⟩
  rw [e, List.set_set, List.set_set, List.set_set]
noncomputable def nextCCon : Con T O := fun args cs => match args, cs with
  | [.ptr 0 0], [.cells [.raw (.int .i64 e), .raw (.int .i64 p), .raw (.int .i64 i), .raw (.int .i64 n), .raw (.int .i64 _), .raw (.int .i64 d), .raw (.int .i64 _)] 84] => chk (decide (0 ≤ n ∧ n ≤ 1099512676352 ∧ 0 ≤ d ∧ d ≤ 1099513724928 ∧ 0 ≤ p ∧ p ≤ 1048576)) (.ret ⟨some (.tup []), [(0, some (.cells [.raw (.int .i64 e), .raw (.int .i64 p), .raw (.int .i64 i), .raw (.int .i64 (n + 1)), .raw (.int .i64 d), .raw (.int .i64 (d + p)), .raw (.int .i64 e)] 84))]⟩)
  | [.elt 0 i 7 0], [.vec 7 M 84] => chk (decide (0 ≤ i ∧ i < M.length ∧ 0 ≤ (at' ownE.zero M i).JobIndex ∧ (at' ownE.zero M i).JobIndex ≤ 1099512676352 ∧ 0 ≤ (at' ownE.zero M i).JobDeadline ∧ (at' ownE.zero M i).JobDeadline ≤ 1099513724928 ∧ 0 ≤ (at' ownE.zero M i).PartP ∧ (at' ownE.zero M i).PartP ≤ 1048576)) (.ret ⟨some (.tup []), [(0, some (.vec 7 (M.set i.toNat (nextO (at' ownE.zero M i))) 84))]⟩)
  | _, _ => .fail
theorem nextCOk : ConOk R Try.prog 52 nextCCon := con_of_fn R (X23) (TabOk.con R X23Ok) mixed Try.call52 Try.func52 nextCCon (by
  intro args cs K h
  unfold nextCCon at h
  split at h
  · rename_i e p i n r d l
    rw [Tree.holds_chk] at h
    obtain ⟨hp, h⟩ := h
    refine ⟨noAnn, _, fun v S hv => ⟨_, h, hv⟩, ?_⟩
    rw [nextCK0Vc e p i n r d l]
    exact nextCK0Holds e p i n r d l (of_decide_eq_true hp)
  · rename_i i M
    rw [Tree.holds_chk] at h
    obtain ⟨hp, h⟩ := h
    refine ⟨noAnn, _, fun v S hv => ⟨_, h, hv⟩, ?_⟩
    rw [nextCK1Vc M i]
    exact nextCK1Holds M i (of_decide_eq_true hp)
  · exact h.elim)
noncomputable def tab24 : Tab T O := (51, orderJCon) :: (55, jobsIsCon) :: (52, nextCCon) :: tab23
theorem tabOk24 : TabOk R Try.prog tab24 := TabOk.cons R orderJOk <| TabOk.cons R jobsIsOk <| TabOk.cons R nextCOk <| tabOk23
noncomputable def X24 : Ctx T O := { X0 with con := conOf tab24 }
theorem X24Ok : TabOk R X24.P tab24 := tabOk24
end Go.Proofs.Ytmnnjclnldaejaa

namespace Go.Proofs.Ytmnnjclnldaejaa
open Go.Sx Go.Proofs Classical
/-! ### (*regatta/super.Super).slot -/
def slotCText (M : List Own) (last served idle t : Int) : Prop := (match (decide (t ≥ last)) with | true => (((slotOk last t = decide (t ≤ (1099511627776 : Int))) ∧ True) ∧ ((True ∧ ((last = last) ∧ ((served = served) ∧ ((idle = idle) ∧ True)))) ∧ ((M = M) ∧ True))) | false => (((slotOk last t = false) ∧ True) ∧ ((True ∧ ((last = last) ∧ ((served = served) ∧ ((idle = idle) ∧ True)))) ∧ ((M = M) ∧ True))))
theorem slotCVc (M : List Own) (last served idle t : Int) : fnX X24 (noAnn) Try.f50 [.ptr 0 0, .raw (.int .i64 t)] [.cells [.own 1, .raw (.int .i64 last), .raw (.int .i64 served), .raw (.int .i64 idle)] 82, .vec 7 M 84] (ends [.cells [.own 1, .raw (.int .i64 last), .raw (.int .i64 served), .raw (.int .i64 idle)] 82, .vec 7 M 84] ⟨some (.raw (.bool (slotOk last t))), [(1, some (.vec 7 M 84))]⟩) = slotCText M last served idle t := by kernel_rfl
theorem slotCHolds (M : List Own) (last served idle t : Int) : slotCText M last served idle t := by
  unfold slotCText slotOk
  cases decide (t ≥ last)
  · rw [Bool.false_and]
    repeat' first | apply And.intro | exact True.intro | with_reducible rfl | exact rfl
  · rw [Bool.true_and]
    repeat' first | apply And.intro | exact True.intro | with_reducible rfl | exact rfl
noncomputable def slotCCon : Con T O := fun args cs => match args, cs with
  | [.ptr 0 0, .raw (.int .i64 t)], [.cells [.own 1, .raw (.int .i64 last), .raw (.int .i64 _), .raw (.int .i64 _)] 82, .vec 7 M 84] => .ret ⟨some (.raw (.bool (slotOk last t))), [(1, some (.vec 7 M 84))]⟩
  | _, _ => .fail
theorem slotCOk : ConOk R Try.prog 50 slotCCon := con_of_fn R (X24) (TabOk.con R X24Ok) mixed Try.call50 Try.func50 slotCCon (by
  intro args cs K h
  unfold slotCCon at h
  split at h
  · rename_i t last served idle M
    refine ⟨noAnn, _, fun v S hv => ⟨_, h, hv⟩, ?_⟩
    rw [slotCVc M last served idle t]
    exact slotCHolds M last served idle t
  · exact h.elim)
/-! ### (*regatta/super.Super).Served -/
def servedCText (M : List Own) (last served idle : Int) : Prop := (((served = served) ∧ True) ∧ ((True ∧ ((last = last) ∧ ((served = served) ∧ ((idle = idle) ∧ True)))) ∧ ((M = M) ∧ True)))
theorem servedCVc (M : List Own) (last served idle : Int) : fnX X24 (noAnn) Try.f24 [.ptr 0 0] [.cells [.own 1, .raw (.int .i64 last), .raw (.int .i64 served), .raw (.int .i64 idle)] 82, .vec 7 M 84] (ends [.cells [.own 1, .raw (.int .i64 last), .raw (.int .i64 served), .raw (.int .i64 idle)] 82, .vec 7 M 84] ⟨some (.raw (.int .i64 served)), [(1, some (.vec 7 M 84))]⟩) = servedCText M last served idle := by kernel_rfl
theorem servedCHolds (M : List Own) (last served idle : Int) : servedCText M last served idle := by
  unfold servedCText
  repeat' first | apply And.intro | exact True.intro | with_reducible rfl | exact rfl
noncomputable def servedCCon : Con T O := fun args cs => match args, cs with
  | [.ptr 0 0], [.cells [.own 1, .raw (.int .i64 _), .raw (.int .i64 served), .raw (.int .i64 _)] 82, .vec 7 M 84] => .ret ⟨some (.raw (.int .i64 served)), [(1, some (.vec 7 M 84))]⟩
  | _, _ => .fail
theorem servedCOk : ConOk R Try.prog 24 servedCCon := con_of_fn R (X24) (TabOk.con R X24Ok) mixed Try.call24 Try.func24 servedCCon (by
  intro args cs K h
  unfold servedCCon at h
  split at h
  · rename_i last served idle M
    refine ⟨noAnn, _, fun v S hv => ⟨_, h, hv⟩, ?_⟩
    rw [servedCVc M last served idle]
    exact servedCHolds M last served idle
  · exact h.elim)
/-! ### (*regatta/super.Super).Idle -/
def idleCText (M : List Own) (last served idle : Int) : Prop := (((idle = idle) ∧ True) ∧ ((True ∧ ((last = last) ∧ ((served = served) ∧ ((idle = idle) ∧ True)))) ∧ ((M = M) ∧ True)))
theorem idleCVc (M : List Own) (last served idle : Int) : fnX X24 (noAnn) Try.f25 [.ptr 0 0] [.cells [.own 1, .raw (.int .i64 last), .raw (.int .i64 served), .raw (.int .i64 idle)] 82, .vec 7 M 84] (ends [.cells [.own 1, .raw (.int .i64 last), .raw (.int .i64 served), .raw (.int .i64 idle)] 82, .vec 7 M 84] ⟨some (.raw (.int .i64 idle)), [(1, some (.vec 7 M 84))]⟩) = idleCText M last served idle := by kernel_rfl
theorem idleCHolds (M : List Own) (last served idle : Int) : idleCText M last served idle := by
  unfold idleCText
  repeat' first | apply And.intro | exact True.intro | with_reducible rfl | exact rfl
noncomputable def idleCCon : Con T O := fun args cs => match args, cs with
  | [.ptr 0 0], [.cells [.own 1, .raw (.int .i64 _), .raw (.int .i64 _), .raw (.int .i64 idle)] 82, .vec 7 M 84] => .ret ⟨some (.raw (.int .i64 idle)), [(1, some (.vec 7 M 84))]⟩
  | _, _ => .fail
theorem idleCOk : ConOk R Try.prog 25 idleCCon := con_of_fn R (X24) (TabOk.con R X24Ok) mixed Try.call25 Try.func25 idleCCon (by
  intro args cs K h
  unfold idleCCon at h
  split at h
  · rename_i last served idle M
    refine ⟨noAnn, _, fun v S hv => ⟨_, h, hv⟩, ?_⟩
    rw [idleCVc M last served idle]
    exact idleCHolds M last served idle
  · exact h.elim)
/-! ### (regatta/super.part).each -/
def eachCText (e p i n r d l t : Int) : Prop := ((∃ x : List Job × Own, (((x.fst.length ≤ mostJ) ∧ ((∃ b : Int, (∃ k : Int, (((0 : Int) ≤ b) ∧ (PartOk b k x.snd)))) ∧ (x.fst ++ eachN (mostJ - x.fst.length) t x.snd = eachA t (Own.mk e p i n r d l)))) ∧ (((True ∧ True) ∧ (True ∧ (True ∧ True))) ∧ (((t = t) ∧ True) ∧ (((x.snd.PartE = e) ∧ ((x.snd.PartP = p) ∧ ((x.snd.JobPart = i) ∧ ((x.snd.JobIndex = n) ∧ ((x.snd.JobRelease = r) ∧ ((x.snd.JobDeadline = d) ∧ ((x.snd.JobLeft = l) ∧ True))))))) ∧ ((x.fst = []) ∧ True)))))) ∧ (∀ x : List Job × Own, (((x.fst.length ≤ mostJ) ∧ ((∃ b : Int, (∃ k : Int, (((0 : Int) ≤ b) ∧ (PartOk b k x.snd)))) ∧ (x.fst ++ eachN (mostJ - x.fst.length) t x.snd = eachA t (Own.mk e p i n r d l)))) → (match (decide ((↑x.fst.length : Int) < (1000 : Int))) with | true => (match (decide (x.snd.JobRelease ≤ t)) with | true => (match (roomy (x.fst.length + (1 : Nat)) (nat_lit 40)) with | true => (match (decide ((0 : Int) ≤ x.snd.JobIndex ∧ x.snd.JobIndex ≤ (1099512676352 : Int) ∧ (0 : Int) ≤ x.snd.JobDeadline ∧ x.snd.JobDeadline ≤ (1099513724928 : Int) ∧ (0 : Int) ≤ x.snd.PartP ∧ x.snd.PartP ≤ (1048576 : Int))) with | true => (∃ x' : List Job × Own, (((x'.fst.length ≤ mostJ) ∧ ((∃ b : Int, (∃ k : Int, (((0 : Int) ≤ b) ∧ (PartOk b k x'.snd)))) ∧ (x'.fst ++ eachN (mostJ - x'.fst.length) t x'.snd = eachA t (Own.mk e p i n r d l)))) ∧ ((mostJ - x'.fst.length < mostJ - x.fst.length) ∧ (((True ∧ True) ∧ (True ∧ (True ∧ True))) ∧ (((t = t) ∧ True) ∧ (((x'.snd.PartE = x.snd.PartE) ∧ ((x'.snd.PartP = x.snd.PartP) ∧ ((x'.snd.JobPart = x.snd.JobPart) ∧ ((x'.snd.JobIndex = x.snd.JobIndex + (1 : Int)) ∧ ((x'.snd.JobRelease = x.snd.JobDeadline) ∧ ((x'.snd.JobDeadline = x.snd.JobDeadline + x.snd.PartP) ∧ ((x'.snd.JobLeft = x.snd.PartE) ∧ True))))))) ∧ ((x'.fst = x.fst ++ [Job.mk x.snd.JobPart x.snd.JobIndex x.snd.JobRelease x.snd.JobDeadline x.snd.JobLeft]) ∧ True))))))) | false => False) | false => False) | false => ((True ∧ True) ∧ (((t = t) ∧ True) ∧ ((eachA t (Own.mk e p i n r d l) = x.fst) ∧ True)))) | false => ((True ∧ True) ∧ (((t = t) ∧ True) ∧ ((eachA t (Own.mk e p i n r d l) = x.fst) ∧ True)))))))
theorem eachCVc (e p i n r d l t : Int) : fnX X24 (oneLoop 2 { σ := List Job × Own, st := fun S x => (((S.keep [1, 2]).at' 2 (.cells (ownE.enc x.2) 84)).gc 1).new 5 (.vec 4 x.1 52), inv := fun _ x => x.1.length ≤ mostJ ∧ (∃ b k, 0 ≤ b ∧ PartOk b k x.2) ∧ x.1 ++ eachN (mostJ - x.1.length) t x.2 = eachA t ⟨e, p, i, n, r, d, l⟩, m := fun x => mostJ - x.1.length }) Try.f54 [.agg [.raw (.int .i64 e), .raw (.int .i64 p), .raw (.int .i64 i), .raw (.int .i64 n), .raw (.int .i64 r), .raw (.int .i64 d), .raw (.int .i64 l)], .fn 55 [.ptr 0 0]] [.cells [.raw (.int .i64 t)] 2] (ends [.cells [.raw (.int .i64 t)] 2] ⟨some (.own 1), [(1, some (.vec 4 (eachA t ⟨e, p, i, n, r, d, l⟩) 52))]⟩) = eachCText e p i n r d l t := by kernel_rfl
set_option maxRecDepth 10000 in
theorem eachCHolds (e p i n r d l t : Int) (hp : t ≤ 1099511627776 ∧ ∃ b k, 0 ≤ b ∧ PartOk b k ⟨e, p, i, n, r, d, l⟩) : eachCText e p i n r d l t := by
  unfold eachCText
  obtain ⟨h0, b, k, hb, hq⟩ := hp
  have hA : ([] : List Job) ++ eachN (mostJ - ([] : List Job).length) t ⟨e, p, i, n, r, d, l⟩ = eachA t ⟨e, p, i, n, r, d, l⟩ := by
    rw [eachA_def, List.nil_append]; rfl
  constructor
  · refine ⟨([], Own.mk e p i n r d l), ?_, ?_⟩
    · exact ⟨Nat.zero_le _, ⟨b, k, hb, hq⟩, hA⟩
    · repeat' first | apply And.intro | exact True.intro | with_reducible rfl | exact rfl
  intro x hi
  obtain ⟨A, q⟩ := x
  dsimp only at hi ⊢
  have i1 := hi.1
  have i2 := hi.2.1
  have i3 := hi.2.2
  clear hi
  obtain ⟨b', k', hb', hq'⟩ := i2
  generalize eachA t ⟨e, p, i, n, r, d, l⟩ = R at i3 ⊢
  have hm := mostJ_eq
  by_cases c1 : A.length < 1000
  · rw [show decide ((A.length : Int) < 1000) = true from decide_eq_true (by omega)]
    obtain ⟨z, hz⟩ : ∃ z, mostJ - A.length = z + 1 := ⟨mostJ - A.length - 1, by omega⟩
    rw [hz] at i3
    simp only [eachN] at i3
    by_cases c2 : q.JobRelease ≤ t
    · have x1 := hq'.idx
      have x2 := hq'.idx_le hb'
      have x3 := hq'.rel0 hb'
      have x4 := hq'.dead
      have x5 := hq'.e1
      have x6 := hq'.ep
      have x7 := hq'.p
      rw [decide_eq_true c2, cond_true] at i3
      rw [decide_eq_true c2, show roomy (A.length + 1) 40 = true from decide_eq_true (by omega), decide_eq_true (⟨x1, x2, by omega, by omega, by omega, x7⟩ : 0 ≤ q.JobIndex ∧ q.JobIndex ≤ 1099512676352 ∧ 0 ≤ q.JobDeadline ∧ q.JobDeadline ≤ 1099513724928 ∧ 0 ≤ q.PartP ∧ q.PartP ≤ 1048576)]
      refine ⟨(A ++ [ownJ q], nextO q), ⟨by dsimp only; rw [List.length_append]; show A.length + 1 ≤ mostJ; omega, ⟨b', k', hb', hq'.next (by omega)⟩, ?_⟩, by dsimp only; rw [List.length_append]; show mostJ - (A.length + 1) < _; omega, by repeat' first | apply And.intro | exact True.intro | with_reducible rfl | exact rfl⟩
      dsimp only
      rw [List.length_append, show mostJ - (A.length + [ownJ q].length) = z from by show mostJ - (A.length + 1) = z; omega, List.append_assoc]
      exact i3
    · rw [decide_eq_false c2, cond_false] at i3
      rw [decide_eq_false c2]
      rw [List.append_nil] at i3
      have i3 := i3.symm
      repeat' first | exact i3 | apply And.intro | exact True.intro | with_reducible rfl | exact rfl
  · rw [show mostJ - A.length = 0 by omega] at i3
    simp only [eachN, List.append_nil] at i3
    rw [show decide ((A.length : Int) < 1000) = false from decide_eq_false (by omega)]
    have i3 := i3.symm
    repeat' first | exact i3 | apply And.intro | exact True.intro | with_reducible rfl | exact rfl
noncomputable def eachCCon : Con T O := fun args cs => match args, cs with
  | [.agg [.raw (.int .i64 e), .raw (.int .i64 p), .raw (.int .i64 i), .raw (.int .i64 n), .raw (.int .i64 r), .raw (.int .i64 d), .raw (.int .i64 l)], .fn 55 [.ptr 0 0]], [.cells [.raw (.int .i64 t)] 2] => chk (decide (t ≤ 1099511627776 ∧ ∃ b k, 0 ≤ b ∧ PartOk b k ⟨e, p, i, n, r, d, l⟩)) (.ret ⟨some (.own 1), [(1, some (.vec 4 (eachA t ⟨e, p, i, n, r, d, l⟩) 52))]⟩)
  | _, _ => .fail
theorem eachCOk : ConOk R Try.prog 54 eachCCon := con_of_fn R (X24) (TabOk.con R X24Ok) mixed Try.call54 Try.func54 eachCCon (by
  intro args cs K h
  unfold eachCCon at h
  split at h
  · rename_i e p i n r d l t
    rw [Tree.holds_chk] at h
    obtain ⟨hp, h⟩ := h
    refine ⟨oneLoop 2 { σ := List Job × Own, st := fun S x => (((S.keep [1, 2]).at' 2 (.cells (ownE.enc x.2) 84)).gc 1).new 5 (.vec 4 x.1 52), inv := fun _ x => x.1.length ≤ mostJ ∧ (∃ b k, 0 ≤ b ∧ PartOk b k x.2) ∧ x.1 ++ eachN (mostJ - x.1.length) t x.2 = eachA t ⟨e, p, i, n, r, d, l⟩, m := fun x => mostJ - x.1.length }, _, fun v S hv => ⟨_, h, hv⟩, ?_⟩
    rw [eachCVc e p i n r d l t]
    exact eachCHolds e p i n r d l t (of_decide_eq_true hp)
  · exact h.elim)
noncomputable def tab25 : Tab T O := (50, slotCCon) :: (24, servedCCon) :: (25, idleCCon) :: (54, eachCCon) :: tab24
theorem tabOk25 : TabOk R Try.prog tab25 := TabOk.cons R slotCOk <| TabOk.cons R servedCOk <| TabOk.cons R idleCOk <| TabOk.cons R eachCOk <| tabOk24
noncomputable def X25 : Ctx T O := { X0 with con := conOf tab25 }
theorem X25Ok : TabOk R X25.P tab25 := tabOk25
end Go.Proofs.Ytmnnjclnldaejaa

namespace Go.Proofs.Ytmnnjclnldaejaa
open Go.Sx Go.Proofs Classical

def supSt (S : SS T O) (nf t : Nat) (M : List Own) (last served idle : Int) : SS T O := ((S.at' t (.cells [.own S.next, .raw (.int .i64 last), .raw (.int .i64 served), .raw (.int .i64 idle)] 82)).gc nf).add (.vec 7 M 84)
def newOk (L : List Part) (t : Int) : Bool := ((weightR L).2 == 0) && (decide (0 ≤ t) && decide (t ≤ 1099511627776))

/-! ### regatta/super.New -/
def newCText (L : List Part) (t : Int) : Prop := (match (decide (L.length ≤ (100000 : Nat))) with | true => (match ((weightR L).snd != (0 : Int)) with | true => (match (newOk L t) with | true => False | false => (((Value.pointer none = Value.pointer none) ∧ True) ∧ ((L = L) ∧ True))) | false => (match (decide (t < (0 : Int))) with | true => (match (newOk L t) with | true => False | false => (((Value.pointer none = Value.pointer none) ∧ True) ∧ ((L = L) ∧ True))) | false => (match (decide (t > (1099511627776 : Int))) with | true => (match (newOk L t) with | true => False | false => (((Value.pointer none = Value.pointer none) ∧ True) ∧ ((L = L) ∧ True))) | false => ((∃ x : Nat, ((x.le L.length) ∧ ((True ∧ ((t = t) ∧ (True ∧ (True ∧ (((↑L.length : Int) = (↑L.length : Int)) ∧ (((↑x : Int) = (0 : Int)) ∧ True)))))) ∧ ((L = L) ∧ ((True ∧ ((t = t) ∧ (((0 : Int) = (0 : Int)) ∧ (((0 : Int) = (0 : Int)) ∧ True)))) ∧ ((startL t L x = []) ∧ True)))))) ∧ (∀ x : Nat, ((x.le L.length) → (match (decide ((↑x : Int) < (↑L.length : Int))) with | true => (match (inb (↑x : Int) L.length) with | true => (match (inb (↑x : Int) L.length) with | true => (match (roomy ((startL t L x).length + (1 : Nat)) (nat_lit 56)) with | true => (∃ x' : Nat, ((x'.le L.length) ∧ ((L.length - x' < L.length - x) ∧ ((True ∧ ((t = t) ∧ (True ∧ (True ∧ (((↑L.length : Int) = (↑L.length : Int)) ∧ (((↑x' : Int) = IntKind.i64.wrap ((↑x : Int) + (1 : Int))) ∧ True)))))) ∧ ((L = L) ∧ ((True ∧ ((t = t) ∧ (((0 : Int) = (0 : Int)) ∧ (((0 : Int) = (0 : Int)) ∧ True)))) ∧ ((startL t L x' = startL t L x ++ [Own.mk (at' partE.zero L (↑x : Int)).E (at' partE.zero L (↑x : Int)).P (↑x : Int) (0 : Int) t (IntKind.i64.wrap (t + (at' partE.zero L (↑x : Int)).P)) (at' partE.zero L (↑x : Int)).E]) ∧ True))))))) | false => False) | false => False) | false => False) | false => (match (newOk L t) with | true => ((True ∧ True) ∧ ((L = L) ∧ ((True ∧ ((t = t) ∧ (((0 : Int) = (0 : Int)) ∧ (((0 : Int) = (0 : Int)) ∧ True)))) ∧ ((startL t L L.length = startL t L x) ∧ True)))) | false => ((False ∧ True) ∧ ((L = L) ∧ True)))))))))) | false => False)
theorem newCVc (L : List Part) (t : Int) : fnX X25 (oneLoop 6 { σ := Nat, st := fun S x => supSt ((S.keep [0, 1, 7, 28, 29]).int 30 x) 1 7 (startL t L x) t 0 0, inv := fun _ x => x ≤ L.length, m := fun x => L.length - x }) Try.f19 [.own 0, .raw (.int .i64 t)] [.ro 3 L] (endsIf (newOk L t) [.ro 3 L] ⟨some (.ptr 1 0), [(1, some (.cells [.own 2, .raw (.int .i64 t), .raw (.int .i64 0), .raw (.int .i64 0)] 82)), (2, some (.vec 7 (startL t L L.length) 84))]⟩ ⟨some (.raw (.pointer none)), []⟩) = newCText L t := by kernel_rfl
theorem newCHolds (L : List Part) (t : Int) (hp : L.length ≤ 100000) : newCText L t := by
  unfold newCText
  rw [decide_eq_true hp]
  by_cases hw : (weightR L).2 = 0
  · rw [show ((weightR L).2 != 0) = false by rw [hw]; rfl]
    by_cases h0 : t < 0
    · have e : newOk L t = false := by unfold newOk; rw [decide_eq_false (show ¬ 0 ≤ t by omega), Bool.false_and, Bool.and_false]
      rw [decide_eq_true h0, e]
      repeat' first | apply And.intro | exact True.intro | with_reducible rfl | exact rfl
    · rw [decide_eq_false h0]
      by_cases h1 : t > 1099511627776
      · have e : newOk L t = false := by unfold newOk; rw [decide_eq_false (show ¬ t ≤ 1099511627776 by omega), Bool.and_false, Bool.and_false]
        rw [decide_eq_true h1, e]
        repeat' first | apply And.intro | exact True.intro | with_reducible rfl | exact rfl
      · have e : newOk L t = true := by unfold newOk; rw [hw, decide_eq_true (show 0 ≤ t by omega), decide_eq_true (show t ≤ 1099511627776 by omega)]; rfl
        have hP := weightR_parts hw
        have hl8 := hP.1.2
        rw [decide_eq_false h1, e]
        refine ⟨⟨0, Nat.zero_le _, by repeat' first | apply And.intro | exact True.intro | with_reducible rfl | exact rfl⟩, ?_⟩
        intro x hx
        have hx : x ≤ L.length := hx
        by_cases h : x < L.length
        · have hwx := wrap_succ h (show L.length ≤ 140737488355328 by omega)
          obtain ⟨o1, o2, o3⟩ := hP.2 _ (List.getElem_mem h)
          have e2 := startL_succ t L x
          rw [at_nat h] at e2
          rw [dec_lt h, inb_nat h, show roomy ((startL t L x).length + 1) 56 = true from decide_eq_true (by rw [startL_length]; omega), at_nat h, wrap_id (n := t + L[x].P) (by omega) (by omega)]
          refine ⟨x + 1, h, by omega, ?_⟩
          repeat' first | exact hwx.symm | exact e2 | apply And.intro | exact True.intro | with_reducible rfl | exact rfl
        · obtain rfl : x = L.length := by omega
          rw [dec_ge (Nat.le_refl _)]
          repeat' first | apply And.intro | exact True.intro | with_reducible rfl | exact rfl
  · have e : newOk L t = false := by unfold newOk; rw [show ((weightR L).2 == 0) = false from beq_eq_false_iff_ne.2 hw]; rfl
    rw [show ((weightR L).2 != 0) = true from bne_iff_ne.2 hw, e]
    repeat' first | apply And.intro | exact True.intro | with_reducible rfl | exact rfl
noncomputable def newCBCon : Con T O := fun args cs => match args, cs with
  | [.own 0, .raw (.int .i64 t)], [.ro 3 L] => chk (decide (L.length ≤ 100000)) (.ite (newOk L t) (.ret ⟨some (.ptr 1 0), [(1, some (.cells [.own 2, .raw (.int .i64 t), .raw (.int .i64 0), .raw (.int .i64 0)] 82)), (2, some (.vec 7 (startL t L L.length) 84))]⟩) (.ret ⟨some (.raw (.pointer none)), []⟩))
  | _, _ => .fail
theorem newCBOk : ConOk R Try.prog 19 newCBCon := con_of_fn R (X25) (TabOk.con R X25Ok) mixed Try.call19 Try.func19 newCBCon (by
  intro args cs K h
  unfold newCBCon at h
  split at h
  · rename_i t L
    rw [Tree.holds_chk] at h
    obtain ⟨hp, h⟩ := h
    refine ⟨oneLoop 6 { σ := Nat, st := fun S x => supSt ((S.keep [0, 1, 7, 28, 29]).int 30 x) 1 7 (startL t L x) t 0 0, inv := fun _ x => x ≤ L.length, m := fun x => L.length - x }, _, fun v S hv => holds_if h v S hv, ?_⟩
    rw [newCVc L t]
    exact newCHolds L t (of_decide_eq_true hp)
  · exact h.elim)
noncomputable def newCCon : Con T O := relax 3 newCBCon
theorem newCOk : ConOk R Try.prog 19 newCCon := relax_ok R 3 newCBOk
/-! ### (*regatta/super.Super).Missed -/
def missedCText (M : List Own) (last served idle t : Int) : Prop := (match (!slotOk last t) with | true => (((missedM M last t = (0 : Int)) ∧ True) ∧ ((True ∧ ((last = last) ∧ ((served = served) ∧ ((idle = idle) ∧ True)))) ∧ ((M = M) ∧ True))) | false => ((∃ x : Int × Nat, (((x.snd ≤ M.length) ∧ (((0 : Int) ≤ x.fst) ∧ ((x.fst ≤ (1099512676352 : Int) * (↑x.snd : Int)) ∧ (missedG t (0 : Int) M = missedG t x.fst (List.drop x.snd M))))) ∧ (((t = t) ∧ ((x.fst = (0 : Int)) ∧ (True ∧ (((↑M.length : Int) = (↑M.length : Int)) ∧ (((↑x.snd : Int) = (0 : Int)) ∧ True))))) ∧ ((True ∧ ((last = last) ∧ ((served = served) ∧ ((idle = idle) ∧ True)))) ∧ ((M = M) ∧ True))))) ∧ (∀ x : Int × Nat, (((x.snd ≤ M.length) ∧ (((0 : Int) ≤ x.fst) ∧ ((x.fst ≤ (1099512676352 : Int) * (↑x.snd : Int)) ∧ (missedG t (0 : Int) M = missedG t x.fst (List.drop x.snd M))))) → (match (decide ((↑x.snd : Int) < (↑M.length : Int))) with | true => (match (inb (↑x.snd : Int) M.length) with | true => (match (inb (↑x.snd : Int) M.length) with | true => (match (decide ((at' ownE.zero M (↑x.snd : Int)).JobDeadline ≤ t)) with | true => (match ((at' ownE.zero M (↑x.snd : Int)).PartP != (0 : Int)) with | true => (∃ x' : Int × Nat, (((x'.snd ≤ M.length) ∧ (((0 : Int) ≤ x'.fst) ∧ ((x'.fst ≤ (1099512676352 : Int) * (↑x'.snd : Int)) ∧ (missedG t (0 : Int) M = missedG t x'.fst (List.drop x'.snd M))))) ∧ ((M.length - x'.snd < M.length - x.snd) ∧ (((t = t) ∧ ((x'.fst = IntKind.i64.wrap (x.fst + IntKind.i64.wrap ((at' ownE.zero M (↑x.snd : Int)).JobLeft + IntKind.i64.wrap (IntKind.i64.wrap ((IntKind.i64.wrap (t - (at' ownE.zero M (↑x.snd : Int)).JobDeadline)).tdiv (at' ownE.zero M (↑x.snd : Int)).PartP) * (at' ownE.zero M (↑x.snd : Int)).PartE)))) ∧ (True ∧ (((↑M.length : Int) = (↑M.length : Int)) ∧ (((↑x'.snd : Int) = IntKind.i64.wrap ((↑x.snd : Int) + (1 : Int))) ∧ True))))) ∧ ((True ∧ ((last = last) ∧ ((served = served) ∧ ((idle = idle) ∧ True)))) ∧ ((M = M) ∧ True)))))) | false => False) | false => (∃ x' : Int × Nat, (((x'.snd ≤ M.length) ∧ (((0 : Int) ≤ x'.fst) ∧ ((x'.fst ≤ (1099512676352 : Int) * (↑x'.snd : Int)) ∧ (missedG t (0 : Int) M = missedG t x'.fst (List.drop x'.snd M))))) ∧ ((M.length - x'.snd < M.length - x.snd) ∧ (((t = t) ∧ ((x'.fst = x.fst) ∧ (True ∧ (((↑M.length : Int) = (↑M.length : Int)) ∧ (((↑x'.snd : Int) = IntKind.i64.wrap ((↑x.snd : Int) + (1 : Int))) ∧ True))))) ∧ ((True ∧ ((last = last) ∧ ((served = served) ∧ ((idle = idle) ∧ True)))) ∧ ((M = M) ∧ True))))))) | false => False) | false => False) | false => (((missedM M last t = x.fst) ∧ True) ∧ ((True ∧ ((last = last) ∧ ((served = served) ∧ ((idle = idle) ∧ True)))) ∧ ((M = M) ∧ True))))))))
theorem missedCVc (M : List Own) (last served idle t : Int) : fnX X25 (oneLoop 5 { σ := Int × Nat, st := fun S x => ((S.keep [1, 16, 17]).int 5 x.1).int 18 x.2, inv := fun _ x => x.2 ≤ M.length ∧ 0 ≤ x.1 ∧ x.1 ≤ 1099512676352 * x.2 ∧ missedG t 0 M = missedG t x.1 (M.drop x.2), m := fun x => M.length - x.2 }) Try.f21 [.ptr 0 0, .raw (.int .i64 t)] [.cells [.own 1, .raw (.int .i64 last), .raw (.int .i64 served), .raw (.int .i64 idle)] 82, .vec 7 M 84] (ends [.cells [.own 1, .raw (.int .i64 last), .raw (.int .i64 served), .raw (.int .i64 idle)] 82, .vec 7 M 84] ⟨some (.raw (.int .i64 (missedM M last t))), [(1, some (.vec 7 M 84))]⟩) = missedCText M last served idle t := by kernel_rfl
theorem missedCHolds (M : List Own) (last served idle t : Int) (hp : ∃ b, RowOk b M) : missedCText M last served idle t := by
  unfold missedCText
  obtain ⟨b, hR⟩ := hp
  have hl8 := hR.len
  cases hs : slotOk last t
  · have em : missedM M last t = 0 := by unfold missedM; rw [hs]; rfl
    rw [em]
    repeat' first | apply And.intro | exact True.intro | with_reducible rfl | exact rfl
  · have ht := (slotOk_iff.1 hs).2
    have em : missedM M last t = missedG t 0 M := by unfold missedM; rw [hs]; rfl
    rw [em]
    refine ⟨⟨(0, 0), ⟨Nat.zero_le _, Int.le_refl _, by dsimp only; omega, rfl⟩, by repeat' first | apply And.intro | exact True.intro | with_reducible rfl | exact rfl⟩, ?_⟩
    rintro ⟨n, x⟩ ⟨i1, i2, i3, i4⟩
    dsimp only at i1 i2 i3 i4 ⊢
    by_cases h : x < M.length
    · have hwx := wrap_succ h (show M.length ≤ 140737488355328 by omega)
      have hq := hR.all x h
      obtain ⟨m1, m2, m3⟩ := missedO_ok hq hR.t0 ht
      rw [List.drop_eq_getElem_cons h] at i4
      simp only [missedG] at i4
      have l1 := hq.l1
      have le := hq.le
      have ep := hq.ep
      have pp := hq.p
      have r0 := hq.rel0 hR.t0
      have hd := hq.dead
      rw [dec_lt h, inb_nat h, at_nat h]
      by_cases c : M[x].JobDeadline ≤ t
      · obtain ⟨k1, k2, k3, k4⟩ := m3 c
        have eo : missedO t M[x] = M[x].JobLeft + (t - M[x].JobDeadline) / M[x].PartP * M[x].PartE := by unfold missedO; rw [decide_eq_true c]; rfl
        rw [eo] at i4 m1 m2
        rw [decide_eq_true c, show (M[x].PartP != 0) = true from bne_iff_ne.2 (by omega), wrap_id (n := t - M[x].JobDeadline) (by omega) (by omega), Int.tdiv_eq_ediv_of_nonneg (show 0 ≤ t - M[x].JobDeadline by omega), wrap_id (n := (t - M[x].JobDeadline) / M[x].PartP) (by omega) (by omega), wrap_id (n := (t - M[x].JobDeadline) / M[x].PartP * M[x].PartE) (by omega) (by omega), wrap_id (n := M[x].JobLeft + (t - M[x].JobDeadline) / M[x].PartP * M[x].PartE) (by omega) (by omega), wrap_id (n := n + (M[x].JobLeft + (t - M[x].JobDeadline) / M[x].PartP * M[x].PartE)) (by omega) (by omega)]
        refine ⟨(n + (M[x].JobLeft + (t - M[x].JobDeadline) / M[x].PartP * M[x].PartE), x + 1), ⟨h, by dsimp only; omega, by dsimp only; omega, i4⟩, by dsimp only; omega, ?_⟩
        repeat' first | exact hwx.symm | apply And.intro | exact True.intro | with_reducible rfl | exact rfl
      · have eo : missedO t M[x] = 0 := by unfold missedO; rw [decide_eq_false c]; rfl
        rw [eo, Int.add_zero] at i4
        rw [decide_eq_false c]
        refine ⟨(n, x + 1), ⟨h, i2, by dsimp only; omega, i4⟩, by dsimp only; omega, ?_⟩
        repeat' first | exact hwx.symm | apply And.intro | exact True.intro | with_reducible rfl | exact rfl
    · rw [List.drop_of_length_le (by omega)] at i4
      rw [dec_ge (by omega : M.length ≤ x)]
      repeat' first | exact i4 | apply And.intro | exact True.intro | with_reducible rfl | exact rfl
noncomputable def missedCCon : Con T O := fun args cs => match args, cs with
  | [.ptr 0 0, .raw (.int .i64 t)], [.cells [.own 1, .raw (.int .i64 last), .raw (.int .i64 _), .raw (.int .i64 _)] 82, .vec 7 M 84] => chk (decide (∃ b, RowOk b M)) (.ret ⟨some (.raw (.int .i64 (missedM M last t))), [(1, some (.vec 7 M 84))]⟩)
  | _, _ => .fail
theorem missedCOk : ConOk R Try.prog 21 missedCCon := con_of_fn R (X25) (TabOk.con R X25Ok) mixed Try.call21 Try.func21 missedCCon (by
  intro args cs K h
  unfold missedCCon at h
  split at h
  · rename_i t last served idle M
    rw [Tree.holds_chk] at h
    obtain ⟨hp, h⟩ := h
    refine ⟨oneLoop 5 { σ := Int × Nat, st := fun S x => ((S.keep [1, 16, 17]).int 5 x.1).int 18 x.2, inv := fun _ x => x.2 ≤ M.length ∧ 0 ≤ x.1 ∧ x.1 ≤ 1099512676352 * x.2 ∧ missedG t 0 M = missedG t x.1 (M.drop x.2), m := fun x => M.length - x.2 }, _, fun v S hv => ⟨_, h, hv⟩, ?_⟩
    rw [missedCVc M last served idle t]
    exact missedCHolds M last served idle t (of_decide_eq_true hp)
  · exact h.elim)
/-! ### (*regatta/super.Super).Grant -/
def grantCText (M : List Own) (last served idle t : Int) : Prop := (match (!slotOk last t) with | true => ((((((grantJ M last t).Part = (0 : Int)) ∧ (((grantJ M last t).Index = (0 : Int)) ∧ (((grantJ M last t).Release = (0 : Int)) ∧ (((grantJ M last t).Deadline = (0 : Int)) ∧ (((grantJ M last t).Left = (0 : Int)) ∧ True))))) ∧ ((grantIs M last t = false) ∧ True)) ∧ True) ∧ ((True ∧ ((grantLast last t = last) ∧ ((grantServed M last served t = served) ∧ ((grantIdle M last idle t = idle) ∧ True)))) ∧ ((grantM M last t = M) ∧ True))) | false => ((∃ x : Nat, ((x.le M.length) ∧ ((True ∧ ((t = t) ∧ (True ∧ ((false = false) ∧ ((bestG M t x = (-1 : Int)) ∧ (((↑M.length : Int) = (↑M.length : Int)) ∧ (((↑x : Int) = (0 : Int)) ∧ True))))))) ∧ ((True ∧ ((t = t) ∧ ((served = served) ∧ ((idle = idle) ∧ True)))) ∧ ((M = M) ∧ ((((0 : Int) = (0 : Int)) ∧ (((0 : Int) = (0 : Int)) ∧ (((0 : Int) = (0 : Int)) ∧ (((0 : Int) = (0 : Int)) ∧ (((0 : Int) = (0 : Int)) ∧ True))))) ∧ True)))))) ∧ (∀ x : Nat, ((x.le M.length) → (match (decide ((↑x : Int) < (↑M.length : Int))) with | true => (match (inb (↑x : Int) M.length) with | true => (match (inb (↑x : Int) M.length) with | true => (match (decide ((at' ownE.zero M (↑x : Int)).JobRelease > t)) with | true => (∃ x' : Nat, ((x'.le M.length) ∧ ((M.length - x' < M.length - x) ∧ ((True ∧ ((t = t) ∧ (True ∧ ((false = false) ∧ ((bestG M t x' = bestG M t x) ∧ (((↑M.length : Int) = (↑M.length : Int)) ∧ (((↑x' : Int) = IntKind.i64.wrap ((↑x : Int) + (1 : Int))) ∧ True))))))) ∧ ((True ∧ ((t = t) ∧ ((served = served) ∧ ((idle = idle) ∧ True)))) ∧ ((M = M) ∧ ((((0 : Int) = (0 : Int)) ∧ (((0 : Int) = (0 : Int)) ∧ (((0 : Int) = (0 : Int)) ∧ (((0 : Int) = (0 : Int)) ∧ (((0 : Int) = (0 : Int)) ∧ True))))) ∧ True))))))) | false => (match (decide (bestG M t x ≥ (0 : Int))) with | true => (match (inb (bestG M t x) M.length) with | true => (match (inb (bestG M t x) M.length) with | true => (match (decide (cmpJ (Job.mk (at' ownE.zero M (bestG M t x)).JobPart (at' ownE.zero M (bestG M t x)).JobIndex (at' ownE.zero M (bestG M t x)).JobRelease (at' ownE.zero M (bestG M t x)).JobDeadline (at' ownE.zero M (bestG M t x)).JobLeft) (Job.mk (at' ownE.zero M (↑x : Int)).JobPart (at' ownE.zero M (↑x : Int)).JobIndex (at' ownE.zero M (↑x : Int)).JobRelease (at' ownE.zero M (↑x : Int)).JobDeadline (at' ownE.zero M (↑x : Int)).JobLeft) < (0 : Int))) with | true => (∃ x' : Nat, ((x'.le M.length) ∧ ((M.length - x' < M.length - x) ∧ ((True ∧ ((t = t) ∧ (True ∧ ((false = false) ∧ ((bestG M t x' = bestG M t x) ∧ (((↑M.length : Int) = (↑M.length : Int)) ∧ (((↑x' : Int) = IntKind.i64.wrap ((↑x : Int) + (1 : Int))) ∧ True))))))) ∧ ((True ∧ ((t = t) ∧ ((served = served) ∧ ((idle = idle) ∧ True)))) ∧ ((M = M) ∧ ((((0 : Int) = (0 : Int)) ∧ (((0 : Int) = (0 : Int)) ∧ (((0 : Int) = (0 : Int)) ∧ (((0 : Int) = (0 : Int)) ∧ (((0 : Int) = (0 : Int)) ∧ True))))) ∧ True))))))) | false => (∃ x' : Nat, ((x'.le M.length) ∧ ((M.length - x' < M.length - x) ∧ ((True ∧ ((t = t) ∧ (True ∧ ((false = false) ∧ ((bestG M t x' = (↑x : Int)) ∧ (((↑M.length : Int) = (↑M.length : Int)) ∧ (((↑x' : Int) = IntKind.i64.wrap ((↑x : Int) + (1 : Int))) ∧ True))))))) ∧ ((True ∧ ((t = t) ∧ ((served = served) ∧ ((idle = idle) ∧ True)))) ∧ ((M = M) ∧ ((((0 : Int) = (0 : Int)) ∧ (((0 : Int) = (0 : Int)) ∧ (((0 : Int) = (0 : Int)) ∧ (((0 : Int) = (0 : Int)) ∧ (((0 : Int) = (0 : Int)) ∧ True))))) ∧ True)))))))) | false => False) | false => False) | false => (∃ x' : Nat, ((x'.le M.length) ∧ ((M.length - x' < M.length - x) ∧ ((True ∧ ((t = t) ∧ (True ∧ ((false = false) ∧ ((bestG M t x' = (↑x : Int)) ∧ (((↑M.length : Int) = (↑M.length : Int)) ∧ (((↑x' : Int) = IntKind.i64.wrap ((↑x : Int) + (1 : Int))) ∧ True))))))) ∧ ((True ∧ ((t = t) ∧ ((served = served) ∧ ((idle = idle) ∧ True)))) ∧ ((M = M) ∧ ((((0 : Int) = (0 : Int)) ∧ (((0 : Int) = (0 : Int)) ∧ (((0 : Int) = (0 : Int)) ∧ (((0 : Int) = (0 : Int)) ∧ (((0 : Int) = (0 : Int)) ∧ True))))) ∧ True))))))))) | false => False) | false => False) | false => (match (decide (bestG M t x < (0 : Int))) with | true => ((((((grantJ M last t).Part = (0 : Int)) ∧ (((grantJ M last t).Index = (0 : Int)) ∧ (((grantJ M last t).Release = (0 : Int)) ∧ (((grantJ M last t).Deadline = (0 : Int)) ∧ (((grantJ M last t).Left = (0 : Int)) ∧ True))))) ∧ ((grantIs M last t = false) ∧ True)) ∧ True) ∧ ((True ∧ ((grantLast last t = t) ∧ ((grantServed M last served t = served) ∧ ((grantIdle M last idle t = IntKind.i64.wrap (idle + (1 : Int))) ∧ True)))) ∧ ((grantM M last t = M) ∧ True))) | false => (match (inb (bestG M t x) M.length) with | true => (match (inb (bestG M t x) M.length) with | true => (match (inb (bestG M t x) M.length) with | true => (match (inb (bestG M t x) (M.set (bestG M t x).toNat (Own.mk (at' ownE.zero M (bestG M t x)).PartE (at' ownE.zero M (bestG M t x)).PartP (at' ownE.zero M (bestG M t x)).JobPart (at' ownE.zero M (bestG M t x)).JobIndex (at' ownE.zero M (bestG M t x)).JobRelease (at' ownE.zero M (bestG M t x)).JobDeadline (IntKind.i64.wrap ((at' ownE.zero M (bestG M t x)).JobLeft - (1 : Int))))).length) with | true => (match ((at' ownE.zero (M.set (bestG M t x).toNat (Own.mk (at' ownE.zero M (bestG M t x)).PartE (at' ownE.zero M (bestG M t x)).PartP (at' ownE.zero M (bestG M t x)).JobPart (at' ownE.zero M (bestG M t x)).JobIndex (at' ownE.zero M (bestG M t x)).JobRelease (at' ownE.zero M (bestG M t x)).JobDeadline (IntKind.i64.wrap ((at' ownE.zero M (bestG M t x)).JobLeft - (1 : Int))))) (bestG M t x)).JobLeft == (0 : Int)) with | true => (match (decide   ((0 : Int) ≤ bestG M t x ∧     bestG M t x < (↑(M.set (bestG M t x).toNat (Own.mk (at' ownE.zero M (bestG M t x)).PartE (at' ownE.zero M (bestG M t x)).PartP (at' ownE.zero M (bestG M t x)).JobPart (at' ownE.zero M (bestG M t x)).JobIndex (at' ownE.zero M (bestG M t x)).JobRelease (at' ownE.zero M (bestG M t x)).JobDeadline (IntKind.i64.wrap ((at' ownE.zero M (bestG M t x)).JobLeft - (1 : Int))))).length : Int) ∧       have q := at' ownE.zero (M.set (bestG M t x).toNat (Own.mk (at' ownE.zero M (bestG M t x)).PartE (at' ownE.zero M (bestG M t x)).PartP (at' ownE.zero M (bestG M t x)).JobPart (at' ownE.zero M (bestG M t x)).JobIndex (at' ownE.zero M (bestG M t x)).JobRelease (at' ownE.zero M (bestG M t x)).JobDeadline (IntKind.i64.wrap ((at' ownE.zero M (bestG M t x)).JobLeft - (1 : Int))))) (bestG M t x);       (0 : Int) ≤ q.JobIndex ∧ q.JobIndex ≤ (1099512676352 : Int) ∧ (0 : Int) ≤ q.JobDeadline ∧ q.JobDeadline ≤ (1099513724928 : Int) ∧ (0 : Int) ≤ q.PartP ∧ q.PartP ≤ (1048576 : Int))) with | true => ((((((grantJ M last t).Part = (at' ownE.zero (M.set (bestG M t x).toNat (Own.mk (at' ownE.zero M (bestG M t x)).PartE (at' ownE.zero M (bestG M t x)).PartP (at' ownE.zero M (bestG M t x)).JobPart (at' ownE.zero M (bestG M t x)).JobIndex (at' ownE.zero M (bestG M t x)).JobRelease (at' ownE.zero M (bestG M t x)).JobDeadline (IntKind.i64.wrap ((at' ownE.zero M (bestG M t x)).JobLeft - (1 : Int))))) (bestG M t x)).JobPart) ∧ (((grantJ M last t).Index = (at' ownE.zero (M.set (bestG M t x).toNat (Own.mk (at' ownE.zero M (bestG M t x)).PartE (at' ownE.zero M (bestG M t x)).PartP (at' ownE.zero M (bestG M t x)).JobPart (at' ownE.zero M (bestG M t x)).JobIndex (at' ownE.zero M (bestG M t x)).JobRelease (at' ownE.zero M (bestG M t x)).JobDeadline (IntKind.i64.wrap ((at' ownE.zero M (bestG M t x)).JobLeft - (1 : Int))))) (bestG M t x)).JobIndex) ∧ (((grantJ M last t).Release = (at' ownE.zero (M.set (bestG M t x).toNat (Own.mk (at' ownE.zero M (bestG M t x)).PartE (at' ownE.zero M (bestG M t x)).PartP (at' ownE.zero M (bestG M t x)).JobPart (at' ownE.zero M (bestG M t x)).JobIndex (at' ownE.zero M (bestG M t x)).JobRelease (at' ownE.zero M (bestG M t x)).JobDeadline (IntKind.i64.wrap ((at' ownE.zero M (bestG M t x)).JobLeft - (1 : Int))))) (bestG M t x)).JobRelease) ∧ (((grantJ M last t).Deadline = (at' ownE.zero (M.set (bestG M t x).toNat (Own.mk (at' ownE.zero M (bestG M t x)).PartE (at' ownE.zero M (bestG M t x)).PartP (at' ownE.zero M (bestG M t x)).JobPart (at' ownE.zero M (bestG M t x)).JobIndex (at' ownE.zero M (bestG M t x)).JobRelease (at' ownE.zero M (bestG M t x)).JobDeadline (IntKind.i64.wrap ((at' ownE.zero M (bestG M t x)).JobLeft - (1 : Int))))) (bestG M t x)).JobDeadline) ∧ (((grantJ M last t).Left = (at' ownE.zero (M.set (bestG M t x).toNat (Own.mk (at' ownE.zero M (bestG M t x)).PartE (at' ownE.zero M (bestG M t x)).PartP (at' ownE.zero M (bestG M t x)).JobPart (at' ownE.zero M (bestG M t x)).JobIndex (at' ownE.zero M (bestG M t x)).JobRelease (at' ownE.zero M (bestG M t x)).JobDeadline (IntKind.i64.wrap ((at' ownE.zero M (bestG M t x)).JobLeft - (1 : Int))))) (bestG M t x)).JobLeft) ∧ True))))) ∧ ((grantIs M last t = true) ∧ True)) ∧ True) ∧ ((True ∧ ((grantLast last t = t) ∧ ((grantServed M last served t = IntKind.i64.wrap (served + (1 : Int))) ∧ ((grantIdle M last idle t = idle) ∧ True)))) ∧ ((grantM M last t = (M.set (bestG M t x).toNat (Own.mk (at' ownE.zero M (bestG M t x)).PartE (at' ownE.zero M (bestG M t x)).PartP (at' ownE.zero M (bestG M t x)).JobPart (at' ownE.zero M (bestG M t x)).JobIndex (at' ownE.zero M (bestG M t x)).JobRelease (at' ownE.zero M (bestG M t x)).JobDeadline (IntKind.i64.wrap ((at' ownE.zero M (bestG M t x)).JobLeft - (1 : Int))))).set (bestG M t x).toNat (nextO (at' ownE.zero (M.set (bestG M t x).toNat (Own.mk (at' ownE.zero M (bestG M t x)).PartE (at' ownE.zero M (bestG M t x)).PartP (at' ownE.zero M (bestG M t x)).JobPart (at' ownE.zero M (bestG M t x)).JobIndex (at' ownE.zero M (bestG M t x)).JobRelease (at' ownE.zero M (bestG M t x)).JobDeadline (IntKind.i64.wrap ((at' ownE.zero M (bestG M t x)).JobLeft - (1 : Int))))) (bestG M t x)))) ∧ True))) | false => False) | false => ((((((grantJ M last t).Part = (at' ownE.zero (M.set (bestG M t x).toNat (Own.mk (at' ownE.zero M (bestG M t x)).PartE (at' ownE.zero M (bestG M t x)).PartP (at' ownE.zero M (bestG M t x)).JobPart (at' ownE.zero M (bestG M t x)).JobIndex (at' ownE.zero M (bestG M t x)).JobRelease (at' ownE.zero M (bestG M t x)).JobDeadline (IntKind.i64.wrap ((at' ownE.zero M (bestG M t x)).JobLeft - (1 : Int))))) (bestG M t x)).JobPart) ∧ (((grantJ M last t).Index = (at' ownE.zero (M.set (bestG M t x).toNat (Own.mk (at' ownE.zero M (bestG M t x)).PartE (at' ownE.zero M (bestG M t x)).PartP (at' ownE.zero M (bestG M t x)).JobPart (at' ownE.zero M (bestG M t x)).JobIndex (at' ownE.zero M (bestG M t x)).JobRelease (at' ownE.zero M (bestG M t x)).JobDeadline (IntKind.i64.wrap ((at' ownE.zero M (bestG M t x)).JobLeft - (1 : Int))))) (bestG M t x)).JobIndex) ∧ (((grantJ M last t).Release = (at' ownE.zero (M.set (bestG M t x).toNat (Own.mk (at' ownE.zero M (bestG M t x)).PartE (at' ownE.zero M (bestG M t x)).PartP (at' ownE.zero M (bestG M t x)).JobPart (at' ownE.zero M (bestG M t x)).JobIndex (at' ownE.zero M (bestG M t x)).JobRelease (at' ownE.zero M (bestG M t x)).JobDeadline (IntKind.i64.wrap ((at' ownE.zero M (bestG M t x)).JobLeft - (1 : Int))))) (bestG M t x)).JobRelease) ∧ (((grantJ M last t).Deadline = (at' ownE.zero (M.set (bestG M t x).toNat (Own.mk (at' ownE.zero M (bestG M t x)).PartE (at' ownE.zero M (bestG M t x)).PartP (at' ownE.zero M (bestG M t x)).JobPart (at' ownE.zero M (bestG M t x)).JobIndex (at' ownE.zero M (bestG M t x)).JobRelease (at' ownE.zero M (bestG M t x)).JobDeadline (IntKind.i64.wrap ((at' ownE.zero M (bestG M t x)).JobLeft - (1 : Int))))) (bestG M t x)).JobDeadline) ∧ (((grantJ M last t).Left = (at' ownE.zero (M.set (bestG M t x).toNat (Own.mk (at' ownE.zero M (bestG M t x)).PartE (at' ownE.zero M (bestG M t x)).PartP (at' ownE.zero M (bestG M t x)).JobPart (at' ownE.zero M (bestG M t x)).JobIndex (at' ownE.zero M (bestG M t x)).JobRelease (at' ownE.zero M (bestG M t x)).JobDeadline (IntKind.i64.wrap ((at' ownE.zero M (bestG M t x)).JobLeft - (1 : Int))))) (bestG M t x)).JobLeft) ∧ True))))) ∧ ((grantIs M last t = true) ∧ True)) ∧ True) ∧ ((True ∧ ((grantLast last t = t) ∧ ((grantServed M last served t = IntKind.i64.wrap (served + (1 : Int))) ∧ ((grantIdle M last idle t = idle) ∧ True)))) ∧ ((grantM M last t = M.set (bestG M t x).toNat (Own.mk (at' ownE.zero M (bestG M t x)).PartE (at' ownE.zero M (bestG M t x)).PartP (at' ownE.zero M (bestG M t x)).JobPart (at' ownE.zero M (bestG M t x)).JobIndex (at' ownE.zero M (bestG M t x)).JobRelease (at' ownE.zero M (bestG M t x)).JobDeadline (IntKind.i64.wrap ((at' ownE.zero M (bestG M t x)).JobLeft - (1 : Int))))) ∧ True)))) | false => False) | false => False) | false => False) | false => False)))))))
theorem grantCVc (M : List Own) (last served idle t : Int) : fnX X25 (oneLoop 6 { σ := Nat, st := fun S x => ((S.keep [0, 1, 4, 5, 24]).int 25 x).int 6 (bestG M t x), inv := fun _ x => x ≤ M.length, m := fun x => M.length - x }) Try.f22 [.ptr 0 0, .raw (.int .i64 t)] [.cells [.own 1, .raw (.int .i64 last), .raw (.int .i64 served), .raw (.int .i64 idle)] 82, .vec 7 M 84] (ends [.cells [.own 1, .raw (.int .i64 last), .raw (.int .i64 served), .raw (.int .i64 idle)] 82, .vec 7 M 84] ⟨some (.tup [.agg [.raw (.int .i64 (grantJ M last t).Part), .raw (.int .i64 (grantJ M last t).Index), .raw (.int .i64 (grantJ M last t).Release), .raw (.int .i64 (grantJ M last t).Deadline), .raw (.int .i64 (grantJ M last t).Left)], .raw (.bool (grantIs M last t))]), [(0, some (.cells [.own 1, .raw (.int .i64 (grantLast last t)), .raw (.int .i64 (grantServed M last served t)), .raw (.int .i64 (grantIdle M last idle t))] 82)), (1, some (.vec 7 (grantM M last t) 84))]⟩) = grantCText M last served idle t := by kernel_rfl
set_option maxHeartbeats 1000000 in
set_option maxRecDepth 20000 in
theorem grantCHolds (M : List Own) (last served idle t : Int) (hp : (∃ b, RowOk b M) ∧ 0 ≤ served ∧ served ≤ 1099511627776 ∧ 0 ≤ idle ∧ idle ≤ 1099511627776) : grantCText M last served idle t := by
  unfold grantCText
  obtain ⟨⟨b, hR⟩, hs0, hs1, hi0, hi1⟩ := hp
  have hl8 := hR.len
  cases hs : slotOk last t
  · have e1 : grantJ M last t = ⟨0, 0, 0, 0, 0⟩ := by unfold grantJ; rw [hs]; rfl
    have e2 : grantIs M last t = false := by unfold grantIs; rw [hs]; rfl
    have e3 : grantLast last t = last := by unfold grantLast; rw [hs]; rfl
    have e4 : grantServed M last served t = served := by unfold grantServed; rw [hs]; rfl
    have e5 : grantIdle M last idle t = idle := by unfold grantIdle; rw [hs]; rfl
    have e6 : grantM M last t = M := by unfold grantM; rw [hs]; rfl
    rw [e1, e2, e3, e4, e5, e6]
    repeat' first | apply And.intro | exact True.intro | with_reducible rfl | exact rfl
  · have ht := (slotOk_iff.1 hs).2
    have e3 : grantLast last t = t := by unfold grantLast; rw [hs]; rfl
    rw [e3]
    refine ⟨⟨0, Nat.zero_le _, by repeat' first | apply And.intro | exact True.intro | with_reducible rfl | exact rfl⟩, ?_⟩
    intro x hx
    have hx : x ≤ M.length := hx
    obtain ⟨lo, hi⟩ := bestG_lo M t x
    by_cases h : x < M.length
    · have hwx := wrap_succ h (show M.length ≤ 140737488355328 by omega)
      have eb : bestG M t (x + 1) = bif decide ((at' ownE.zero M x).JobRelease > t) || (decide (bestG M t x ≥ 0) && ltJ (ownJ (at' ownE.zero M (bestG M t x))) (ownJ (at' ownE.zero M x))) then bestG M t x else x := rfl
      rw [dec_lt h, inb_nat h]
      by_cases c1 : (at' ownE.zero M x).JobRelease > t
      · rw [decide_eq_true c1, Bool.true_or, cond_true] at eb
        rw [decide_eq_true c1]
        refine ⟨x + 1, h, by omega, ?_⟩
        repeat' first | exact hwx.symm | exact eb | apply And.intro | exact True.intro | with_reducible rfl | exact rfl
      · rw [decide_eq_false c1, Bool.false_or] at eb
        rw [decide_eq_false c1]
        by_cases c2 : bestG M t x ≥ 0
        · rw [decide_eq_true c2, Bool.true_and] at eb
          have hin : inb (bestG M t x) M.length = true := by
            unfold inb
            rw [decide_eq_true c2, decide_eq_true (show bestG M t x < (M.length : Int) by omega)]; rfl
          rw [decide_eq_true c2, hin]
          cases c3 : ltJ (ownJ (at' ownE.zero M (bestG M t x))) (ownJ (at' ownE.zero M x))
          · rw [c3, cond_false] at eb
            unfold ltJ ownJ at c3
            rw [c3]
            refine ⟨x + 1, h, by omega, ?_⟩
            repeat' first | exact hwx.symm | exact eb | apply And.intro | exact True.intro | with_reducible rfl | exact rfl
          · rw [c3, cond_true] at eb
            unfold ltJ ownJ at c3
            rw [c3]
            refine ⟨x + 1, h, by omega, ?_⟩
            repeat' first | exact hwx.symm | exact eb | apply And.intro | exact True.intro | with_reducible rfl | exact rfl
        · rw [decide_eq_false c2, Bool.false_and, cond_false] at eb
          rw [decide_eq_false c2]
          refine ⟨x + 1, h, by omega, ?_⟩
          repeat' first | exact hwx.symm | exact eb | apply And.intro | exact True.intro | with_reducible rfl | exact rfl
    · obtain rfl : x = M.length := by omega
      have eB : bestM M t = bestG M t M.length := rfl
      have hrel := bestG_rel M t M.length
      rw [dec_ge (Nat.le_refl _)]
      rw [← eB] at lo hi hrel ⊢
      by_cases c : bestM M t < 0
      · have d0 : decide (bestM M t ≥ 0) = false := decide_eq_false (by omega)
        have e1 : grantJ M last t = ⟨0, 0, 0, 0, 0⟩ := by unfold grantJ; rw [d0, Bool.and_false]; rfl
        have e2 : grantIs M last t = false := by unfold grantIs; rw [d0, Bool.and_false]
        have e4 : grantServed M last served t = served := by unfold grantServed; rw [d0, Bool.and_false]; rfl
        have e5 : grantIdle M last idle t = idle + 1 := by unfold grantIdle; rw [hs, d0]; rfl
        have e6 : grantM M last t = M := by unfold grantM; rw [d0, Bool.and_false]; rfl
        rw [decide_eq_true c, e1, e2, e4, e5, e6, wrap_id (n := idle + 1) (by omega) (by omega)]
        repeat' first | apply And.intro | exact True.intro | with_reducible rfl | exact rfl
      · have d0 : decide (bestM M t ≥ 0) = true := decide_eq_true (by omega)
        obtain ⟨k, hk⟩ := Int.eq_ofNat_of_zero_le (show 0 ≤ bestM M t by omega)
        have hkl : k < M.length := by omega
        have hq := hR.all k hkl
        have hr := hrel (by omega)
        have l1 := hq.l1
        have le := hq.le
        have ep := hq.ep
        have pp := hq.p
        have r0 := hq.rel0 hR.t0
        have hd := hq.dead
        have ix := hq.idx
        have iy := hq.idx_le hR.t0
        have e1 : grantJ M last t = ownJ (decO (at' ownE.zero M (bestM M t))) := by unfold grantJ; rw [hs, d0]; rfl
        have e2 : grantIs M last t = true := by unfold grantIs; rw [hs, d0]; rfl
        have e4 : grantServed M last served t = served + 1 := by unfold grantServed; rw [hs, d0]; rfl
        have e5 : grantIdle M last idle t = idle := by unfold grantIdle; rw [hs, d0]; rfl
        have e6 : grantM M last t = M.set (bestM M t).toNat (afterO (at' ownE.zero M (bestM M t))) := by unfold grantM; rw [hs, d0]; rfl
        rw [decide_eq_false c, e1, e2, e4, e5, e6, hk, Int.toNat_natCast, at_nat hkl, inb_nat hkl]
        rw [hk, at_nat hkl] at hr
        have ew : IntKind.i64.wrap (M[k].JobLeft - 1) = M[k].JobLeft - 1 := wrap_id (by omega) (by omega)
        have ew2 : IntKind.i64.wrap (served + 1) = served + 1 := wrap_id (by omega) (by omega)
        rw [ew, ew2, show (⟨M[k].PartE, M[k].PartP, M[k].JobPart, M[k].JobIndex, M[k].JobRelease, M[k].JobDeadline, M[k].JobLeft - 1⟩ : Own) = decO M[k] from rfl, List.length_set, inb_nat hkl, at_nat (show k < (M.set k (decO M[k])).length by rw [List.length_set]; exact hkl), List.getElem_set_self, List.set_set]
        have e7 : afterO M[k] = bif (decO M[k]).JobLeft == 0 then nextO (decO M[k]) else decO M[k] := rfl
        rw [e7]
        cases hz : (decO M[k]).JobLeft == 0
        · rw [cond_false]
          repeat' first | apply And.intro | exact True.intro | with_reducible rfl | exact rfl
        · rw [cond_true, decide_eq_true (⟨by omega, by omega, ix, iy, by show 0 ≤ M[k].JobDeadline; omega, by show M[k].JobDeadline ≤ _; omega, by show 0 ≤ M[k].PartP; omega, pp⟩ : 0 ≤ (k : Int) ∧ (k : Int) < (M.length : Int) ∧ 0 ≤ (decO M[k]).JobIndex ∧ (decO M[k]).JobIndex ≤ 1099512676352 ∧ 0 ≤ (decO M[k]).JobDeadline ∧ (decO M[k]).JobDeadline ≤ 1099513724928 ∧ 0 ≤ (decO M[k]).PartP ∧ (decO M[k]).PartP ≤ 1048576)]
          repeat' first | apply And.intro | exact True.intro | with_reducible rfl | exact rfl
noncomputable def grantCCon : Con T O := fun args cs => match args, cs with
  | [.ptr 0 0, .raw (.int .i64 t)], [.cells [.own 1, .raw (.int .i64 last), .raw (.int .i64 served), .raw (.int .i64 idle)] 82, .vec 7 M 84] => chk (decide ((∃ b, RowOk b M) ∧ 0 ≤ served ∧ served ≤ 1099511627776 ∧ 0 ≤ idle ∧ idle ≤ 1099511627776)) (.ret ⟨some (.tup [.agg [.raw (.int .i64 (grantJ M last t).Part), .raw (.int .i64 (grantJ M last t).Index), .raw (.int .i64 (grantJ M last t).Release), .raw (.int .i64 (grantJ M last t).Deadline), .raw (.int .i64 (grantJ M last t).Left)], .raw (.bool (grantIs M last t))]), [(0, some (.cells [.own 1, .raw (.int .i64 (grantLast last t)), .raw (.int .i64 (grantServed M last served t)), .raw (.int .i64 (grantIdle M last idle t))] 82)), (1, some (.vec 7 (grantM M last t) 84))]⟩)
  | _, _ => .fail
theorem grantCOk : ConOk R Try.prog 22 grantCCon := con_of_fn R (X25) (TabOk.con R X25Ok) mixed Try.call22 Try.func22 grantCCon (by
  intro args cs K h
  unfold grantCCon at h
  split at h
  · rename_i t last served idle M
    rw [Tree.holds_chk] at h
    obtain ⟨hp, h⟩ := h
    refine ⟨oneLoop 6 { σ := Nat, st := fun S x => ((S.keep [0, 1, 4, 5, 24]).int 25 x).int 6 (bestG M t x), inv := fun _ x => x ≤ M.length, m := fun x => M.length - x }, _, fun v S hv => ⟨_, h, hv⟩, ?_⟩
    rw [grantCVc M last served idle t]
    exact grantCHolds M last served idle t (of_decide_eq_true hp)
  · exact h.elim)
noncomputable def tab26 : Tab T O := (19, newCCon) :: (21, missedCCon) :: (22, grantCCon) :: tab25
theorem tabOk26 : TabOk R Try.prog tab26 := TabOk.cons R newCOk <| TabOk.cons R missedCOk <| TabOk.cons R grantCOk <| tabOk25
noncomputable def X26 : Ctx T O := { X0 with con := conOf tab26 }
theorem X26Ok : TabOk R X26.P tab26 := tabOk26
end Go.Proofs.Ytmnnjclnldaejaa

namespace Go.Proofs.Ytmnnjclnldaejaa
open Go.Sx Go.Proofs Classical
/-! ### slices.insertionSortCmpFunc[regatta/api.Job] -/
def insJText (L : List Job)  (a b : Int) : Prop := ((∃ x : Nat × List Job, (((x.snd = rangeS ltJ a.toNat (min (a.toNat + (1 : Nat) + x.fst) b.toNat) L) ∧ (a.toNat + x.fst ≤ L.length)) ∧ ((True ∧ ((a = a) ∧ ((b = b) ∧ (True ∧ ((a + (1 : Int) + (↑x.fst : Int) = IntKind.i64.wrap (a + (1 : Int))) ∧ True))))) ∧ ((x.snd = L) ∧ True)))) ∧ (∀ x : Nat × List Job, (((x.snd = rangeS ltJ a.toNat (min (a.toNat + (1 : Nat) + x.fst) b.toNat) L) ∧ (a.toNat + x.fst ≤ L.length)) → (match (decide (a + (1 : Int) + (↑x.fst : Int) < b)) with | true => ((∃ x1 : Nat × List Job, (((a.toNat + x1.fst ≤ (a + (1 : Int) + (↑x.fst : Int)).toNat) ∧ ((x1.snd.length = L.length) ∧ (insD jobE.zero ltJ a.toNat x1.fst x1.snd = insD jobE.zero ltJ a.toNat ((a + (1 : Int) + (↑x.fst : Int)).toNat - a.toNat) x.snd))) ∧ ((True ∧ ((a = a) ∧ ((b = b) ∧ (True ∧ ((a + (1 : Int) + (↑x.fst : Int) = a + (1 : Int) + (↑x.fst : Int)) ∧ ((a + (↑x1.fst : Int) = a + (1 : Int) + (↑x.fst : Int)) ∧ True)))))) ∧ ((x1.snd = x.snd) ∧ True)))) ∧ (∀ x1 : Nat × List Job, (((a.toNat + x1.fst ≤ (a + (1 : Int) + (↑x.fst : Int)).toNat) ∧ ((x1.snd.length = L.length) ∧ (insD jobE.zero ltJ a.toNat x1.fst x1.snd = insD jobE.zero ltJ a.toNat ((a + (1 : Int) + (↑x.fst : Int)).toNat - a.toNat) x.snd))) → (match (decide (a + (↑x1.fst : Int) > a)) with | true => (match (inb (a + (↑x1.fst : Int)) x1.snd.length) with | true => (match (inb (a + (↑x1.fst : Int)) x1.snd.length) with | true => (match (inb (IntKind.i64.wrap (a + (↑x1.fst : Int) - (1 : Int))) x1.snd.length) with | true => (match (inb (IntKind.i64.wrap (a + (↑x1.fst : Int) - (1 : Int))) x1.snd.length) with | true => (match (decide (cmpJ (at' jobE.zero x1.snd (a + (↑x1.fst : Int))) (at' jobE.zero x1.snd (IntKind.i64.wrap (a + (↑x1.fst : Int) - (1 : Int)))) < (0 : Int))) with | true => (match (inb (IntKind.i64.wrap (a + (↑x1.fst : Int) - (1 : Int))) x1.snd.length) with | true => (match (inb (IntKind.i64.wrap (a + (↑x1.fst : Int) - (1 : Int))) x1.snd.length) with | true => (match (inb (a + (↑x1.fst : Int)) x1.snd.length) with | true => (match (inb (a + (↑x1.fst : Int)) x1.snd.length) with | true => (match (inb (a + (↑x1.fst : Int)) x1.snd.length) with | true => (match (inb (a + (↑x1.fst : Int)) x1.snd.length) with | true => (match (inb (IntKind.i64.wrap (a + (↑x1.fst : Int) - (1 : Int))) (x1.snd.set (a + (↑x1.fst : Int)).toNat (at' jobE.zero x1.snd (IntKind.i64.wrap (a + (↑x1.fst : Int) - (1 : Int))))).length) with | true => (match (inb (IntKind.i64.wrap (a + (↑x1.fst : Int) - (1 : Int))) (x1.snd.set (a + (↑x1.fst : Int)).toNat (at' jobE.zero x1.snd (IntKind.i64.wrap (a + (↑x1.fst : Int) - (1 : Int))))).length) with | true => (∃ x' : Nat × List Job, (((a.toNat + x'.fst ≤ (a + (1 : Int) + (↑x.fst : Int)).toNat) ∧ ((x'.snd.length = L.length) ∧ (insD jobE.zero ltJ a.toNat x'.fst x'.snd = insD jobE.zero ltJ a.toNat ((a + (1 : Int) + (↑x.fst : Int)).toNat - a.toNat) x.snd))) ∧ ((x'.fst < x1.fst) ∧ ((True ∧ ((a = a) ∧ ((b = b) ∧ (True ∧ ((a + (1 : Int) + (↑x.fst : Int) = a + (1 : Int) + (↑x.fst : Int)) ∧ ((a + (↑x'.fst : Int) = IntKind.i64.wrap (a + (↑x1.fst : Int) - (1 : Int))) ∧ True)))))) ∧ ((x'.snd = (x1.snd.set (a + (↑x1.fst : Int)).toNat (at' jobE.zero x1.snd (IntKind.i64.wrap (a + (↑x1.fst : Int) - (1 : Int))))).set (IntKind.i64.wrap (a + (↑x1.fst : Int) - (1 : Int))).toNat (at' jobE.zero x1.snd (a + (↑x1.fst : Int)))) ∧ True))))) | false => False) | false => False) | false => False) | false => False) | false => False) | false => False) | false => False) | false => False) | false => (∃ x' : Nat × List Job, (((x'.snd = rangeS ltJ a.toNat (min (a.toNat + (1 : Nat) + x'.fst) b.toNat) L) ∧ (a.toNat + x'.fst ≤ L.length)) ∧ ((L.length + (1 : Nat) - x'.fst < L.length + (1 : Nat) - x.fst) ∧ ((True ∧ ((a = a) ∧ ((b = b) ∧ (True ∧ ((a + (1 : Int) + (↑x'.fst : Int) = IntKind.i64.wrap (a + (1 : Int) + (↑x.fst : Int) + (1 : Int))) ∧ True))))) ∧ ((x'.snd = x1.snd) ∧ True)))))) | false => False) | false => False) | false => False) | false => False) | false => (∃ x' : Nat × List Job, (((x'.snd = rangeS ltJ a.toNat (min (a.toNat + (1 : Nat) + x'.fst) b.toNat) L) ∧ (a.toNat + x'.fst ≤ L.length)) ∧ ((L.length + (1 : Nat) - x'.fst < L.length + (1 : Nat) - x.fst) ∧ ((True ∧ ((a = a) ∧ ((b = b) ∧ (True ∧ ((a + (1 : Int) + (↑x'.fst : Int) = IntKind.i64.wrap (a + (1 : Int) + (↑x.fst : Int) + (1 : Int))) ∧ True))))) ∧ ((x'.snd = x1.snd) ∧ True))))))))) | false => ((True ∧ True) ∧ ((rangeS ltJ a.toNat b.toNat L = x.snd) ∧ True))))))
theorem insJVc (L : List Job)  (a b : Int) : fnX X26 (annOf [(1, { σ := Nat × List Job, st := fun S x => ((S.keep [0, 1, 2, 3]).int 8 (a + 1 + x.1)).at' 0 (.vec 4 x.2 52), inv := fun _ x => x.2 = rangeS (ltJ) a.toNat (min (a.toNat + 1 + x.1) b.toNat) L ∧ a.toNat + x.1 ≤ L.length, m := fun x => L.length + 1 - x.1 }), (4, { σ := Nat × List Job, st := fun S x => ((S.keep [0, 1, 2, 3, 8]).int 9 (a + x.1)).at' 0 (.vec 4 x.2 52), inv := fun S x => a.toNat + x.1 ≤ (S.gi 8).toNat ∧ x.2.length = L.length ∧ insD (jobE.zero) (ltJ) a.toNat x.1 x.2 = insD (jobE.zero) (ltJ) a.toNat ((S.gi 8).toNat - a.toNat) (S.gv 0 4), m := fun x => x.1 })] []) Try.f101 [.own 0, .raw (.int .i64 a), .raw (.int .i64 b), .fn 51 []] [.vec 4 L 52] (ends [.vec 4 L 52] ⟨some (.tup []), [(0, some (.vec 4 (rangeS (ltJ) a.toNat b.toNat L) 52))]⟩) = insJText L a b := by kernel_rfl
theorem insJHolds (L : List Job)  (a b : Int) (hp : 0 ≤ a ∧ a ≤ b ∧ b ≤ L.length ∧ L.length ≤ 10000 ∧ PreT (ltJ) (ltJ) (seg a.toNat b.toNat L)) : insJText L a b := by
  unfold insJText
  obtain ⟨p0, p1, p2, p3, p4⟩ := hp
  obtain ⟨a, rfl⟩ := Int.eq_ofNat_of_zero_le p0
  obtain ⟨b, rfl⟩ := Int.eq_ofNat_of_zero_le (Int.le_trans p0 p1)
  rw [Int.toNat_natCast, Int.toNat_natCast] at p4 ⊢
  have hw0 : (a : Int) + 1 + ((0 : Nat) : Int) = IntKind.i64.wrap ((a : Int) + 1) := by rw [wrap_id (by omega) (by omega)]; omega
  refine ⟨⟨(0, L), ⟨(rangeS_one ordJ (by omega) (by omega)).symm, by dsimp only; omega⟩, by repeat' first | exact hw0 | trivial | rfl | apply And.intro⟩, ?_⟩
  rintro ⟨x, Q⟩ ⟨h1, h2⟩
  dsimp only at h1 h2 ⊢
  by_cases c : a + 1 + x < b
  · rw [show decide ((a : Int) + 1 + (x : Int) < (b : Int)) = true from decide_eq_true (by omega), show ((a : Int) + 1 + (x : Int)).toNat = a + 1 + x by omega, show a + 1 + x - a = x + 1 by omega]
    rw [show min (a + 1 + x) b = a + (x + 1) by omega] at h1
    have hQ : Q.length = L.length := by rw [h1, rangeS_length (by omega) (by omega)]
    have hwx : (a : Int) + 1 + ((x + 1 : Nat) : Int) = IntKind.i64.wrap ((a : Int) + 1 + (x : Int) + 1) := by rw [wrap_id (by omega) (by omega)]; omega
    have fin : ∀ N, N = insD (jobE.zero) (ltJ) a (x + 1) Q → N = rangeS (ltJ) a (min (a + 1 + (x + 1)) b) L := by
      intro N e
      rw [show min (a + 1 + (x + 1)) b = a + (x + 1) + 1 by omega, e, h1]
      exact ins_step (jobE.zero) ordJ p4 (by omega) (by omega)
    have hs0 : (a : Int) + ((x + 1 : Nat) : Int) = (a : Int) + 1 + (x : Int) := by omega
    refine ⟨⟨(x + 1, Q), ⟨by dsimp only; omega, hQ, rfl⟩, by repeat' first | exact hs0 | trivial | rfl | apply And.intro⟩, ?_⟩
    rintro ⟨y, N⟩ ⟨k1, k2, k3⟩
    dsimp only at k1 k2 k3 ⊢
    cases y with
    | zero =>
      rw [show decide ((a : Int) + ((0 : Nat) : Int) > (a : Int)) = false from decide_eq_false (by omega)]
      refine ⟨(x + 1, N), ⟨fin N k3, by dsimp only; omega⟩, by dsimp only; omega, ?_⟩
      repeat' first | exact hwx | trivial | rfl | apply And.intro
    | succ w =>
      have hN : a + w + 1 < N.length := by omega
      rw [show (a : Int) + ((w + 1 : Nat) : Int) = ((a + w + 1 : Nat) : Int) by omega, show IntKind.i64.wrap (((a + w + 1 : Nat) : Int) - 1) = ((a + w : Nat) : Int) by rw [wrap_id (by omega) (by omega)]; omega,
        show decide (((a + w + 1 : Nat) : Int) > (a : Int)) = true from decide_eq_true (by omega), inb_nat hN, inb_nat (show a + w < N.length by omega), List.length_set, inb_nat (show a + w < N.length by omega)]
      rw [show decide (cmpJ (at' (jobE.zero) N ((a + w + 1 : Nat) : Int)) (at' (jobE.zero) N ((a + w : Nat) : Int)) < 0) = ltJ (at' (jobE.zero) N ((a + w + 1 : Nat) : Int)) (at' (jobE.zero) N ((a + w : Nat) : Int)) from rfl]
      simp only [insD] at k3
      cases ho : ltJ (at' (jobE.zero) N ((a + w + 1 : Nat) : Int)) (at' (jobE.zero) N ((a + w : Nat) : Int))
      · rw [ho, cond_false] at k3
        refine ⟨(x + 1, N), ⟨fin N k3, by dsimp only; omega⟩, by dsimp only; omega, ?_⟩
        repeat' first | exact hwx | trivial | rfl | apply And.intro
      · rw [ho, cond_true] at k3
        rw [Int.toNat_natCast, Int.toNat_natCast]
        have hy : (a : Int) + (w : Int) = ((a + w : Nat) : Int) := by omega
        refine ⟨(w, swp (jobE.zero) N (a + w + 1) (a + w)), ⟨by dsimp only; omega, by rw [swp_length]; exact k2, k3⟩, by dsimp only; omega, ?_⟩
        repeat' first | exact hy | trivial | rfl | apply And.intro
  · rw [show decide ((a : Int) + 1 + (x : Int) < (b : Int)) = false from decide_eq_false (by omega)]
    have e : rangeS (ltJ) a b L = Q := by rw [h1, show min (a + 1 + x) b = b by omega]
    repeat' first | exact e | trivial | rfl | apply And.intro
noncomputable def insJCon : Con T O := fun args cs => match args, cs with
  | [.own 0, .raw (.int .i64 a), .raw (.int .i64 b), .fn 51 []], [.vec 4 L 52] => chk (decide (0 ≤ a ∧ a ≤ b ∧ b ≤ L.length ∧ L.length ≤ 10000 ∧ PreT (ltJ) (ltJ) (seg a.toNat b.toNat L))) (.ret ⟨some (.tup []), [(0, some (.vec 4 (rangeS (ltJ) a.toNat b.toNat L) 52))]⟩)
  | _, _ => .fail
theorem insJOk : ConOk R Try.prog 101 insJCon := con_of_fn R (X26) (TabOk.con R X26Ok) mixed Try.call101 Try.func101 insJCon (by
  intro args cs K h
  unfold insJCon at h
  split at h
  · rename_i a b L
    rw [Tree.holds_chk] at h
    obtain ⟨hp, h⟩ := h
    refine ⟨annOf [(1, { σ := Nat × List Job, st := fun S x => ((S.keep [0, 1, 2, 3]).int 8 (a + 1 + x.1)).at' 0 (.vec 4 x.2 52), inv := fun _ x => x.2 = rangeS (ltJ) a.toNat (min (a.toNat + 1 + x.1) b.toNat) L ∧ a.toNat + x.1 ≤ L.length, m := fun x => L.length + 1 - x.1 }), (4, { σ := Nat × List Job, st := fun S x => ((S.keep [0, 1, 2, 3, 8]).int 9 (a + x.1)).at' 0 (.vec 4 x.2 52), inv := fun S x => a.toNat + x.1 ≤ (S.gi 8).toNat ∧ x.2.length = L.length ∧ insD (jobE.zero) (ltJ) a.toNat x.1 x.2 = insD (jobE.zero) (ltJ) a.toNat ((S.gi 8).toNat - a.toNat) (S.gv 0 4), m := fun x => x.1 })] [], _, fun v S hv => ⟨_, h, hv⟩, ?_⟩
    rw [insJVc L a b]
    exact insJHolds L a b (of_decide_eq_true hp)
  · exact h.elim)
/-! ### slices.swapRangeCmpFunc[regatta/api.Job] -/
def swrJText (L : List Job)  (a b n : Int) : Prop := ((∃ x : Nat, ((x.le n.toNat) ∧ ((True ∧ ((a = a) ∧ ((b = b) ∧ ((n = n) ∧ (((↑x : Int) = (0 : Int)) ∧ True))))) ∧ ((swpR jobE.zero a.toNat b.toNat x L = L) ∧ True)))) ∧ (∀ x : Nat, ((x.le n.toNat) → (match (decide ((↑x : Int) < n)) with | true => (match (inb (IntKind.i64.wrap (b + (↑x : Int))) (swpR jobE.zero a.toNat b.toNat x L).length) with | true => (match (inb (IntKind.i64.wrap (b + (↑x : Int))) (swpR jobE.zero a.toNat b.toNat x L).length) with | true => (match (inb (IntKind.i64.wrap (a + (↑x : Int))) (swpR jobE.zero a.toNat b.toNat x L).length) with | true => (match (inb (IntKind.i64.wrap (a + (↑x : Int))) (swpR jobE.zero a.toNat b.toNat x L).length) with | true => (match (inb (IntKind.i64.wrap (a + (↑x : Int))) (swpR jobE.zero a.toNat b.toNat x L).length) with | true => (match (inb (IntKind.i64.wrap (a + (↑x : Int))) (swpR jobE.zero a.toNat b.toNat x L).length) with | true => (match (inb (IntKind.i64.wrap (b + (↑x : Int))) ((swpR jobE.zero a.toNat b.toNat x L).set (IntKind.i64.wrap (a + (↑x : Int))).toNat (at' jobE.zero (swpR jobE.zero a.toNat b.toNat x L) (IntKind.i64.wrap (b + (↑x : Int))))).length) with | true => (match (inb (IntKind.i64.wrap (b + (↑x : Int))) ((swpR jobE.zero a.toNat b.toNat x L).set (IntKind.i64.wrap (a + (↑x : Int))).toNat (at' jobE.zero (swpR jobE.zero a.toNat b.toNat x L) (IntKind.i64.wrap (b + (↑x : Int))))).length) with | true => (∃ x' : Nat, ((x'.le n.toNat) ∧ ((n.toNat - x' < n.toNat - x) ∧ ((True ∧ ((a = a) ∧ ((b = b) ∧ ((n = n) ∧ (((↑x' : Int) = IntKind.i64.wrap ((↑x : Int) + (1 : Int))) ∧ True))))) ∧ ((swpR jobE.zero a.toNat b.toNat x' L = ((swpR jobE.zero a.toNat b.toNat x L).set (IntKind.i64.wrap (a + (↑x : Int))).toNat (at' jobE.zero (swpR jobE.zero a.toNat b.toNat x L) (IntKind.i64.wrap (b + (↑x : Int))))).set (IntKind.i64.wrap (b + (↑x : Int))).toNat (at' jobE.zero (swpR jobE.zero a.toNat b.toNat x L) (IntKind.i64.wrap (a + (↑x : Int))))) ∧ True))))) | false => False) | false => False) | false => False) | false => False) | false => False) | false => False) | false => False) | false => False) | false => ((True ∧ True) ∧ ((swpR jobE.zero a.toNat b.toNat n.toNat L = swpR jobE.zero a.toNat b.toNat x L) ∧ True))))))
theorem swrJVc (L : List Job)  (a b n : Int) : fnX X26 (oneLoop 1 { σ := Nat, st := fun S x => ((S.keep [0, 1, 2, 3]).int 10 x).at' 0 (.vec 4 (swpR (jobE.zero) a.toNat b.toNat x L) 52), inv := fun _ x => x ≤ n.toNat, m := fun x => n.toNat - x }) Try.f111 [.own 0, .raw (.int .i64 a), .raw (.int .i64 b), .raw (.int .i64 n), .fn 51 []] [.vec 4 L 52] (ends [.vec 4 L 52] ⟨some (.tup []), [(0, some (.vec 4 (swpR (jobE.zero) a.toNat b.toNat n.toNat L) 52))]⟩) = swrJText L a b n := by kernel_rfl
theorem swrJHolds (L : List Job)  (a b n : Int) (hp : 0 ≤ a ∧ 0 ≤ n ∧ a + n ≤ b ∧ b + n ≤ L.length ∧ L.length ≤ 10000) : swrJText L a b n := by
  unfold swrJText
  obtain ⟨p0, p1, p2, p3, p4⟩ := hp
  obtain ⟨a, rfl⟩ := Int.eq_ofNat_of_zero_le p0
  obtain ⟨n, rfl⟩ := Int.eq_ofNat_of_zero_le p1
  obtain ⟨b, rfl⟩ := Int.eq_ofNat_of_zero_le (show 0 ≤ b by omega)
  rw [Int.toNat_natCast, Int.toNat_natCast, Int.toNat_natCast]
  refine ⟨⟨0, Nat.zero_le _, by repeat' first | trivial | rfl | apply And.intro⟩, ?_⟩
  intro x hx
  by_cases c : x < n
  · have hl := swpR_length (jobE.zero) a b L x
    have hw : ((x + 1 : Nat) : Int) = IntKind.i64.wrap ((x : Int) + 1) := by rw [wrap_id (by omega) (by omega)]; omega
    rw [show decide ((x : Int) < (n : Int)) = true from decide_eq_true (by omega), show IntKind.i64.wrap ((a : Int) + (x : Int)) = ((a + x : Nat) : Int) by rw [wrap_id (by omega) (by omega)]; omega, show IntKind.i64.wrap ((b : Int) + (x : Int)) = ((b + x : Nat) : Int) by rw [wrap_id (by omega) (by omega)]; omega, List.length_set, hl, inb_nat (show a + x < L.length by omega), inb_nat (show b + x < L.length by omega), Int.toNat_natCast, Int.toNat_natCast]
    refine ⟨x + 1, c, by omega, ?_⟩
    repeat' first | exact hw | trivial | rfl | apply And.intro
  · have e : x = n := Nat.le_antisymm hx (by omega)
    subst e
    rw [show decide ((x : Int) < (x : Int)) = false from decide_eq_false (by omega)]
    repeat' first | trivial | rfl | apply And.intro
noncomputable def swrJCon : Con T O := fun args cs => match args, cs with
  | [.own 0, .raw (.int .i64 a), .raw (.int .i64 b), .raw (.int .i64 n), .fn 51 []], [.vec 4 L 52] => chk (decide (0 ≤ a ∧ 0 ≤ n ∧ a + n ≤ b ∧ b + n ≤ L.length ∧ L.length ≤ 10000)) (.ret ⟨some (.tup []), [(0, some (.vec 4 (swpR (jobE.zero) a.toNat b.toNat n.toNat L) 52))]⟩)
  | _, _ => .fail
theorem swrJOk : ConOk R Try.prog 111 swrJCon := con_of_fn R (X26) (TabOk.con R X26Ok) mixed Try.call111 Try.func111 swrJCon (by
  intro args cs K h
  unfold swrJCon at h
  split at h
  · rename_i a b n L
    rw [Tree.holds_chk] at h
    obtain ⟨hp, h⟩ := h
    refine ⟨oneLoop 1 { σ := Nat, st := fun S x => ((S.keep [0, 1, 2, 3]).int 10 x).at' 0 (.vec 4 (swpR (jobE.zero) a.toNat b.toNat x L) 52), inv := fun _ x => x ≤ n.toNat, m := fun x => n.toNat - x }, _, fun v S hv => ⟨_, h, hv⟩, ?_⟩
    rw [swrJVc L a b n]
    exact swrJHolds L a b n (of_decide_eq_true hp)
  · exact h.elim)
noncomputable def tab27 : Tab T O := (101, insJCon) :: (111, swrJCon) :: tab26
theorem tabOk27 : TabOk R Try.prog tab27 := TabOk.cons R insJOk <| TabOk.cons R swrJOk <| tabOk26
noncomputable def X27 : Ctx T O := { X0 with con := conOf tab27 }
theorem X27Ok : TabOk R X27.P tab27 := tabOk27
end Go.Proofs.Ytmnnjclnldaejaa

namespace Go.Proofs.Ytmnnjclnldaejaa
open Go.Sx Go.Proofs Classical
/-! ### slices.rotateCmpFunc[regatta/api.Job] -/
def rotJText (L : List Job)  (a m b : Int) : Prop := ((∃ x : Nat × Nat × List Job, ((((1 : Nat) ≤ x.fst) ∧ ((x.fst ≤ m.toNat) ∧ (((1 : Nat) ≤ x.snd.fst) ∧ ((m.toNat + x.snd.fst ≤ L.length) ∧ ((x.snd.snd.length = L.length) ∧ (rotR (m.toNat - x.fst) m.toNat (m.toNat + x.snd.fst) x.snd.snd = rotR a.toNat m.toNat b.toNat L)))))) ∧ ((True ∧ ((m = m) ∧ (True ∧ (((↑x.fst : Int) = IntKind.i64.wrap (m - a)) ∧ (((↑x.snd.fst : Int) = IntKind.i64.wrap (b - m)) ∧ True))))) ∧ ((x.snd.snd = L) ∧ True)))) ∧ (∀ x : Nat × Nat × List Job, ((((1 : Nat) ≤ x.fst) ∧ ((x.fst ≤ m.toNat) ∧ (((1 : Nat) ≤ x.snd.fst) ∧ ((m.toNat + x.snd.fst ≤ L.length) ∧ ((x.snd.snd.length = L.length) ∧ (rotR (m.toNat - x.fst) m.toNat (m.toNat + x.snd.fst) x.snd.snd = rotR a.toNat m.toNat b.toNat L)))))) → (match ((↑x.fst : Int) != (↑x.snd.fst : Int)) with | true => (match (decide ((↑x.fst : Int) > (↑x.snd.fst : Int))) with | true => (match (decide ((0 : Int) ≤ IntKind.i64.wrap (m - (↑x.fst : Int)) ∧ (0 : Int) ≤ (↑x.snd.fst : Int) ∧ IntKind.i64.wrap (m - (↑x.fst : Int)) + (↑x.snd.fst : Int) ≤ m ∧ m + (↑x.snd.fst : Int) ≤ (↑x.snd.snd.length : Int) ∧ x.snd.snd.length ≤ (10000 : Nat))) with | true => (∃ x' : Nat × Nat × List Job, ((((1 : Nat) ≤ x'.fst) ∧ ((x'.fst ≤ m.toNat) ∧ (((1 : Nat) ≤ x'.snd.fst) ∧ ((m.toNat + x'.snd.fst ≤ L.length) ∧ ((x'.snd.snd.length = L.length) ∧ (rotR (m.toNat - x'.fst) m.toNat (m.toNat + x'.snd.fst) x'.snd.snd = rotR a.toNat m.toNat b.toNat L)))))) ∧ ((x'.fst + x'.snd.fst < x.fst + x.snd.fst) ∧ ((True ∧ ((m = m) ∧ (True ∧ (((↑x'.fst : Int) = IntKind.i64.wrap ((↑x.fst : Int) - (↑x.snd.fst : Int))) ∧ (((↑x'.snd.fst : Int) = (↑x.snd.fst : Int)) ∧ True))))) ∧ ((x'.snd.snd = swpR jobE.zero (IntKind.i64.wrap (m - (↑x.fst : Int))).toNat m.toNat (↑x.snd.fst : Int).toNat x.snd.snd) ∧ True))))) | false => False) | false => (match (decide ((0 : Int) ≤ IntKind.i64.wrap (m - (↑x.fst : Int)) ∧ (0 : Int) ≤ (↑x.fst : Int) ∧ IntKind.i64.wrap (m - (↑x.fst : Int)) + (↑x.fst : Int) ≤ IntKind.i64.wrap (IntKind.i64.wrap (m + (↑x.snd.fst : Int)) - (↑x.fst : Int)) ∧ IntKind.i64.wrap (IntKind.i64.wrap (m + (↑x.snd.fst : Int)) - (↑x.fst : Int)) + (↑x.fst : Int) ≤ (↑x.snd.snd.length : Int) ∧ x.snd.snd.length ≤ (10000 : Nat))) with | true => (∃ x' : Nat × Nat × List Job, ((((1 : Nat) ≤ x'.fst) ∧ ((x'.fst ≤ m.toNat) ∧ (((1 : Nat) ≤ x'.snd.fst) ∧ ((m.toNat + x'.snd.fst ≤ L.length) ∧ ((x'.snd.snd.length = L.length) ∧ (rotR (m.toNat - x'.fst) m.toNat (m.toNat + x'.snd.fst) x'.snd.snd = rotR a.toNat m.toNat b.toNat L)))))) ∧ ((x'.fst + x'.snd.fst < x.fst + x.snd.fst) ∧ ((True ∧ ((m = m) ∧ (True ∧ (((↑x'.fst : Int) = (↑x.fst : Int)) ∧ (((↑x'.snd.fst : Int) = IntKind.i64.wrap ((↑x.snd.fst : Int) - (↑x.fst : Int))) ∧ True))))) ∧ ((x'.snd.snd = swpR jobE.zero (IntKind.i64.wrap (m - (↑x.fst : Int))).toNat (IntKind.i64.wrap (IntKind.i64.wrap (m + (↑x.snd.fst : Int)) - (↑x.fst : Int))).toNat (↑x.fst : Int).toNat x.snd.snd) ∧ True))))) | false => False)) | false => (match (decide ((0 : Int) ≤ IntKind.i64.wrap (m - (↑x.fst : Int)) ∧ (0 : Int) ≤ (↑x.fst : Int) ∧ IntKind.i64.wrap (m - (↑x.fst : Int)) + (↑x.fst : Int) ≤ m ∧ m + (↑x.fst : Int) ≤ (↑x.snd.snd.length : Int) ∧ x.snd.snd.length ≤ (10000 : Nat))) with | true => ((True ∧ True) ∧ ((rotR a.toNat m.toNat b.toNat L = swpR jobE.zero (IntKind.i64.wrap (m - (↑x.fst : Int))).toNat m.toNat (↑x.fst : Int).toNat x.snd.snd) ∧ True)) | false => False)))))
theorem rotJVc (L : List Job)  (a m b : Int) : fnX X27 (oneLoop 2 { σ := Nat × Nat × List Job, st := fun S x => (((S.keep [0, 2, 4]).int 10 x.1).int 11 x.2.1).at' 0 (.vec 4 x.2.2 52), inv := fun _ x => 1 ≤ x.1 ∧ x.1 ≤ m.toNat ∧ 1 ≤ x.2.1 ∧ m.toNat + x.2.1 ≤ L.length ∧ x.2.2.length = L.length ∧ rotR (m.toNat - x.1) m.toNat (m.toNat + x.2.1) x.2.2 = rotR a.toNat m.toNat b.toNat L, m := fun x => x.1 + x.2.1 }) Try.f107 [.own 0, .raw (.int .i64 a), .raw (.int .i64 m), .raw (.int .i64 b), .fn 51 []] [.vec 4 L 52] (ends [.vec 4 L 52] ⟨some (.tup []), [(0, some (.vec 4 (rotR a.toNat m.toNat b.toNat L) 52))]⟩) = rotJText L a m b := by kernel_rfl
theorem rotJHolds (L : List Job)  (a m b : Int) (hp : 0 ≤ a ∧ a < m ∧ m < b ∧ b ≤ L.length ∧ L.length ≤ 10000) : rotJText L a m b := by
  unfold rotJText
  obtain ⟨p0, p1, p2, p3, p4⟩ := hp
  obtain ⟨a, rfl⟩ := Int.eq_ofNat_of_zero_le p0
  obtain ⟨m, rfl⟩ := Int.eq_ofNat_of_zero_le (show 0 ≤ m by omega)
  obtain ⟨b, rfl⟩ := Int.eq_ofNat_of_zero_le (show 0 ≤ b by omega)
  rw [Int.toNat_natCast, Int.toNat_natCast, Int.toNat_natCast]
  have hw1 : ((m - a : Nat) : Int) = IntKind.i64.wrap ((m : Int) - (a : Int)) := by rw [wrap_id (by omega) (by omega)]; omega
  have hw2 : ((b - m : Nat) : Int) = IntKind.i64.wrap ((b : Int) - (m : Int)) := by rw [wrap_id (by omega) (by omega)]; omega
  refine ⟨⟨(m - a, b - m, L), ⟨by dsimp only; omega, by dsimp only; omega, by dsimp only; omega, by dsimp only; omega, rfl, ?_⟩, by repeat' first | exact hw1 | exact hw2 | trivial | rfl | apply And.intro⟩, ?_⟩
  · dsimp only
    rw [show m - (m - a) = a by omega, show m + (b - m) = b by omega]
  rintro ⟨i, j, D⟩ ⟨h1, h2, h3, h4, h5, h6⟩
  dsimp only at h1 h2 h3 h4 h5 h6 ⊢
  have e1 : IntKind.i64.wrap ((m : Int) - (i : Int)) = ((m - i : Nat) : Int) := by rw [wrap_id (by omega) (by omega)]; omega
  rw [e1, Int.toNat_natCast, Int.toNat_natCast]
  by_cases c : i = j
  · subst c
    rw [show ((i : Int) != (i : Int)) = false by simp, decide_eq_true (show (0 : Int) ≤ ((m - i : Nat) : Int) ∧ 0 ≤ (i : Int) ∧ ((m - i : Nat) : Int) + (i : Int) ≤ (m : Int) ∧ (m : Int) + (i : Int) ≤ (D.length : Int) ∧ D.length ≤ 10000 by omega)]
    have e : rotR a m b L = swpR (jobE.zero) (m - i) m i D := by rw [rot_same h2 (by omega)]; exact h6.symm
    repeat' first | exact e | trivial | rfl | apply And.intro
  · rw [show ((i : Int) != (j : Int)) = true by rw [bne_iff_ne]; omega]
    by_cases g : i > j
    · rw [show decide ((i : Int) > (j : Int)) = true from decide_eq_true (by omega), decide_eq_true (show (0 : Int) ≤ ((m - i : Nat) : Int) ∧ 0 ≤ (j : Int) ∧ ((m - i : Nat) : Int) + (j : Int) ≤ (m : Int) ∧ (m : Int) + (j : Int) ≤ (D.length : Int) ∧ D.length ≤ 10000 by omega), Int.toNat_natCast]
      have hw : ((i - j : Nat) : Int) = IntKind.i64.wrap ((i : Int) - (j : Int)) := by rw [wrap_id (by omega) (by omega)]; omega
      refine ⟨(i - j, j, swpR (jobE.zero) (m - i) m j D), ⟨by dsimp only; omega, by dsimp only; omega, h3, h4, by rw [swpR_length]; exact h5, ?_⟩, by dsimp only; omega, ?_⟩
      · rw [← h6]
        exact rot_more g h2 (by omega)
      · repeat' first | exact hw | trivial | rfl | apply And.intro
    · have e2 : IntKind.i64.wrap (IntKind.i64.wrap ((m : Int) + (j : Int)) - (i : Int)) = ((m + j - i : Nat) : Int) := by rw [wrap_id (n := (m : Int) + (j : Int)) (by omega) (by omega), wrap_id (by omega) (by omega)]; omega
      rw [show decide ((i : Int) > (j : Int)) = false from decide_eq_false (by omega), e2, decide_eq_true (show (0 : Int) ≤ ((m - i : Nat) : Int) ∧ 0 ≤ (i : Int) ∧ ((m - i : Nat) : Int) + (i : Int) ≤ ((m + j - i : Nat) : Int) ∧ ((m + j - i : Nat) : Int) + (i : Int) ≤ (D.length : Int) ∧ D.length ≤ 10000 by omega), Int.toNat_natCast]
      have hw : ((j - i : Nat) : Int) = IntKind.i64.wrap ((j : Int) - (i : Int)) := by rw [wrap_id (by omega) (by omega)]; omega
      refine ⟨(i, j - i, swpR (jobE.zero) (m - i) (m + j - i) i D), ⟨h1, h2, by dsimp only; omega, by dsimp only; omega, by rw [swpR_length]; exact h5, ?_⟩, by dsimp only; omega, ?_⟩
      · rw [← h6]
        exact rot_less (by omega) h2 (by omega)
      · repeat' first | exact hw | trivial | rfl | apply And.intro
noncomputable def rotJCon : Con T O := fun args cs => match args, cs with
  | [.own 0, .raw (.int .i64 a), .raw (.int .i64 m), .raw (.int .i64 b), .fn 51 []], [.vec 4 L 52] => chk (decide (0 ≤ a ∧ a < m ∧ m < b ∧ b ≤ L.length ∧ L.length ≤ 10000)) (.ret ⟨some (.tup []), [(0, some (.vec 4 (rotR a.toNat m.toNat b.toNat L) 52))]⟩)
  | _, _ => .fail
theorem rotJOk : ConOk R Try.prog 107 rotJCon := con_of_fn R (X27) (TabOk.con R X27Ok) mixed Try.call107 Try.func107 rotJCon (by
  intro args cs K h
  unfold rotJCon at h
  split at h
  · rename_i a m b L
    rw [Tree.holds_chk] at h
    obtain ⟨hp, h⟩ := h
    refine ⟨oneLoop 2 { σ := Nat × Nat × List Job, st := fun S x => (((S.keep [0, 2, 4]).int 10 x.1).int 11 x.2.1).at' 0 (.vec 4 x.2.2 52), inv := fun _ x => 1 ≤ x.1 ∧ x.1 ≤ m.toNat ∧ 1 ≤ x.2.1 ∧ m.toNat + x.2.1 ≤ L.length ∧ x.2.2.length = L.length ∧ rotR (m.toNat - x.1) m.toNat (m.toNat + x.2.1) x.2.2 = rotR a.toNat m.toNat b.toNat L, m := fun x => x.1 + x.2.1 }, _, fun v S hv => ⟨_, h, hv⟩, ?_⟩
    rw [rotJVc L a m b]
    exact rotJHolds L a m b (of_decide_eq_true hp)
  · exact h.elim)
noncomputable def tab28 : Tab T O := (107, rotJCon) :: tab27
theorem tabOk28 : TabOk R Try.prog tab28 := TabOk.cons R rotJOk <| tabOk27
noncomputable def X28 : Ctx T O := { X0 with con := conOf tab28 }
theorem X28Ok : TabOk R X28.P tab28 := tabOk28
end Go.Proofs.Ytmnnjclnldaejaa
