/-
  Part of a proof over the seat Ytmnnjclnldaejaa: printed by a small program or typed by hand.
-/
import Derived.Test.YtmnnjclnldaejaaSupS23
import Derived.KernelRfl
namespace Go.Proofs.Ytmnnjclnldaejaa
open Go.Sx Go.Proofs Classical

def useQ (L : List Part) : Qt := bif checkL L then sumQ (L.map asW) else (0, 1)
def use14 (L : List Part) : Qt := bif checkL L then plusSum (L.map asW) else (0, 1)
theorem PartsOk.w {L : List Part} (h : PartsOk L) : WOk (L.map asW) := by
  intro w hw
  obtain ⟨q, hq, rfl⟩ := List.mem_map.1 hw
  exact h.2 q hq
theorem PartsOk.p {L : List Part} (h : PartsOk L) : Ones (L.map Part.P) := by
  intro w hw
  obtain ⟨q, hq, rfl⟩ := List.mem_map.1 hw
  have := h.2 q hq
  omega
/-- what is gone through of the row, while it may be -/
structure goneI (L : List Part) (x : Nat) : Prop where
  le : x ≤ L.length
  no : checkL L = false → x = 0
def sumG (p : Int) : Int → List Part → Int
  | s, [] => s
  | s, q :: l => sumG p (s + q.E * (p / q.P)) l
theorem sumG_add (p t : Int) : ∀ (l : List Part) (s : Int), sumG p (s + t) l = sumG p s l + t
  | [], _ => rfl
  | q :: l, s => by
    simp only [sumG]
    rw [show s + t + q.E * (p / q.P) = s + q.E * (p / q.P) + t by omega, sumG_add p t l]
def sumEP (p : Int) (L : List Part) : Int := sumG p 0 L
def leastP (L : List Part) : Int := minL (L.map Part.P)
theorem minG_pos : ∀ (l : List Int) (m : Int), 1 ≤ m → (∀ n ∈ l, 1 ≤ n) → 1 ≤ minG m l
  | [], _, h, _ => h
  | a :: l, m, h, hl => minG_pos l (min m a) (by have := hl a (List.mem_cons_self ..); omega) fun n hn => hl n (List.mem_cons_of_mem _ hn)
theorem leastP_pos {L : List Part} (h : PartsOk L) : 1 ≤ leastP L := by
  have hl := h.1.1
  cases L with
  | nil => simp at hl
  | cons q l =>
    have hO := h.p
    exact minG_pos _ _ (hO q.P (List.mem_cons_self ..)).1 fun n hn => (hO n (List.mem_cons_of_mem _ hn)).1
theorem lcmG_pos : ∀ (l : List Int) (m p : Int), 1 ≤ m → Ones l → lcmG m l = some p → 1 ≤ p
  | [], m, p, h, _, e => by
    simp only [lcmG, Option.some.injEq] at e
    omega
  | n :: l, m, p, h, hO, e => by
    rw [lcmG_cons] at e
    have o1 := (hO n (List.mem_cons_self ..)).1
    have g1 := gcdI_pos (a := m) o1
    have g2 := gcdI_le (b := n) h
    have q1 : 1 ≤ m / gcdI m n := (Int.le_ediv_iff_mul_le (by omega)).2 (by omega)
    have p1 : 1 * 1 ≤ m / gcdI m n * n := Int.mul_le_mul q1 o1 (by omega) (by omega)
    by_cases hm : m / gcdI m n * n ≤ 9223372036854775807
    · rw [decide_eq_true hm, cond_true] at e
      exact lcmG_pos l _ p (by omega) (fun k hk => hO k (List.mem_cons_of_mem _ hk)) e
    · rw [decide_eq_false hm, cond_false] at e
      cases e
theorem share_le {e p a : Int} (h1 : 1 ≤ e) (h2 : e ≤ p) (ha : 0 ≤ a) : 0 ≤ e * (a / p) ∧ e * (a / p) ≤ a ∧ 0 ≤ a / p ∧ a / p ≤ a := by
  have q0 : 0 ≤ a / p := Int.ediv_nonneg ha (by omega)
  have q1 : a / p ≤ a := Int.ediv_le_self _ ha
  have q2 : e * (a / p) ≤ p * (a / p) := Int.mul_le_mul_of_nonneg_right h2 q0
  have q3 := Int.mul_ediv_self_le (x := a) (k := p) (by omega)
  exact ⟨Int.mul_nonneg (by omega) q0, by omega, q0, q1⟩
theorem useQ_ok {L : List Part} (h : PartsOk L) : isR (lim (sumQ (L.map asW)).1) (lim (sumQ (L.map asW)).2) ∧ small (lim (sumQ (L.map asW)).1) ∧ small (lim (sumQ (L.map asW)).2) := sumQ_ok h.w (by rw [List.length_map]; have := h.1.2; omega)
theorem qv_lim (q : Qt) : qv (lim q.1) (lim q.2) = q := by unfold qv; rw [nv_lim, nv_lim]
/-- what is asked of the sums -/
def quotaQ (L : List Part) : Bool := decide (cmpQ (sumQ (L.map asW)) (1, 1) > 0)
def weightR (L : List Part) : Weight × Int :=
  bif checkL L then (match lcmG 1 (L.map Part.P) with
    | none => (⟨0, 0⟩, 16)
    | some p => bif decide (p > 1048576) then (⟨0, 0⟩, 16) else bif quotaQ L then (⟨0, 0⟩, 18) else (⟨min (sumEP p L + p / leastP L) p, p⟩, 0))
  else (⟨0, 0⟩, 1)
def weight14 (L : List Part) : Weight × Int :=
  bif checkL L then (match lcmG 1 (L.map Part.P) with
    | none => (⟨0, 0⟩, 16)
    | some p => bif decide (p > 1048576) then (⟨0, 0⟩, 16) else bif decide (sumEP p L > p) then (⟨0, 0⟩, 18) else (⟨min (sumEP p L + p / leastP L) p, p⟩, 0))
  else (⟨0, 0⟩, 1)


/-- the sum and the least so far -/
structure loop14I (L : List Part) (p s m : Int) (x : Nat) : Prop where
  le : x ≤ L.length
  s0 : 0 ≤ s
  s1 : s ≤ (x : Int) * 1048576
  sum : sumEP p L = sumG p s (L.drop x)
  least : leastP L = minG m ((L.drop x).map Part.P)
theorem loop14I.init {L : List Part} {p : Int} (h : PartsOk L) : loop14I L p 0 (at' partE.zero L 0).P 0 := by
  refine ⟨Nat.zero_le _, by decide, by decide, rfl, ?_⟩
  have hl := h.1.1
  cases L with
  | nil => simp at hl
  | cons q l =>
    show minG q.P (l.map Part.P) = minG (min q.P q.P) (l.map Part.P)
    rw [Int.min_self]
theorem loop14I.step {L : List Part} {p s m : Int} {x : Nat} (h : loop14I L p s m x) (hP : PartsOk L) (h0 : 0 ≤ p) (h1 : p ≤ 1048576) (hx : x < L.length) : loop14I L p (s + L[x].E * (p / L[x].P)) (min m L[x].P) (x + 1) := by
  obtain ⟨o1, o2, o3⟩ := hP.2 _ (List.getElem_mem hx)
  obtain ⟨t0, t1, _, _⟩ := share_le o1 o2 h0
  have a1 := h.s0
  have a2 := h.s1
  have a3 := h.sum
  have a4 := h.least
  rw [List.drop_eq_getElem_cons hx] at a3 a4
  exact ⟨hx, by omega, by rw [Int.natCast_add, Int.add_mul]; omega, a3, a4⟩

/-! ### regatta/super.Use -/
def supUseText (L : List Part) : Prop := (match (decide (L.length ≤ (100000 : Nat))) with | true => (match (!checkL L) with | true => (((True ∧ (True ∧ True)) ∧ True) ∧ ((L = L) ∧ ((lim (useQ L).fst = lim (Int.toNat (0 : Int))) ∧ ((lim (useQ L).snd = lim (1 : Nat)) ∧ True)))) | false => (match (decide (L.length ≤ (100000 : Nat))) with | true => (match (decide (WOk (List.map asW L) ∧ (List.map asW L).length ≤ (64 : Nat))) with | true => (((True ∧ (True ∧ True)) ∧ True) ∧ ((L = L) ∧ ((lim (useQ L).fst = lim (sumQ (List.map asW L)).fst) ∧ ((lim (useQ L).snd = lim (sumQ (List.map asW L)).snd) ∧ True)))) | false => False) | false => False)) | false => False)
theorem supUseVc (L : List Part) : fnX X23 (noAnn) Try.f34 [.own 0] [.ro 3 L] (ends [.ro 3 L] ⟨some (.agg [.own 1, .own 2]), [(1, some (.ro 2 (lim (useQ L).1))), (2, some (.ro 2 (lim (useQ L).2)))]⟩) = supUseText L := by kernel_rfl
theorem supUseHolds (L : List Part) (hp : L.length ≤ 100000) : supUseText L := by
  unfold supUseText
  rw [decide_eq_true hp]
  by_cases hc : checkL L = true
  · have hP := checkL_iff.1 hc
    have e : useQ L = sumQ (L.map asW) := by unfold useQ; rw [hc]; rfl
    rw [hc, e, decide_eq_true (⟨hP.w, by rw [List.length_map]; have := hP.1.2; omega⟩ : WOk (L.map asW) ∧ (L.map asW).length ≤ 64)]
    repeat' first | trivial | rfl | apply And.intro
  · have hc : checkL L = false := by simpa using hc
    have e : useQ L = (0, 1) := by unfold useQ; rw [hc]; rfl
    rw [hc, e]
    repeat' first | trivial | rfl | apply And.intro
noncomputable def supUseCon : Con T O := fun args cs => match args, cs with
  | [.own 0], [.ro 3 L] => chk (decide (L.length ≤ 100000)) (.ret ⟨some (.agg [.own 1, .own 2]), [(1, some (.ro 2 (lim (useQ L).1))), (2, some (.ro 2 (lim (useQ L).2)))]⟩)
  | _, _ => .fail
theorem supUseOk : ConOk R Try.prog 34 supUseCon := con_of_fn R (X23) (TabOk.con R X23Ok) mixed Try.call34 Try.func34 supUseCon (by
  intro args cs K h
  unfold supUseCon at h
  split at h
  · rename_i L
    rw [Tree.holds_chk] at h
    obtain ⟨hp, h⟩ := h
    refine ⟨noAnn, _, fun v S hv => ⟨_, h, hv⟩, ?_⟩
    rw [supUseVc L]
    exact supUseHolds L (of_decide_eq_true hp)
  · exact h.elim)
/-! ### regatta/regattaref14.Use -/
def r14UseText (L : List Part) : Prop := (match (decide (L.length ≤ (100000 : Nat))) with | true => ((∃ x : Nat, ((goneI L x) ∧ ((True ∧ (True ∧ ((checkL L = checkL L) ∧ (True ∧ (((↑x : Int) = (0 : Int)) ∧ True))))) ∧ ((L = L) ∧ (((Value.slice none (0 : Nat) (0 : Nat) = Value.slice none (0 : Nat) (0 : Nat)) ∧ ((Value.slice none (0 : Nat) (0 : Nat) = Value.slice none (0 : Nat) (0 : Nat)) ∧ True)) ∧ ((List.map asW (List.take x L) = []) ∧ True)))))) ∧ (∀ x : Nat, ((goneI L x) → (match (decide ((↑x : Int) < (↑L.length : Int))) with | true => (match (checkL L) with | true => (match (inb (↑x : Int) L.length) with | true => (match (inb (↑x : Int) L.length) with | true => (match (inb (↑x : Int) L.length) with | true => (match (inb (↑x : Int) L.length) with | true => (match (roomy ((List.map asW (List.take x L)).length + (1 : Nat)) (nat_lit 16)) with | true => (∃ x' : Nat, ((goneI L x') ∧ ((L.length - x' < L.length - x) ∧ ((True ∧ (True ∧ ((checkL L = checkL L) ∧ (True ∧ (((↑x' : Int) = IntKind.i64.wrap ((↑x : Int) + (1 : Int))) ∧ True))))) ∧ ((L = L) ∧ (((Value.slice none (0 : Nat) (0 : Nat) = Value.slice none (0 : Nat) (0 : Nat)) ∧ ((Value.slice none (0 : Nat) (0 : Nat) = Value.slice none (0 : Nat) (0 : Nat)) ∧ True)) ∧ ((List.map asW (List.take x' L) = List.map asW (List.take x L) ++ [Weight.mk (at' partE.zero L (↑x : Int)).E (at' partE.zero L (↑x : Int)).P]) ∧ True))))))) | false => False) | false => False) | false => False) | false => False) | false => False) | false => (match (decide (WOk (List.map asW (List.take x L)) ∧ (List.map asW (List.take x L)).length ≤ (64 : Nat))) with | true => (((True ∧ (True ∧ True)) ∧ True) ∧ ((L = L) ∧ ((lim (use14 L).fst = lim (plusSum (List.map asW (List.take x L))).fst) ∧ ((lim (use14 L).snd = lim (plusSum (List.map asW (List.take x L))).snd) ∧ True)))) | false => False)) | false => (match (decide (WOk (List.map asW (List.take x L)) ∧ (List.map asW (List.take x L)).length ≤ (64 : Nat))) with | true => (((True ∧ (True ∧ True)) ∧ True) ∧ ((L = L) ∧ ((lim (use14 L).fst = lim (plusSum (List.map asW (List.take x L))).fst) ∧ ((lim (use14 L).snd = lim (plusSum (List.map asW (List.take x L))).snd) ∧ True)))) | false => False))))) | false => False)
theorem r14UseVc (L : List Part) : fnX X23 (oneLoop 4 { σ := Nat, st := fun S x => ((S.keep [0, 2, 3]).int 5 x).new 4 (.vec 5 ((L.take x).map asW) 29), inv := fun _ x => goneI L x, m := fun x => L.length - x }) Try.f14 [.own 0] [.ro 3 L] (ends [.ro 3 L] ⟨some (.agg [.own 1, .own 2]), [(1, some (.ro 2 (lim (use14 L).1))), (2, some (.ro 2 (lim (use14 L).2)))]⟩) = r14UseText L := by kernel_rfl
theorem r14UseHolds (L : List Part) (hp : L.length ≤ 100000) : r14UseText L := by
  unfold r14UseText
  have fin : ∀ x, (checkL L = true → x = L.length) → goneI L x → (WOk ((L.take x).map asW) ∧ ((L.take x).map asW).length ≤ 64) ∧ plusSum ((L.take x).map asW) = use14 L := by
    intro x h1 h2
    by_cases hc : checkL L = true
    · have hP := checkL_iff.1 hc
      rw [h1 hc, List.take_length]
      refine ⟨⟨hP.w, by rw [List.length_map]; have := hP.1.2; omega⟩, ?_⟩
      unfold use14
      rw [hc]
      rfl
    · have hc : checkL L = false := by simpa using hc
      rw [h2.no hc]
      refine ⟨⟨fun w hw => (by cases hw), by simp⟩, ?_⟩
      unfold use14
      rw [hc]
      rfl
  rw [decide_eq_true hp]
  refine ⟨⟨0, ⟨Nat.zero_le _, fun _ => rfl⟩, by repeat' first | trivial | rfl | apply And.intro⟩, ?_⟩
  intro x hi
  by_cases h : x < L.length
  · have hwx := wrap_succ h (show L.length ≤ 140737488355328 by omega)
    rw [dec_lt h]
    by_cases hc : checkL L = true
    · have hr : roomy (((L.take x).map asW).length + 1) 16 = true := by
        rw [List.length_map, List.length_take]
        exact decide_eq_true (by omega)
      have e : (L.take (x + 1)).map asW = (L.take x).map asW ++ [asW L[x]] := by rw [take_at h, List.map_append]; rfl
      rw [hc, inb_nat h, at_nat h, hr]
      refine ⟨x + 1, ⟨h, fun g => by rw [hc] at g; cases g⟩, by omega, ?_⟩
      repeat' first | exact hwx.symm | exact e | trivial | rfl | apply And.intro
    · obtain ⟨f1, f2⟩ := fin x (fun g => absurd g hc) hi
      have hc : checkL L = false := by simpa using hc
      rw [hc, decide_eq_true f1, f2]
      repeat' first | trivial | rfl | apply And.intro
  · obtain ⟨f1, f2⟩ := fin x (fun _ => by have := hi.le; omega) hi
    rw [dec_ge (by omega : L.length ≤ x), decide_eq_true f1, f2]
    repeat' first | trivial | rfl | apply And.intro
noncomputable def r14UseCon : Con T O := fun args cs => match args, cs with
  | [.own 0], [.ro 3 L] => chk (decide (L.length ≤ 100000)) (.ret ⟨some (.agg [.own 1, .own 2]), [(1, some (.ro 2 (lim (use14 L).1))), (2, some (.ro 2 (lim (use14 L).2)))]⟩)
  | _, _ => .fail
theorem r14UseOk : ConOk R Try.prog 14 r14UseCon := con_of_fn R (X23) (TabOk.con R X23Ok) mixed Try.call14 Try.func14 r14UseCon (by
  intro args cs K h
  unfold r14UseCon at h
  split at h
  · rename_i L
    rw [Tree.holds_chk] at h
    obtain ⟨hp, h⟩ := h
    refine ⟨oneLoop 4 { σ := Nat, st := fun S x => ((S.keep [0, 2, 3]).int 5 x).new 4 (.vec 5 ((L.take x).map asW) 29), inv := fun _ x => goneI L x, m := fun x => L.length - x }, _, fun v S hv => ⟨_, h, hv⟩, ?_⟩
    rw [r14UseVc L]
    exact r14UseHolds L (of_decide_eq_true hp)
  · exact h.elim)
/-! ### regatta/regattaref14.Weight -/
def r14WeightText (L : List Part) : Prop := (match (decide (L.length ≤ (100000 : Nat))) with | true => (match (!checkL L) with | true => ((((((weight14 L).fst.E = (0 : Int)) ∧ (((weight14 L).fst.P = (0 : Int)) ∧ True)) ∧ (((weight14 L).snd = (1 : Int)) ∧ True)) ∧ True) ∧ ((L = L) ∧ True)) | false => (match (decide (L.length ≤ (100000 : Nat))) with | true => (match (decide (Ones (List.map Part.P L) ∧ (List.map Part.P L).length ≤ (100000 : Nat))) with | true => (match (lcmE (lcmG (1 : Int) (List.map Part.P L)) != (0 : Int)) with | true => ((((((weight14 L).fst.E = (0 : Int)) ∧ (((weight14 L).fst.P = (0 : Int)) ∧ True)) ∧ (((weight14 L).snd = (16 : Int)) ∧ True)) ∧ True) ∧ ((L = L) ∧ True)) | false => (match (decide (lcmV (lcmG (1 : Int) (List.map Part.P L)) > (1048576 : Int))) with | true => ((((((weight14 L).fst.E = (0 : Int)) ∧ (((weight14 L).fst.P = (0 : Int)) ∧ True)) ∧ (((weight14 L).snd = (16 : Int)) ∧ True)) ∧ True) ∧ ((L = L) ∧ True)) | false => (match (inb (0 : Int) L.length) with | true => (match (inb (0 : Int) L.length) with | true => ((∃ x : (Int × Int) × Nat, ((loop14I L (lcmV (lcmG (1 : Int) (List.map Part.P L))) x.fst.fst x.fst.snd x.snd) ∧ ((True ∧ (True ∧ (((0 : Int) = (0 : Int)) ∧ ((lcmV (lcmG (1 : Int) (List.map Part.P L)) = lcmV (lcmG (1 : Int) (List.map Part.P L))) ∧ ((x.fst.fst = (0 : Int)) ∧ ((x.fst.snd = (at' partE.zero L (0 : Int)).P) ∧ (((↑x.snd : Int) = (0 : Int)) ∧ True))))))) ∧ ((L = L) ∧ ((((0 : Int) = (0 : Int)) ∧ (((0 : Int) = (0 : Int)) ∧ True)) ∧ True))))) ∧ (∀ x : (Int × Int) × Nat, ((loop14I L (lcmV (lcmG (1 : Int) (List.map Part.P L))) x.fst.fst x.fst.snd x.snd) → (match (decide ((↑x.snd : Int) < (↑L.length : Int))) with | true => (match (inb (↑x.snd : Int) L.length) with | true => (match (inb (↑x.snd : Int) L.length) with | true => (match (inb (↑x.snd : Int) L.length) with | true => (match (inb (↑x.snd : Int) L.length) with | true => (match ((at' partE.zero L (↑x.snd : Int)).P != (0 : Int)) with | true => (match (inb (↑x.snd : Int) L.length) with | true => (match (inb (↑x.snd : Int) L.length) with | true => (match (decide ((at' partE.zero L (↑x.snd : Int)).P < x.fst.snd)) with | true => (match (inb (↑x.snd : Int) L.length) with | true => (match (inb (↑x.snd : Int) L.length) with | true => (∃ x' : (Int × Int) × Nat, ((loop14I L (lcmV (lcmG (1 : Int) (List.map Part.P L))) x'.fst.fst x'.fst.snd x'.snd) ∧ ((L.length - x'.snd < L.length - x.snd) ∧ ((True ∧ (True ∧ (((0 : Int) = (0 : Int)) ∧ ((lcmV (lcmG (1 : Int) (List.map Part.P L)) = lcmV (lcmG (1 : Int) (List.map Part.P L))) ∧ ((x'.fst.fst = IntKind.i64.wrap (x.fst.fst + IntKind.i64.wrap ((at' partE.zero L (↑x.snd : Int)).E * IntKind.i64.wrap ((lcmV (lcmG (1 : Int) (List.map Part.P L))).tdiv (at' partE.zero L (↑x.snd : Int)).P)))) ∧ ((x'.fst.snd = (at' partE.zero L (↑x.snd : Int)).P) ∧ (((↑x'.snd : Int) = IntKind.i64.wrap ((↑x.snd : Int) + (1 : Int))) ∧ True))))))) ∧ ((L = L) ∧ ((((0 : Int) = (0 : Int)) ∧ (((0 : Int) = (0 : Int)) ∧ True)) ∧ True)))))) | false => False) | false => False) | false => (∃ x' : (Int × Int) × Nat, ((loop14I L (lcmV (lcmG (1 : Int) (List.map Part.P L))) x'.fst.fst x'.fst.snd x'.snd) ∧ ((L.length - x'.snd < L.length - x.snd) ∧ ((True ∧ (True ∧ (((0 : Int) = (0 : Int)) ∧ ((lcmV (lcmG (1 : Int) (List.map Part.P L)) = lcmV (lcmG (1 : Int) (List.map Part.P L))) ∧ ((x'.fst.fst = IntKind.i64.wrap (x.fst.fst + IntKind.i64.wrap ((at' partE.zero L (↑x.snd : Int)).E * IntKind.i64.wrap ((lcmV (lcmG (1 : Int) (List.map Part.P L))).tdiv (at' partE.zero L (↑x.snd : Int)).P)))) ∧ ((x'.fst.snd = x.fst.snd) ∧ (((↑x'.snd : Int) = IntKind.i64.wrap ((↑x.snd : Int) + (1 : Int))) ∧ True))))))) ∧ ((L = L) ∧ ((((0 : Int) = (0 : Int)) ∧ (((0 : Int) = (0 : Int)) ∧ True)) ∧ True))))))) | false => False) | false => False) | false => False) | false => False) | false => False) | false => False) | false => False) | false => (match (decide (x.fst.fst > lcmV (lcmG (1 : Int) (List.map Part.P L)))) with | true => ((((((weight14 L).fst.E = (0 : Int)) ∧ (((weight14 L).fst.P = (0 : Int)) ∧ True)) ∧ (((weight14 L).snd = (18 : Int)) ∧ True)) ∧ True) ∧ ((L = L) ∧ True)) | false => (match (x.fst.snd != (0 : Int)) with | true => (match (decide (IntKind.i64.wrap (x.fst.fst + IntKind.i64.wrap ((lcmV (lcmG (1 : Int) (List.map Part.P L))).tdiv x.fst.snd)) > lcmV (lcmG (1 : Int) (List.map Part.P L)))) with | true => ((((((weight14 L).fst.E = lcmV (lcmG (1 : Int) (List.map Part.P L))) ∧ (((weight14 L).fst.P = lcmV (lcmG (1 : Int) (List.map Part.P L))) ∧ True)) ∧ (((weight14 L).snd = (0 : Int)) ∧ True)) ∧ True) ∧ ((L = L) ∧ True)) | false => ((((((weight14 L).fst.E = IntKind.i64.wrap (x.fst.fst + IntKind.i64.wrap ((lcmV (lcmG (1 : Int) (List.map Part.P L))).tdiv x.fst.snd))) ∧ (((weight14 L).fst.P = lcmV (lcmG (1 : Int) (List.map Part.P L))) ∧ True)) ∧ (((weight14 L).snd = (0 : Int)) ∧ True)) ∧ True) ∧ ((L = L) ∧ True))) | false => False)))))) | false => False) | false => False))) | false => False) | false => False)) | false => False)
theorem r14WeightVc (L : List Part) : fnX X23 (oneLoop 10 { σ := (Int × Int) × Nat, st := fun S x => ((((S.keep [0, 2, 3, 5]).gc 1).int 7 x.1.1).int 8 x.1.2).int 9 x.2, inv := fun S x => loop14I L (S.gi 5) x.1.1 x.1.2 x.2, m := fun x => L.length - x.2 }) Try.f27 [.own 0] [.ro 3 L] (ends [.ro 3 L] ⟨some (.tup [.agg [.raw (.int .i64 (weight14 L).1.E), .raw (.int .i64 (weight14 L).1.P)], .raw (.int .i64 (weight14 L).2)]), []⟩) = r14WeightText L := by kernel_rfl
theorem r14WeightHolds (L : List Part) (hp : L.length ≤ 100000) : r14WeightText L := by
  unfold r14WeightText
  rw [decide_eq_true hp]
  by_cases hc : checkL L = true
  · have hP := checkL_iff.1 hc
    have hl := hP.1
    have ew : weight14 L = (match lcmG 1 (L.map Part.P) with
      | none => ((⟨0, 0⟩ : Weight), (16 : Int))
      | some p => bif decide (p > 1048576) then (⟨0, 0⟩, 16) else bif decide (sumEP p L > p) then (⟨0, 0⟩, 18) else (⟨min (sumEP p L + p / leastP L) p, p⟩, 0)) := by unfold weight14; rw [hc]; rfl
    rw [hc, decide_eq_true (⟨hP.p, by rw [List.length_map]; omega⟩ : Ones (L.map Part.P) ∧ (L.map Part.P).length ≤ 100000)]
    cases hg : lcmG 1 (L.map Part.P) with
    | none =>
      rw [hg] at ew
      rw [ew, show (lcmE none != 0) = true from rfl]
      repeat' first | trivial | rfl | apply And.intro
    | some p =>
      rw [hg] at ew
      dsimp only at ew
      have hp1 := lcmG_pos _ _ _ (by decide) hP.p hg
      rw [show (lcmE (some p) != 0) = false from rfl, show lcmV (some p) = p from rfl]
      by_cases hbig : p > 1048576
      · rw [decide_eq_true hbig, cond_true] at ew
        rw [ew, decide_eq_true hbig]
        repeat' first | trivial | rfl | apply And.intro
      · rw [decide_eq_false hbig, cond_false] at ew
        rw [decide_eq_false hbig, show inb 0 L.length = true from inb_nat (a := 0) (by omega)]
        refine ⟨⟨((0, (at' partE.zero L 0).P), 0), loop14I.init hP, by repeat' first | trivial | rfl | apply And.intro⟩, ?_⟩
        rintro ⟨⟨s, m⟩, x⟩ hi
        dsimp only at hi ⊢
        have hs0 := hi.s0
        have hs1 := hi.s1
        have hle := hi.le
        by_cases h : x < L.length
        · obtain ⟨o1, o2, o3⟩ := hP.2 _ (List.getElem_mem h)
          obtain ⟨t0, t1, t2, t3⟩ := share_le o1 o2 (show 0 ≤ p by omega)
          have hst := hi.step hP (by omega) (by omega) h
          have hwx := wrap_succ h (show L.length ≤ 140737488355328 by omega)
          rw [dec_lt h, inb_nat h, at_nat h, show (L[x].P != 0) = true from bne_iff_ne.2 (by omega), Int.tdiv_eq_ediv_of_nonneg (show 0 ≤ p by omega), wrap_id (n := p / L[x].P) (by omega) (by omega), wrap_id (n := L[x].E * (p / L[x].P)) (by omega) (by omega), wrap_id (n := s + L[x].E * (p / L[x].P)) (by omega) (by omega)]
          by_cases g : L[x].P < m
          · have e : min m L[x].P = L[x].P := by omega
            rw [decide_eq_true g]
            refine ⟨((s + L[x].E * (p / L[x].P), min m L[x].P), x + 1), hst, by dsimp only; omega, ?_⟩
            repeat' first | exact hwx.symm | exact e | trivial | rfl | apply And.intro
          · have e : min m L[x].P = m := by omega
            rw [decide_eq_false g]
            refine ⟨((s + L[x].E * (p / L[x].P), min m L[x].P), x + 1), hst, by dsimp only; omega, ?_⟩
            repeat' first | exact hwx.symm | exact e | trivial | rfl | apply And.intro
        · have e1 : sumEP p L = s := by rw [hi.sum, List.drop_of_length_le (by omega)]; rfl
          have e2 : leastP L = m := by rw [hi.least, List.drop_of_length_le (by omega)]; rfl
          have hm := leastP_pos hP
          rw [e1, e2] at ew
          rw [e2] at hm
          have q0 : 0 ≤ p / m := Int.ediv_nonneg (by omega) (by omega)
          have q1 : p / m ≤ p := Int.ediv_le_self _ (by omega)
          rw [dec_ge (by omega : L.length ≤ x), show (m != 0) = true from bne_iff_ne.2 (by omega), Int.tdiv_eq_ediv_of_nonneg (b := m) (show 0 ≤ p by omega), wrap_id (n := p / m) (by omega) (by omega), wrap_id (n := s + p / m) (by omega) (by omega)]
          by_cases g : s > p
          · rw [decide_eq_true g, cond_true] at ew
            rw [decide_eq_true g, ew]
            repeat' first | trivial | rfl | apply And.intro
          · rw [decide_eq_false g, cond_false] at ew
            rw [decide_eq_false g]
            by_cases k : s + p / m > p
            · rw [show min (s + p / m) p = p by omega] at ew
              rw [decide_eq_true k, ew]
              repeat' first | trivial | rfl | apply And.intro
            · rw [show min (s + p / m) p = s + p / m by omega] at ew
              rw [decide_eq_false k, ew]
              repeat' first | trivial | rfl | apply And.intro
  · have hc : checkL L = false := by simpa using hc
    have ew : weight14 L = (⟨0, 0⟩, 1) := by unfold weight14; rw [hc]; rfl
    rw [hc, ew]
    repeat' first | trivial | rfl | apply And.intro
noncomputable def r14WeightCon : Con T O := fun args cs => match args, cs with
  | [.own 0], [.ro 3 L] => chk (decide (L.length ≤ 100000)) (.ret ⟨some (.tup [.agg [.raw (.int .i64 (weight14 L).1.E), .raw (.int .i64 (weight14 L).1.P)], .raw (.int .i64 (weight14 L).2)]), []⟩)
  | _, _ => .fail
theorem r14WeightOk : ConOk R Try.prog 27 r14WeightCon := con_of_fn R (X23) (TabOk.con R X23Ok) mixed Try.call27 Try.func27 r14WeightCon (by
  intro args cs K h
  unfold r14WeightCon at h
  split at h
  · rename_i L
    rw [Tree.holds_chk] at h
    obtain ⟨hp, h⟩ := h
    refine ⟨oneLoop 10 { σ := (Int × Int) × Nat, st := fun S x => ((((S.keep [0, 2, 3, 5]).gc 1).int 7 x.1.1).int 8 x.1.2).int 9 x.2, inv := fun S x => loop14I L (S.gi 5) x.1.1 x.1.2 x.2, m := fun x => L.length - x.2 }, _, fun v S hv => ⟨_, h, hv⟩, ?_⟩
    rw [r14WeightVc L]
    exact r14WeightHolds L (of_decide_eq_true hp)
  · exact h.elim)
noncomputable def tab24 : Tab T O := (34, supUseCon) :: (14, r14UseCon) :: (27, r14WeightCon) :: tab23
theorem tabOk24 : TabOk R Try.prog tab24 := TabOk.cons R supUseOk <| TabOk.cons R r14UseOk <| TabOk.cons R r14WeightOk <| tabOk23
noncomputable def X24 : Ctx T O := { X0 with con := conOf tab24 }
theorem X24Ok : TabOk R X24.P tab24 := tabOk24
end Go.Proofs.Ytmnnjclnldaejaa
