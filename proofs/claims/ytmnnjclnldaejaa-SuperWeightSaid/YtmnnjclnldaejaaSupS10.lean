/-
  Part of a proof over the seat Ytmnnjclnldaejaa: printed by a small program or typed by hand.
-/
import Derived.Test.YtmnnjclnldaejaaSupS9
import Derived.KernelRfl
namespace Go.Proofs.Ytmnnjclnldaejaa
open Go.Sx Go.Proofs Classical

/-- a ratio in a variable behind a slot -/
def ratCell (S : SS T O) (nf t : Nat) (A B : List Int) : SS T O := (((S.at' t (.cells [.own S.next, .own (S.next + 1)] 35)).gc nf).add (.ro 2 A)).add (.ro 2 B)
def WOk (L : List Weight) : Prop := ∀ w ∈ L, 1 ≤ w.E ∧ w.E ≤ w.P ∧ w.P ≤ 1048576
def wq (w : Weight) : Qt := (w.E.toNat, w.P.toNat)
def sumQ (L : List Weight) : Qt := L.foldl (fun q w => addQ q (wq w)) (0, 1)
theorem sumQ_snoc (L : List Weight) (w : Weight) : sumQ (L ++ [w]) = addQ (sumQ L) (wq w) := by simp [sumQ]
theorem least_pos {q : Qt} (h : 0 < q.2) : 0 < (least q).2 := Nat.div_pos (Nat.gcd_le_right _ h) (Nat.gcd_pos_of_pos_right _ h)
theorem least_le (q : Qt) : (least q).1 ≤ q.1 ∧ (least q).2 ≤ q.2 := ⟨Nat.div_le_self _ _, Nat.div_le_self _ _⟩
/-- as much as ahead -/
theorem least_eq {q : Qt} (h : 0 < q.2) : (least q).1 * q.2 = q.1 * (least q).2 := by
  unfold least
  have g0 := Nat.gcd_pos_of_pos_right q.1 h
  obtain ⟨a, ha⟩ := Nat.gcd_dvd_left q.1 q.2
  obtain ⟨b, hb⟩ := Nat.gcd_dvd_right q.1 q.2
  generalize Nat.gcd q.1 q.2 = g at *
  have e1 : q.1 / g = a := by rw [ha, Nat.mul_div_cancel_left _ g0]
  have e2 : q.2 / g = b := by rw [hb, Nat.mul_div_cancel_left _ g0]
  simp only [e1, e2]
  rw [ha, hb]
  rw [Nat.mul_left_comm, Nat.mul_assoc]
theorem sumQ_bound : ∀ (k : Nat) (L : List Weight), L.length = k → WOk L → 0 < (sumQ L).2 ∧ (sumQ L).2 ≤ 1048576 ^ k ∧ (sumQ L).1 ≤ k * (sumQ L).2
  | 0, L, hk, _ => by
    rw [List.eq_nil_of_length_eq_zero hk]
    exact ⟨by decide, by decide, by decide⟩
  | k + 1, L, hk, h => by
    have hne : L ≠ [] := by intro e; rw [e] at hk; cases hk
    obtain ⟨l, w, rfl⟩ : ∃ l w, L = l ++ [w] := ⟨L.dropLast, L.getLast hne, (List.dropLast_concat_getLast hne).symm⟩
    have hl : l.length = k := by simpa using hk
    obtain ⟨i1, i2, i3⟩ := sumQ_bound k l hl (fun v hv => h v (List.mem_append_left _ hv))
    have hw := h w (by simp)
    rw [sumQ_snoc]
    have p0 : 0 < (wq w).2 := by show 0 < w.P.toNat; omega
    have pe : (wq w).1 ≤ (wq w).2 := by show w.E.toNat ≤ w.P.toNat; omega
    have pp : (wq w).2 ≤ 1048576 := by show w.P.toNat ≤ 1048576; omega
    generalize sumQ l = q at *
    generalize wq w = v at *
    unfold addQ
    have d0 : 0 < q.2 * v.2 := Nat.mul_pos i1 p0
    have hn : q.1 * v.2 + v.1 * q.2 ≤ (k + 1) * (q.2 * v.2) := by
      rw [Nat.succ_mul, ← Nat.mul_assoc]
      have a1 := Nat.mul_le_mul_right v.2 i3
      have a2 := Nat.mul_le_mul_right q.2 pe
      rw [Nat.mul_comm v.2 q.2] at a2
      omega
    refine ⟨least_pos d0, Nat.le_trans (least_le _).2 ?_, ?_⟩
    · rw [Nat.pow_succ]
      exact Nat.mul_le_mul i2 pp
    · have e := least_eq (q := (q.1 * v.2 + v.1 * q.2, q.2 * v.2)) d0
      have l0 := least_pos (q := (q.1 * v.2 + v.1 * q.2, q.2 * v.2)) d0
      generalize least (q.1 * v.2 + v.1 * q.2, q.2 * v.2) = r at e l0 ⊢
      dsimp only at e
      have a3 := Nat.mul_le_mul_right r.2 hn
      rw [← e] at a3
      rw [Nat.mul_right_comm] at a3
      exact Nat.le_of_mul_le_mul_right a3 d0
theorem WOk.take {L : List Weight} (h : WOk L) (n : Nat) : WOk (L.take n) := fun w hw => h w (List.mem_of_mem_take hw)
theorem sumQ_ok {L : List Weight} (h : WOk L) (hl : L.length ≤ 64) : isR (lim (sumQ L).1) (lim (sumQ L).2) ∧ small (lim (sumQ L).1) ∧ small (lim (sumQ L).2) := by
  obtain ⟨h1, h2, h3⟩ := sumQ_bound L.length L rfl h
  have h4 : 1048576 ^ L.length ≤ 1048576 ^ 64 := Nat.pow_le_pow_right (by decide) hl
  have h5 : 1048576 ^ 64 < b32 ^ 100 := by decide +kernel
  have h6 : 64 * 1048576 ^ 64 < b32 ^ 100 := by decide +kernel
  refine ⟨⟨isN_lim _, isN_lim _, by rw [nv_lim]; exact h1⟩, ?_, ?_⟩
  · refine Nat.le_trans (lim_lt (k := 100) ?_) (by decide)
    have := Nat.mul_le_mul hl (Nat.le_trans h2 h4)
    omega
  · refine Nat.le_trans (lim_lt (k := 100) ?_) (by decide)
    omega

/-! ### regatta/ratio.Sum -/
def ratSumText (L : List Weight) : Prop := ((∃ x : Nat, ((x.le L.length) ∧ ((True ∧ (True ∧ (True ∧ (((↑L.length : Int) = (↑L.length : Int)) ∧ (((↑x : Int) = (0 : Int)) ∧ True))))) ∧ ((L = L) ∧ (((Value.slice none (0 : Nat) (0 : Nat) = Value.slice none (0 : Nat) (0 : Nat)) ∧ ((Value.slice none (0 : Nat) (0 : Nat) = Value.slice none (0 : Nat) (0 : Nat)) ∧ True)) ∧ ((True ∧ (True ∧ True)) ∧ ((lim (sumQ (List.take x L)).fst = lim (Int.toNat (0 : Int))) ∧ ((lim (sumQ (List.take x L)).snd = lim (1 : Nat)) ∧ True)))))))) ∧ (∀ x : Nat, ((x.le L.length) → (match (decide ((↑x : Int) < (↑L.length : Int))) with | true => (match (inb (↑x : Int) L.length) with | true => (match (inb (↑x : Int) L.length) with | true => (match (decide ((0 : Int) ≤ (at' weightE.zero L (↑x : Int)).E ∧ (at' weightE.zero L (↑x : Int)).E < (9223372036854775808 : Int) ∧ (1 : Int) ≤ (at' weightE.zero L (↑x : Int)).P ∧ (at' weightE.zero L (↑x : Int)).P < (9223372036854775808 : Int))) with | true => (match (decide (isR (lim (sumQ (List.take x L)).fst) (lim (sumQ (List.take x L)).snd) ∧ isR (lim (at' weightE.zero L (↑x : Int)).E.toNat) (lim (at' weightE.zero L (↑x : Int)).P.toNat) ∧ small (lim (sumQ (List.take x L)).fst) ∧ small (lim (sumQ (List.take x L)).snd) ∧ small (lim (at' weightE.zero L (↑x : Int)).E.toNat) ∧ small (lim (at' weightE.zero L (↑x : Int)).P.toNat))) with | true => (∃ x' : Nat, ((x'.le L.length) ∧ ((L.length - x' < L.length - x) ∧ ((True ∧ (True ∧ (True ∧ (((↑L.length : Int) = (↑L.length : Int)) ∧ (((↑x' : Int) = IntKind.i64.wrap ((↑x : Int) + (1 : Int))) ∧ True))))) ∧ ((L = L) ∧ (((Value.slice none (0 : Nat) (0 : Nat) = Value.slice none (0 : Nat) (0 : Nat)) ∧ ((Value.slice none (0 : Nat) (0 : Nat) = Value.slice none (0 : Nat) (0 : Nat)) ∧ True)) ∧ ((True ∧ (True ∧ True)) ∧ ((lim (sumQ (List.take x' L)).fst = lim (addQ (qv (lim (sumQ (List.take x L)).fst) (lim (sumQ (List.take x L)).snd)) (qv (lim (at' weightE.zero L (↑x : Int)).E.toNat) (lim (at' weightE.zero L (↑x : Int)).P.toNat))).fst) ∧ ((lim (sumQ (List.take x' L)).snd = lim (addQ (qv (lim (sumQ (List.take x L)).fst) (lim (sumQ (List.take x L)).snd)) (qv (lim (at' weightE.zero L (↑x : Int)).E.toNat) (lim (at' weightE.zero L (↑x : Int)).P.toNat))).snd) ∧ True))))))))) | false => False) | false => False) | false => False) | false => False) | false => (((True ∧ (True ∧ True)) ∧ True) ∧ ((L = L) ∧ ((lim (sumQ L).fst = lim (sumQ (List.take x L)).fst) ∧ ((lim (sumQ L).snd = lim (sumQ (List.take x L)).snd) ∧ True))))))))
theorem ratSumVc (L : List Weight) : fnX X9 (oneLoop 3 { σ := Nat, st := fun S x => ratCell ((S.keep [2, 3, 7, 8]).int 9 x) 1 3 (lim (sumQ (L.take x)).1) (lim (sumQ (L.take x)).2), inv := fun _ x => x ≤ L.length, m := fun x => L.length - x }) Try.f66 [.own 0] [.ro 5 L] (ends [.ro 5 L] ⟨some (.agg [.own 1, .own 2]), [(1, some (.ro 2 (lim (sumQ L).1))), (2, some (.ro 2 (lim (sumQ L).2)))]⟩) = ratSumText L := by kernel_rfl
theorem ratSumHolds (L : List Weight) (hp : WOk L ∧ L.length ≤ 64) : ratSumText L := by
  unfold ratSumText
  obtain ⟨hw, hl⟩ := hp
  refine ⟨⟨0, Nat.zero_le _, by repeat' first | trivial | rfl | apply And.intro⟩, ?_⟩
  intro x hx
  have hx : x ≤ L.length := hx
  by_cases h : x < L.length
  · have hwx := wrap_succ h (show L.length ≤ 140737488355328 by omega)
    have he := hw _ (List.getElem_mem h)
    obtain ⟨s1, s2, s3⟩ := sumQ_ok (hw.take x) (by rw [List.length_take]; omega)
    have o1 : isR (lim L[x].E.toNat) (lim L[x].P.toNat) := ⟨isN_lim _, isN_lim _, by rw [nv_lim]; omega⟩
    have o2 : small (lim L[x].E.toNat) := Nat.le_trans (lim_lt (k := 1) (by show _ < 4294967296 ^ 1; omega)) (by decide)
    have o3 : small (lim L[x].P.toNat) := Nat.le_trans (lim_lt (k := 1) (by show _ < 4294967296 ^ 1; omega)) (by decide)
    rw [dec_lt h, inb_nat h, at_nat h, decide_eq_true (show 0 ≤ L[x].E ∧ L[x].E < 9223372036854775808 ∧ 1 ≤ L[x].P ∧ L[x].P < 9223372036854775808 by omega), decide_eq_true (⟨s1, o1, s2, s3, o2, o3⟩ : isR (lim (sumQ (List.take x L)).1) (lim (sumQ (List.take x L)).2) ∧ isR (lim L[x].E.toNat) (lim L[x].P.toNat) ∧ small (lim (sumQ (List.take x L)).1) ∧ small (lim (sumQ (List.take x L)).2) ∧ small (lim L[x].E.toNat) ∧ small (lim L[x].P.toNat))]
    have e : addQ (qv (lim (sumQ (List.take x L)).1) (lim (sumQ (List.take x L)).2)) (qv (lim L[x].E.toNat) (lim L[x].P.toNat)) = sumQ (L.take (x + 1)) := by
      rw [take_at h, sumQ_snoc]
      unfold qv
      rw [nv_lim, nv_lim, nv_lim, nv_lim]
      rfl
    rw [e]
    refine ⟨x + 1, h, by omega, ?_⟩
    repeat' first | exact hwx.symm | trivial | rfl | apply And.intro
  · obtain rfl : x = L.length := by omega
    rw [dec_ge (Nat.le_refl _), List.take_length]
    repeat' first | trivial | rfl | apply And.intro
noncomputable def ratSumCon : Con T O := fun args cs => match args, cs with
  | [.own 0], [.ro 5 L] => chk (decide (WOk L ∧ L.length ≤ 64)) (.ret ⟨some (.agg [.own 1, .own 2]), [(1, some (.ro 2 (lim (sumQ L).1))), (2, some (.ro 2 (lim (sumQ L).2)))]⟩)
  | _, _ => .fail
theorem ratSumOk : ConOk R Try.prog 66 ratSumCon := con_of_fn R (X9) (TabOk.con R X9Ok) mixed Try.call66 Try.func66 ratSumCon (by
  intro args cs K h
  unfold ratSumCon at h
  split at h
  · rename_i L
    rw [Tree.holds_chk] at h
    obtain ⟨hp, h⟩ := h
    refine ⟨oneLoop 3 { σ := Nat, st := fun S x => ratCell ((S.keep [2, 3, 7, 8]).int 9 x) 1 3 (lim (sumQ (L.take x)).1) (lim (sumQ (L.take x)).2), inv := fun _ x => x ≤ L.length, m := fun x => L.length - x }, _, fun v S hv => ⟨_, h, hv⟩, ?_⟩
    rw [ratSumVc L]
    exact ratSumHolds L (of_decide_eq_true hp)
  · exact h.elim)
noncomputable def tab10 : Tab T O := (66, ratSumCon) :: tab9
theorem tabOk10 : TabOk R Try.prog tab10 := TabOk.cons R ratSumOk <| tabOk9
noncomputable def X10 : Ctx T O := { X0 with con := conOf tab10 }
theorem X10Ok : TabOk R X10.P tab10 := tabOk10
end Go.Proofs.Ytmnnjclnldaejaa
