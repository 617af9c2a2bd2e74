/-
  Part of a proof over the seat Ytmnnjclnldaejaa: printed by a small program or typed by hand.
-/
import Derived.Test.YtmnnjclnldaejaaSupS24
import Derived.KernelRfl
namespace Go.Proofs.Ytmnnjclnldaejaa
open Go.Sx Go.Proofs Classical

structure loopWI (L : List Part) (p s : Int) (x : Nat) : Prop where
  le : x ≤ L.length
  s0 : 0 ≤ s
  s1 : s ≤ (x : Int) * 1048576 + 1048576
  sum : sumEP p L + p / leastP L = sumG p s (L.drop x)
theorem loopWI.init {L : List Part} {p : Int} (h : PartsOk L) (h0 : 0 ≤ p) (h1 : p ≤ 1048576) : loopWI L p (p / leastP L) 0 := by
  have q0 : 0 ≤ p / leastP L := Int.ediv_nonneg h0 (by have := leastP_pos h; omega)
  have q1 : p / leastP L ≤ p := Int.ediv_le_self _ h0
  refine ⟨Nat.zero_le _, q0, by omega, ?_⟩
  have := sumG_add p (p / leastP L) L 0
  rw [Int.zero_add] at this
  exact this.symm
theorem loopWI.step {L : List Part} {p s : Int} {x : Nat} (h : loopWI L p s x) (hP : PartsOk L) (h0 : 0 ≤ p) (h1 : p ≤ 1048576) (hx : x < L.length) : loopWI L p (s + L[x].E * (p / L[x].P)) (x + 1) := by
  obtain ⟨o1, o2, o3⟩ := hP.2 _ (List.getElem_mem hx)
  obtain ⟨t0, t1, _, _⟩ := share_le o1 o2 h0
  have a1 := h.s0
  have a2 := h.s1
  have a3 := h.sum
  rw [List.drop_eq_getElem_cons hx] at a3
  exact ⟨hx, by omega, by rw [Int.natCast_add, Int.add_mul]; omega, a3⟩

/-! ### regatta/super.Weight -/
def supWeightText (L : List Part) : Prop := (match (decide (L.length ≤ (100000 : Nat))) with | true => (match (!checkL L) with | true => ((((((weightR L).fst.E = (0 : Int)) ∧ (((weightR L).fst.P = (0 : Int)) ∧ True)) ∧ (((weightR L).snd = (1 : Int)) ∧ True)) ∧ True) ∧ ((L = L) ∧ True)) | false => ((∃ x : Nat, ((x.le L.length) ∧ ((True ∧ (True ∧ (((0 : Int) = (0 : Int)) ∧ (True ∧ (True ∧ (((↑L.length : Int) = (↑L.length : Int)) ∧ (((↑x : Int) = (0 : Int)) ∧ True))))))) ∧ ((L = L) ∧ ((((0 : Int) = (0 : Int)) ∧ (((0 : Int) = (0 : Int)) ∧ True)) ∧ ((List.map Part.P (List.take x L) = []) ∧ True)))))) ∧ (∀ x : Nat, ((x.le L.length) → (match (decide ((↑x : Int) < (↑L.length : Int))) with | true => (match (inb (↑x : Int) L.length) with | true => (match (inb (↑x : Int) L.length) with | true => (match (roomy ((List.map Part.P (List.take x L)).length + (1 : Nat)) (nat_lit 8)) with | true => (∃ x' : Nat, ((x'.le L.length) ∧ ((L.length - x' < L.length - x) ∧ ((True ∧ (True ∧ (((0 : Int) = (0 : Int)) ∧ (True ∧ (True ∧ (((↑L.length : Int) = (↑L.length : Int)) ∧ (((↑x' : Int) = IntKind.i64.wrap ((↑x : Int) + (1 : Int))) ∧ True))))))) ∧ ((L = L) ∧ ((((0 : Int) = (0 : Int)) ∧ (((0 : Int) = (0 : Int)) ∧ True)) ∧ ((List.map Part.P (List.take x' L) = List.map Part.P (List.take x L) ++ [(at' partE.zero L (↑x : Int)).P]) ∧ True))))))) | false => False) | false => False) | false => False) | false => (match (decide (Ones (List.map Part.P (List.take x L)) ∧ (List.map Part.P (List.take x L)).length ≤ (100000 : Nat))) with | true => (match (lcmE (lcmG (1 : Int) (List.map Part.P (List.take x L))) != (0 : Int)) with | true => ((((((weightR L).fst.E = (0 : Int)) ∧ (((weightR L).fst.P = (0 : Int)) ∧ True)) ∧ (((weightR L).snd = (16 : Int)) ∧ True)) ∧ True) ∧ ((L = L) ∧ True)) | false => (match (decide (lcmV (lcmG (1 : Int) (List.map Part.P (List.take x L))) > (1048576 : Int))) with | true => ((((((weightR L).fst.E = (0 : Int)) ∧ (((weightR L).fst.P = (0 : Int)) ∧ True)) ∧ (((weightR L).snd = (16 : Int)) ∧ True)) ∧ True) ∧ ((L = L) ∧ True)) | false => (match (decide (L.length ≤ (100000 : Nat))) with | true => (match (decide (isR (lim (useQ L).fst) (lim (useQ L).snd) ∧ isR (lim (Int.toNat (1 : Int))) (lim (1 : Nat)) ∧ small (lim (useQ L).fst) ∧ small (lim (useQ L).snd) ∧ small (lim (Int.toNat (1 : Int))) ∧ small (lim (1 : Nat)))) with | true => (match (decide (cmpQ (qv (lim (useQ L).fst) (lim (useQ L).snd)) (qv (lim (Int.toNat (1 : Int))) (lim (1 : Nat))) > (0 : Int))) with | true => ((((((weightR L).fst.E = (0 : Int)) ∧ (((weightR L).fst.P = (0 : Int)) ∧ True)) ∧ (((weightR L).snd = (18 : Int)) ∧ True)) ∧ True) ∧ ((L = L) ∧ True)) | false => (match (decide ((1 : Nat) ≤ (List.map Part.P (List.take x L)).length ∧ (List.map Part.P (List.take x L)).length ≤ (100000 : Nat))) with | true => (match (minL (List.map Part.P (List.take x L)) != (0 : Int)) with | true => ((∃ x1 : Int × Nat, ((loopWI L (lcmV (lcmG (1 : Int) (List.map Part.P (List.take x L)))) x1.fst x1.snd) ∧ ((True ∧ (True ∧ (((0 : Int) = (0 : Int)) ∧ (True ∧ ((lcmV (lcmG (1 : Int) (List.map Part.P (List.take x L))) = lcmV (lcmG (1 : Int) (List.map Part.P (List.take x L)))) ∧ ((x1.fst = IntKind.i64.wrap ((lcmV (lcmG (1 : Int) (List.map Part.P (List.take x L)))).tdiv (minL (List.map Part.P (List.take x L))))) ∧ (True ∧ (((↑L.length : Int) = (↑L.length : Int)) ∧ (((↑x1.snd : Int) = (0 : Int)) ∧ True))))))))) ∧ ((L = L) ∧ ((((0 : Int) = (0 : Int)) ∧ (((0 : Int) = (0 : Int)) ∧ True)) ∧ ((List.map Part.P (List.take x L) = List.map Part.P (List.take x L)) ∧ True)))))) ∧ (∀ x1 : Int × Nat, ((loopWI L (lcmV (lcmG (1 : Int) (List.map Part.P (List.take x L)))) x1.fst x1.snd) → (match (decide ((↑x1.snd : Int) < (↑L.length : Int))) with | true => (match (inb (↑x1.snd : Int) L.length) with | true => (match (inb (↑x1.snd : Int) L.length) with | true => (match ((at' partE.zero L (↑x1.snd : Int)).P != (0 : Int)) with | true => (∃ x' : Int × Nat, ((loopWI L (lcmV (lcmG (1 : Int) (List.map Part.P (List.take x L)))) x'.fst x'.snd) ∧ ((L.length - x'.snd < L.length - x1.snd) ∧ ((True ∧ (True ∧ (((0 : Int) = (0 : Int)) ∧ (True ∧ ((lcmV (lcmG (1 : Int) (List.map Part.P (List.take x L))) = lcmV (lcmG (1 : Int) (List.map Part.P (List.take x L)))) ∧ ((x'.fst = IntKind.i64.wrap (x1.fst + IntKind.i64.wrap ((at' partE.zero L (↑x1.snd : Int)).E * IntKind.i64.wrap ((lcmV (lcmG (1 : Int) (List.map Part.P (List.take x L)))).tdiv (at' partE.zero L (↑x1.snd : Int)).P)))) ∧ (True ∧ (((↑L.length : Int) = (↑L.length : Int)) ∧ (((↑x'.snd : Int) = IntKind.i64.wrap ((↑x1.snd : Int) + (1 : Int))) ∧ True))))))))) ∧ ((L = L) ∧ ((((0 : Int) = (0 : Int)) ∧ (((0 : Int) = (0 : Int)) ∧ True)) ∧ ((List.map Part.P (List.take x L) = List.map Part.P (List.take x L)) ∧ True))))))) | false => False) | false => False) | false => False) | false => ((((((weightR L).fst.E = if lcmV (lcmG (1 : Int) (List.map Part.P (List.take x L))) < x1.fst then lcmV (lcmG (1 : Int) (List.map Part.P (List.take x L))) else x1.fst) ∧ (((weightR L).fst.P = lcmV (lcmG (1 : Int) (List.map Part.P (List.take x L)))) ∧ True)) ∧ (((weightR L).snd = (0 : Int)) ∧ True)) ∧ True) ∧ ((L = L) ∧ True)))))) | false => False) | false => False)) | false => False) | false => False))) | false => False)))))) | false => False)
theorem supWeightVc (L : List Part) : fnX X24 (annOf [(5, { σ := Nat, st := fun S x => ((S.keep [0, 2, 3, 16, 17]).int 18 x).new 4 (.vec 0 ((L.take x).map Part.P) 2), inv := fun _ x => x ≤ L.length, m := fun x => L.length - x }), (16, { σ := Int × Nat, st := fun S x => (((S.keep [0, 2, 3, 4, 7, 52, 53]).gc 1).int 9 x.1).int 54 x.2, inv := fun S x => loopWI L (S.gi 7) x.1 x.2, m := fun x => L.length - x.2 })] []) Try.f13 [.own 0] [.ro 3 L] (ends [.ro 3 L] ⟨some (.tup [.agg [.raw (.int .i64 (weightR L).1.E), .raw (.int .i64 (weightR L).1.P)], .raw (.int .i64 (weightR L).2)]), []⟩) = supWeightText L := by kernel_rfl
theorem supWeightHolds (L : List Part) (hp : L.length ≤ 100000) : supWeightText L := by
  unfold supWeightText
  rw [decide_eq_true hp]
  by_cases hc : checkL L = true
  · have hP := checkL_iff.1 hc
    have hl := hP.1
    have ew : weightR L = (match lcmG 1 (L.map Part.P) with
      | none => ((⟨0, 0⟩ : Weight), (16 : Int))
      | some p => bif decide (p > 1048576) then (⟨0, 0⟩, 16) else bif quotaQ L then (⟨0, 0⟩, 18) else (⟨min (sumEP p L + p / leastP L) p, p⟩, 0)) := by unfold weightR; rw [hc]; rfl
    have eu : useQ L = sumQ (L.map asW) := by unfold useQ; rw [hc]; rfl
    rw [hc]
    refine ⟨⟨0, Nat.zero_le _, by repeat' first | trivial | rfl | apply And.intro⟩, ?_⟩
    intro x hx
    have hx : x ≤ L.length := hx
    by_cases h : x < L.length
    · have hwx := wrap_succ h (show L.length ≤ 140737488355328 by omega)
      have hr : roomy (((L.take x).map Part.P).length + 1) 8 = true := by
        rw [List.length_map, List.length_take]
        exact decide_eq_true (by omega)
      have e : (L.take (x + 1)).map Part.P = (L.take x).map Part.P ++ [Part.P L[x]] := by rw [take_at h, List.map_append]; rfl
      rw [dec_lt h, inb_nat h, at_nat h, hr]
      refine ⟨x + 1, h, by omega, ?_⟩
      repeat' first | exact hwx.symm | exact e | trivial | rfl | apply And.intro
    obtain rfl : x = L.length := by omega
    rw [dec_ge (Nat.le_refl _), List.take_length, decide_eq_true (⟨hP.p, by rw [List.length_map]; omega⟩ : Ones (L.map Part.P) ∧ (L.map Part.P).length ≤ 100000)]
    cases hg : lcmG 1 (L.map Part.P) with
    | none =>
      rw [hg] at ew
      rw [ew, show (lcmE none != 0) = true from rfl]
      repeat' first | trivial | rfl | apply And.intro
    | some p =>
      rw [hg] at ew
      dsimp only at ew
      have hp1 := lcmG_pos _ _ _ (by decide) hP.p hg
      rw [show (lcmE (some p) != 0) = false from rfl, show lcmV (some p) = p from rfl]
      by_cases hbig : p > 1048576
      · rw [decide_eq_true hbig, cond_true] at ew
        rw [ew, decide_eq_true hbig]
        repeat' first | trivial | rfl | apply And.intro
      · rw [decide_eq_false hbig, cond_false] at ew
        obtain ⟨u1, u2, u3⟩ := useQ_ok hP
        have hq : decide (cmpQ (qv (lim (sumQ (L.map asW)).1) (lim (sumQ (L.map asW)).2)) (qv (lim (Int.toNat 1)) (lim 1)) > 0) = quotaQ L := by
          rw [qv_lim]
          unfold quotaQ
          exact congrArg (fun q => decide (cmpQ (sumQ (L.map asW)) q > 0)) (qv_lim (1, 1))
        have hone : isR (lim (Int.toNat 1)) (lim 1) ∧ small (lim (Int.toNat 1)) ∧ small (lim 1) := by
          have l1 : (lim 1).length ≤ 1 := lim_lt (k := 1) (by decide)
          exact ⟨⟨isN_lim _, isN_lim _, by rw [nv_lim]; decide⟩, Nat.le_trans l1 (by decide), Nat.le_trans l1 (by decide)⟩
        have hm := leastP_pos hP
        rw [decide_eq_false hbig, eu, decide_eq_true (⟨u1, hone.1, u2, u3, hone.2.1, hone.2.2⟩ : isR (lim (sumQ (L.map asW)).1) (lim (sumQ (L.map asW)).2) ∧ isR (lim (Int.toNat 1)) (lim 1) ∧ small (lim (sumQ (L.map asW)).1) ∧ small (lim (sumQ (L.map asW)).2) ∧ small (lim (Int.toNat 1)) ∧ small (lim 1)), hq, decide_eq_true (⟨by rw [List.length_map]; omega, by rw [List.length_map]; omega⟩ : 1 ≤ (L.map Part.P).length ∧ (L.map Part.P).length ≤ 100000)]
        by_cases hqq : quotaQ L = true
        · rw [hqq, cond_true] at ew
          rw [hqq, ew]
          repeat' first | trivial | rfl | apply And.intro
        · have hqq : quotaQ L = false := by simpa using hqq
          rw [hqq, cond_false] at ew
          have q1 : p / leastP L ≤ p := Int.ediv_le_self _ (by omega)
          have hin := loopWI.init hP (show 0 ≤ p by omega) (by omega)
          have hin0 := hin.s0
          rw [hqq, show minL (L.map Part.P) = leastP L from rfl, show (leastP L != 0) = true from bne_iff_ne.2 (by omega), Int.tdiv_eq_ediv_of_nonneg (b := leastP L) (show 0 ≤ p by omega), wrap_id (n := p / leastP L) (by omega) (by omega)]
          refine ⟨⟨(p / leastP L, 0), hin, by repeat' first | trivial | rfl | apply And.intro⟩, ?_⟩
          rintro ⟨s, y⟩ hi
          dsimp only at hi ⊢
          have hs0 := hi.s0
          have hs1 := hi.s1
          have hle := hi.le
          by_cases h2 : y < L.length
          · obtain ⟨o1, o2, o3⟩ := hP.2 _ (List.getElem_mem h2)
            obtain ⟨t0, t1, t2, t3⟩ := share_le o1 o2 (show 0 ≤ p by omega)
            have hst := hi.step hP (by omega) (by omega) h2
            have hwx := wrap_succ h2 (show L.length ≤ 140737488355328 by omega)
            rw [dec_lt h2, inb_nat h2, at_nat h2, show (L[y].P != 0) = true from bne_iff_ne.2 (by omega), Int.tdiv_eq_ediv_of_nonneg (show 0 ≤ p by omega), wrap_id (n := p / L[y].P) (by omega) (by omega), wrap_id (n := L[y].E * (p / L[y].P)) (by omega) (by omega), wrap_id (n := s + L[y].E * (p / L[y].P)) (by omega) (by omega)]
            refine ⟨(s + L[y].E * (p / L[y].P), y + 1), hst, by dsimp only; omega, ?_⟩
            repeat' first | exact hwx.symm | trivial | rfl | apply And.intro
          · have e1 : sumEP p L + p / leastP L = s := by rw [hi.sum, List.drop_of_length_le (by omega)]; rfl
            rw [e1] at ew
            have e2 : min s p = (if p < s then p else s) := by split <;> omega
            rw [dec_ge (by omega : L.length ≤ y), ew]
            repeat' first | exact e2 | trivial | rfl | apply And.intro
  · have hc : checkL L = false := by simpa using hc
    have ew : weightR L = (⟨0, 0⟩, 1) := by unfold weightR; rw [hc]; rfl
    rw [hc, ew]
    repeat' first | trivial | rfl | apply And.intro
noncomputable def supWeightBCon : Con T O := fun args cs => match args, cs with
  | [.own 0], [.ro 3 L] => chk (decide (L.length ≤ 100000)) (.ret ⟨some (.tup [.agg [.raw (.int .i64 (weightR L).1.E), .raw (.int .i64 (weightR L).1.P)], .raw (.int .i64 (weightR L).2)]), []⟩)
  | _, _ => .fail
theorem supWeightBOk : ConOk R Try.prog 13 supWeightBCon := con_of_fn R (X24) (TabOk.con R X24Ok) mixed Try.call13 Try.func13 supWeightBCon (by
  intro args cs K h
  unfold supWeightBCon at h
  split at h
  · rename_i L
    rw [Tree.holds_chk] at h
    obtain ⟨hp, h⟩ := h
    refine ⟨annOf [(5, { σ := Nat, st := fun S x => ((S.keep [0, 2, 3, 16, 17]).int 18 x).new 4 (.vec 0 ((L.take x).map Part.P) 2), inv := fun _ x => x ≤ L.length, m := fun x => L.length - x }), (16, { σ := Int × Nat, st := fun S x => (((S.keep [0, 2, 3, 4, 7, 52, 53]).gc 1).int 9 x.1).int 54 x.2, inv := fun S x => loopWI L (S.gi 7) x.1 x.2, m := fun x => L.length - x.2 })] [], _, fun v S hv => ⟨_, h, hv⟩, ?_⟩
    rw [supWeightVc L]
    exact supWeightHolds L (of_decide_eq_true hp)
  · exact h.elim)
noncomputable def supWeightCon : Con T O := relax 3 supWeightBCon
theorem supWeightOk : ConOk R Try.prog 13 supWeightCon := relax_ok R 3 supWeightBOk
noncomputable def tab25 : Tab T O := (13, supWeightCon) :: tab24
theorem tabOk25 : TabOk R Try.prog tab25 := TabOk.cons R supWeightOk <| tabOk24
noncomputable def X25 : Ctx T O := { X0 with con := conOf tab25 }
theorem X25Ok : TabOk R X25.P tab25 := tabOk25
end Go.Proofs.Ytmnnjclnldaejaa
