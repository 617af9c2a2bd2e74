/-
  Part of a proof over the seat Ytmnnjclnldaejaa: printed by a small program or typed by hand.
-/
import Derived.Test.YtmnnjclnldaejaaSupS2
import Derived.KernelRfl
namespace Go.Proofs.Ytmnnjclnldaejaa
open Go.Sx Go.Proofs Classical

theorem cmpI_spec (x y : Int) : cmpI x y = if x < y then -1 else if y < x then 1 else 0 := by
  have hn : ∀ x : Int, nanI x = false := fun x => by unfold nanI; simp
  unfold cmpI
  rw [hn, hn]
  by_cases h : x < y
  · rw [decide_eq_true h, if_pos h]
  · rw [decide_eq_false h, if_neg h]
    by_cases g : x > y
    · rw [decide_eq_true g, if_pos g]
    · rw [decide_eq_false g, if_neg g]
theorem cmpU_spec (x y : Int) : cmpU x y = if x < y then -1 else if y < x then 1 else 0 := by
  have hn : ∀ x : Int, nanU x = false := fun x => by unfold nanU; simp
  unfold cmpU
  rw [hn, hn]
  by_cases h : x < y
  · rw [decide_eq_true h, if_pos h]
  · rw [decide_eq_false h, if_neg h]
    by_cases g : x > y
    · rw [decide_eq_true g, if_pos g]
    · rw [decide_eq_false g, if_neg g]
theorem cmpN_lt {a b : Nat} (h : a < b) : cmpN a b = -1 := by unfold cmpN; rw [decide_eq_true h]; rfl
theorem cmpN_eq {a : Nat} : cmpN a a = 0 := by unfold cmpN; simp
theorem cmpN_gt {a b : Nat} (h : b < a) : cmpN a b = 1 := by unfold cmpN; rw [decide_eq_false (by omega), decide_eq_false (by omega)]; rfl

/-! ### regatta/nat.Cmp -/
def natCmpText (A B : List Int) : Prop := (match ((↑A.length : Int) != (↑B.length : Int)) with | true => (((cmpN (nvB b32 A) (nvB b32 B) = cmpI (↑A.length : Int) (↑B.length : Int)) ∧ True) ∧ ((A = A) ∧ ((B = B) ∧ True))) | false => ((∃ x : Nat, (((x ≤ A.length) ∧ (List.drop (A.length - x) A = List.drop (A.length - x) B)) ∧ ((True ∧ (True ∧ (((↑A.length : Int) = (↑A.length : Int)) ∧ (((↑x : Int) = (0 : Int)) ∧ True)))) ∧ ((A = A) ∧ ((B = B) ∧ True))))) ∧ (∀ x : Nat, (((x ≤ A.length) ∧ (List.drop (A.length - x) A = List.drop (A.length - x) B)) → (match (decide ((↑x : Int) < (↑A.length : Int))) with | true => (match (inb (IntKind.i64.wrap (IntKind.i64.wrap ((↑A.length : Int) - (1 : Int)) - (↑x : Int))) A.length) with | true => (match (inb (IntKind.i64.wrap (IntKind.i64.wrap ((↑A.length : Int) - (1 : Int)) - (↑x : Int))) A.length) with | true => (match (inb (IntKind.i64.wrap (IntKind.i64.wrap ((↑A.length : Int) - (1 : Int)) - (↑x : Int))) B.length) with | true => (match (inb (IntKind.i64.wrap (IntKind.i64.wrap ((↑A.length : Int) - (1 : Int)) - (↑x : Int))) B.length) with | true => (match (at' (0 : Int) A (IntKind.i64.wrap (IntKind.i64.wrap ((↑A.length : Int) - (1 : Int)) - (↑x : Int))) != at' (0 : Int) B (IntKind.i64.wrap (IntKind.i64.wrap ((↑A.length : Int) - (1 : Int)) - (↑x : Int)))) with | true => (match (inb (IntKind.i64.wrap (IntKind.i64.wrap ((↑A.length : Int) - (1 : Int)) - (↑x : Int))) A.length) with | true => (match (inb (IntKind.i64.wrap (IntKind.i64.wrap ((↑A.length : Int) - (1 : Int)) - (↑x : Int))) A.length) with | true => (match (inb (IntKind.i64.wrap (IntKind.i64.wrap ((↑A.length : Int) - (1 : Int)) - (↑x : Int))) B.length) with | true => (match (inb (IntKind.i64.wrap (IntKind.i64.wrap ((↑A.length : Int) - (1 : Int)) - (↑x : Int))) B.length) with | true => (((cmpN (nvB b32 A) (nvB b32 B) = cmpU (at' (0 : Int) A (IntKind.i64.wrap (IntKind.i64.wrap ((↑A.length : Int) - (1 : Int)) - (↑x : Int)))) (at' (0 : Int) B (IntKind.i64.wrap (IntKind.i64.wrap ((↑A.length : Int) - (1 : Int)) - (↑x : Int))))) ∧ True) ∧ ((A = A) ∧ ((B = B) ∧ True))) | false => False) | false => False) | false => False) | false => False) | false => (∃ x' : Nat, (((x' ≤ A.length) ∧ (List.drop (A.length - x') A = List.drop (A.length - x') B)) ∧ ((A.length - x' < A.length - x) ∧ ((True ∧ (True ∧ (((↑A.length : Int) = (↑A.length : Int)) ∧ (((↑x' : Int) = IntKind.i64.wrap ((↑x : Int) + (1 : Int))) ∧ True)))) ∧ ((A = A) ∧ ((B = B) ∧ True))))))) | false => False) | false => False) | false => False) | false => False) | false => (((cmpN (nvB b32 A) (nvB b32 B) = (0 : Int)) ∧ True) ∧ ((A = A) ∧ ((B = B) ∧ True))))))))
theorem natCmpVc (A B : List Int) : fnX X2 (oneLoop 4 { σ := Nat, st := fun S x => (S.keep [0, 1, 18]).int 19 x, inv := fun _ x => x ≤ A.length ∧ A.drop (A.length - x) = B.drop (A.length - x), m := fun x => A.length - x }) Try.f70 [.own 0, .own 1] [.ro 2 A, .ro 2 B] (ends [.ro 2 A, .ro 2 B] ⟨some (.raw (.int .i64 (cmpN (nvB b32 A) (nvB b32 B)))), []⟩) = natCmpText A B := by kernel_rfl
theorem natCmpHolds (A B : List Int) (hp : isN A ∧ isN B ∧ A.length ≤ 1000 ∧ B.length ≤ 1000) : natCmpText A B := by
  unfold natCmpText
  obtain ⟨ha, hb, la, lb⟩ := hp
  by_cases hl : A.length = B.length
  · rw [show ((A.length : Int) != (B.length : Int)) = false by simp [hl]]
    refine ⟨⟨0, ⟨Nat.zero_le _, by rw [Nat.sub_zero, List.drop_of_length_le (Nat.le_refl _), List.drop_of_length_le (by omega)]⟩, by repeat' first | trivial | rfl | apply And.intro⟩, ?_⟩
    rintro x ⟨hx, hd⟩
    by_cases h : x < A.length
    · have hwx := wrap_succ h (show A.length ≤ 140737488355328 by omega)
      obtain ⟨k, hk⟩ : ∃ k, A.length - x = k + 1 := ⟨A.length - x - 1, by omega⟩
      rw [hk] at hd
      have hkA : k < A.length := by omega
      have hkB : k < B.length := by omega
      rw [dec_lt h, show IntKind.i64.wrap (IntKind.i64.wrap ((A.length : Int) - 1) - (x : Int)) = (k : Int) by rw [wrap_id (n := (A.length : Int) - 1) (by omega) (by omega), wrap_id (by omega) (by omega)]; omega, inb_nat hkA, inb_nat hkB, at_nat hkA, at_nat hkB]
      by_cases he : A[k] = B[k]
      · rw [show (A[k] != B[k]) = false by rw [he]; simp]
        refine ⟨x + 1, ⟨h, ?_⟩, by omega, ?_⟩
        · rw [show A.length - (x + 1) = k by omega, List.drop_eq_getElem_cons hkA, List.drop_eq_getElem_cons hkB, he, hd]
        · repeat' first | exact hwx.symm | trivial | rfl | apply And.intro
      · rw [show (A[k] != B[k]) = true from bne_iff_ne.2 he]
        have e : cmpN (nvB b32 A) (nvB b32 B) = cmpU A[k] B[k] := by
          rw [cmpU_spec]
          rcases Int.lt_trichotomy A[k] B[k] with g | g | g
          · have := nvB_lt_of b32_gt ha.ok hkA hkB hd g hb.ok
            rw [cmpN_lt this, if_pos g]
          · exact absurd g he
          · have := nvB_lt_of b32_gt hb.ok hkB hkA hd.symm g ha.ok
            rw [cmpN_gt this, if_neg (by omega), if_pos g]
        repeat' first | exact e | trivial | rfl | apply And.intro
    · rw [dec_ge (by omega)]
      have e : cmpN (nvB b32 A) (nvB b32 B) = 0 := by
        rw [show A.length - x = 0 by omega, List.drop_zero, List.drop_zero] at hd
        rw [hd, cmpN_eq]
      repeat' first | exact e | trivial | rfl | apply And.intro
  · rw [show ((A.length : Int) != (B.length : Int)) = true by rw [bne_iff_ne]; omega]
    have e : cmpN (nvB b32 A) (nvB b32 B) = cmpI (A.length : Int) (B.length : Int) := by
      rw [cmpI_spec]
      rcases Nat.lt_or_ge A.length B.length with g | g
      · have : nvB b32 A < nvB b32 B := nvB_len_lt b32_gt (by show (lim _).length < (lim _).length; rw [← ha, ← hb]; exact g)
        rw [cmpN_lt this, if_pos (by omega)]
      · have : nvB b32 B < nvB b32 A := nvB_len_lt b32_gt (by show (lim _).length < (lim _).length; rw [← ha, ← hb]; omega)
        rw [cmpN_gt this, if_neg (by omega), if_pos (by omega)]
    repeat' first | exact e | trivial | rfl | apply And.intro
noncomputable def natCmpBCon : Con T O := fun args cs => match args, cs with
  | [.own 0, .own 1], [.ro 2 A, .ro 2 B] => chk (decide (isN A ∧ isN B ∧ A.length ≤ 1000 ∧ B.length ≤ 1000)) (.ret ⟨some (.raw (.int .i64 (cmpN (nvB b32 A) (nvB b32 B)))), []⟩)
  | _, _ => .fail
theorem natCmpBOk : ConOk R Try.prog 70 natCmpBCon := con_of_fn R (X2) (TabOk.con R X2Ok) mixed Try.call70 Try.func70 natCmpBCon (by
  intro args cs K h
  unfold natCmpBCon at h
  split at h
  · rename_i A B
    rw [Tree.holds_chk] at h
    obtain ⟨hp, h⟩ := h
    refine ⟨oneLoop 4 { σ := Nat, st := fun S x => (S.keep [0, 1, 18]).int 19 x, inv := fun _ x => x ≤ A.length ∧ A.drop (A.length - x) = B.drop (A.length - x), m := fun x => A.length - x }, _, fun v S hv => ⟨_, h, hv⟩, ?_⟩
    rw [natCmpVc A B]
    exact natCmpHolds A B (of_decide_eq_true hp)
  · exact h.elim)
noncomputable def natCmpCon : Con T O := relax 2 natCmpBCon
theorem natCmpOk : ConOk R Try.prog 70 natCmpCon := relax_ok R 2 natCmpBOk
/-! ### regatta/nat.Add -/
def natAddText (A B : List Int) : Prop := (match (decide ((0 : Int) ≤ IntKind.i64.wrap ((if (↑B.length : Int) > (↑A.length : Int) then (↑B.length : Int) else (↑A.length : Int)) + (1 : Int))) && decide (IntKind.i64.wrap ((if (↑B.length : Int) > (↑A.length : Int) then (↑B.length : Int) else (↑A.length : Int)) + (1 : Int)) = IntKind.i64.wrap ((if (↑B.length : Int) > (↑A.length : Int) then (↑B.length : Int) else (↑A.length : Int)) + (1 : Int))) && roomy (IntKind.i64.wrap ((if (↑B.length : Int) > (↑A.length : Int) then (↑B.length : Int) else (↑A.length : Int)) + (1 : Int))).toNat (nat_lit 4)) with | true => ((∃ x : Nat, ((x.le (max A.length B.length + (1 : Nat))) ∧ ((True ∧ (True ∧ (True ∧ ((True ∧ (True ∧ True)) ∧ (((↑(List.replicate (IntKind.i64.wrap ((if (↑B.length : Int) > (↑A.length : Int) then (↑B.length : Int) else (↑A.length : Int)) + (1 : Int))).toNat (0 : Int)).length : Int) = (↑(List.replicate (IntKind.i64.wrap ((if (↑B.length : Int) > (↑A.length : Int) then (↑B.length : Int) else (↑A.length : Int)) + (1 : Int))).toNat (0 : Int)).length : Int)) ∧ (((↑x : Int) = (0 : Int)) ∧ True)))))) ∧ ((A = A) ∧ ((B = B) ∧ ((padN b32 x (max A.length B.length + (1 : Nat)) (nvB b32 A + nvB b32 B) = List.replicate (IntKind.i64.wrap ((if (↑B.length : Int) > (↑A.length : Int) then (↑B.length : Int) else (↑A.length : Int)) + (1 : Int))).toNat (0 : Int)) ∧ ((True ∧ True) ∧ ((((↑((nvB b32 (List.take x A) + nvB b32 (List.take x B)) / b32 ^ x) : Int) = (0 : Int)) ∧ True) ∧ True)))))))) ∧ (∀ x : Nat, ((x.le (max A.length B.length + (1 : Nat))) → (match (decide ((↑x : Int) < (↑(List.replicate (IntKind.i64.wrap ((if (↑B.length : Int) > (↑A.length : Int) then (↑B.length : Int) else (↑A.length : Int)) + (1 : Int))).toNat (0 : Int)).length : Int))) with | true => (match (decide ((0 : Int) ≤ (↑x : Int) ∧ OkB b32 A)) with | true => (match (decide ((0 : Int) ≤ (↑x : Int) ∧ OkB b32 B)) with | true => (match (decide ((0 : Int) ≤ (↑x : Int) ∧ (↑x : Int) < (↑(padN b32 x (max A.length B.length + (1 : Nat)) (nvB b32 A + nvB b32 B)).length : Int) ∧ (0 : Int) ≤ IntKind.u64.wrap ((↑(gd A (↑x : Int).toNat) : Int) + (↑(gd B (↑x : Int).toNat) : Int)) ∧ (0 : Int) ≤ (↑((nvB b32 (List.take x A) + nvB b32 (List.take x B)) / b32 ^ x) : Int) ∧ IntKind.u64.wrap ((↑(gd A (↑x : Int).toNat) : Int) + (↑(gd B (↑x : Int).toNat) : Int)) + (↑((nvB b32 (List.take x A) + nvB b32 (List.take x B)) / b32 ^ x) : Int) < (18446744073709551616 : Int))) with | true => (∃ x' : Nat, ((x'.le (max A.length B.length + (1 : Nat))) ∧ ((max A.length B.length + (1 : Nat) - x' < max A.length B.length + (1 : Nat) - x) ∧ ((True ∧ (True ∧ (True ∧ ((True ∧ (True ∧ True)) ∧ (((↑(List.replicate (IntKind.i64.wrap ((if (↑B.length : Int) > (↑A.length : Int) then (↑B.length : Int) else (↑A.length : Int)) + (1 : Int))).toNat (0 : Int)).length : Int) = (↑(List.replicate (IntKind.i64.wrap ((if (↑B.length : Int) > (↑A.length : Int) then (↑B.length : Int) else (↑A.length : Int)) + (1 : Int))).toNat (0 : Int)).length : Int)) ∧ (((↑x' : Int) = IntKind.i64.wrap ((↑x : Int) + (1 : Int))) ∧ True)))))) ∧ ((A = A) ∧ ((B = B) ∧ ((padN b32 x' (max A.length B.length + (1 : Nat)) (nvB b32 A + nvB b32 B) = (padN b32 x (max A.length B.length + (1 : Nat)) (nvB b32 A + nvB b32 B)).set (↑x : Int).toNat ((IntKind.u64.wrap ((↑(gd A (↑x : Int).toNat) : Int) + (↑(gd B (↑x : Int).toNat) : Int)) + (↑((nvB b32 (List.take x A) + nvB b32 (List.take x B)) / b32 ^ x) : Int)) % (4294967296 : Int))) ∧ ((True ∧ True) ∧ ((((↑((nvB b32 (List.take x' A) + nvB b32 (List.take x' B)) / b32 ^ x') : Int) = (IntKind.u64.wrap ((↑(gd A (↑x : Int).toNat) : Int) + (↑(gd B (↑x : Int).toNat) : Int)) + (↑((nvB b32 (List.take x A) + nvB b32 (List.take x B)) / b32 ^ x) : Int)) / (4294967296 : Int)) ∧ True) ∧ True))))))))) | false => False) | false => False) | false => False) | false => (match (decide ((padN b32 x (max A.length B.length + (1 : Nat)) (nvB b32 A + nvB b32 B)).length ≤ (3000 : Nat))) with | true => ((True ∧ True) ∧ ((A = A) ∧ ((B = B) ∧ ((lim (nvB b32 A + nvB b32 B) = cutD (padN b32 x (max A.length B.length + (1 : Nat)) (nvB b32 A + nvB b32 B))) ∧ True)))) | false => False))))) | false => False)
theorem natAddVc (A B : List Int) : fnX X2 (oneLoop 4 { σ := Nat, st := fun S x => atCap (((S.keep [0, 1, 5, 6, 18]).int 19 x).at' 5 (.vec 2 (padN b32 x (max A.length B.length + 1) (nvB b32 A + nvB b32 B)) 104)) 6 0 (.cells [.raw (.int .u64 (((nvB b32 (A.take x) + nvB b32 (B.take x)) / b32 ^ x : Nat) : Int))] 73), inv := fun _ x => x ≤ max A.length B.length + 1, m := fun x => max A.length B.length + 1 - x }) Try.f104 [.own 0, .own 1] [.ro 2 A, .ro 2 B] (ends [.ro 2 A, .ro 2 B] ⟨some (.own 2), [(2, some (.ro 2 (lim (nvB b32 A + nvB b32 B))))]⟩) = natAddText A B := by kernel_rfl
theorem natAddHolds (A B : List Int) (hp : isN A ∧ isN B ∧ A.length ≤ 1000 ∧ B.length ≤ 1000) : natAddText A B := by
  unfold natAddText
  obtain ⟨ha, hb, la, lb⟩ := hp
  have hw : IntKind.i64.wrap ((if (B.length : Int) > (A.length : Int) then (B.length : Int) else (A.length : Int)) + 1) = ((max A.length B.length + 1 : Nat) : Int) := by
    split <;> (rw [wrap_id (by omega) (by omega)]; omega)
  have hS : nvB b32 A + nvB b32 B < b32 ^ (max A.length B.length + 1) := by
    have h1 := Nat.lt_of_lt_of_le (nv_lt ha) (Nat.pow_le_pow_right (show 0 < b32 by decide) (Nat.le_max_left A.length B.length))
    have h2 := Nat.lt_of_lt_of_le (nv_lt hb) (Nat.pow_le_pow_right (show 0 < b32 by decide) (Nat.le_max_right A.length B.length))
    rw [Nat.pow_succ]
    have : b32 ^ max A.length B.length * 2 ≤ b32 ^ max A.length B.length * b32 := Nat.mul_le_mul_left _ (by decide)
    omega
  have hN : max A.length B.length + 1 ≤ 1001 := by omega
  rw [hw, Int.toNat_natCast, List.length_replicate]
  generalize max A.length B.length + 1 = N at hN hS ⊢
  rw [show (decide (0 ≤ (N : Int)) && decide ((N : Int) = (N : Int)) && roomy N 4) = true by simp [roomy]; omega]
  have e0 : (((nvB b32 (A.take 0) + nvB b32 (B.take 0)) / b32 ^ 0 : Nat) : Int) = 0 := by simp [nvB]
  refine ⟨⟨0, Nat.zero_le _, by repeat' first | exact e0 | trivial | rfl | apply And.intro⟩, ?_⟩
  intro x hx
  have hx : x ≤ N := hx
  rw [Int.toNat_natCast, padN_length hx]
  by_cases h : x < N
  · have hwx := wrap_succ h (show N ≤ 140737488355328 by omega)
    obtain ⟨c1, c2⟩ := carry_step (k := x) b32_gt (nvB b32 (A.take x)) (gd A x) (nvB b32 (A.drop (x + 1))) (nvB b32 (B.take x)) (gd B x) (nvB b32 (B.drop (x + 1)))
    rw [← nvB_at, ← nvB_at] at c1
    rw [← nvB_take_succ, ← nvB_take_succ] at c2
    have g1 : gd A x < 4294967296 := gd_ok (by decide) ha.ok x
    have g2 : gd B x < 4294967296 := gd_ok (by decide) hb.ok x
    have g3 : (nvB b32 (A.take x) + nvB b32 (B.take x)) / b32 ^ x < 2 := by
      rw [Nat.div_lt_iff_lt_mul (Nat.pow_pos (by decide))]
      have h1 := nvB_take_lt b32_gt ha.ok x
      have h2 := nvB_take_lt b32_gt hb.ok x
      omega
    generalize (nvB b32 (A.take x) + nvB b32 (B.take x)) / b32 ^ x = c at c1 c2 g3 ⊢
    rw [dec_lt h, decide_eq_true (⟨by omega, ha.ok⟩ : 0 ≤ (x : Int) ∧ OkB b32 A), decide_eq_true (⟨by omega, hb.ok⟩ : 0 ≤ (x : Int) ∧ OkB b32 B), u64_id (n := ((gd A x : Nat) : Int) + ((gd B x : Nat) : Int)) (by omega) (by omega)]
    rw [decide_eq_true (show 0 ≤ (x : Int) ∧ (x : Int) < (N : Int) ∧ 0 ≤ ((gd A x : Nat) : Int) + ((gd B x : Nat) : Int) ∧ 0 ≤ (c : Int) ∧ ((gd A x : Nat) : Int) + ((gd B x : Nat) : Int) + (c : Int) < 18446744073709551616 by omega)]
    have e1 : padN b32 (x + 1) N (nvB b32 A + nvB b32 B) = (padN b32 x N (nvB b32 A + nvB b32 B)).set x ((((gd A x : Nat) : Int) + ((gd B x : Nat) : Int) + (c : Int)) % 4294967296) := by
      rw [← padN_set h, c1]
      congr 1
    have e2 : (((nvB b32 (A.take (x + 1)) + nvB b32 (B.take (x + 1))) / b32 ^ (x + 1) : Nat) : Int) = (((gd A x : Nat) : Int) + ((gd B x : Nat) : Int) + (c : Int)) / 4294967296 := by
      rw [c2]
      show ((_ / 4294967296 : Nat) : Int) = _
      omega
    refine ⟨x + 1, h, by omega, ?_⟩
    repeat' first | exact hwx.symm | exact e1 | exact e2 | trivial | rfl | apply And.intro
  · obtain rfl : x = N := by omega
    rw [dec_ge (Nat.le_refl _), decide_eq_true (show x ≤ 3000 by omega), padN_all]
    have e : lim (nvB b32 A + nvB b32 B) = cutD (digN b32 x (nvB b32 A + nvB b32 B)) := (cutD_digN b32_gt hS).symm
    repeat' first | exact e | trivial | rfl | apply And.intro
noncomputable def natAddBCon : Con T O := fun args cs => match args, cs with
  | [.own 0, .own 1], [.ro 2 A, .ro 2 B] => chk (decide (isN A ∧ isN B ∧ A.length ≤ 1000 ∧ B.length ≤ 1000)) (.ret ⟨some (.own 2), [(2, some (.ro 2 (lim (nvB b32 A + nvB b32 B))))]⟩)
  | _, _ => .fail
theorem natAddBOk : ConOk R Try.prog 104 natAddBCon := con_of_fn R (X2) (TabOk.con R X2Ok) mixed Try.call104 Try.func104 natAddBCon (by
  intro args cs K h
  unfold natAddBCon at h
  split at h
  · rename_i A B
    rw [Tree.holds_chk] at h
    obtain ⟨hp, h⟩ := h
    refine ⟨oneLoop 4 { σ := Nat, st := fun S x => atCap (((S.keep [0, 1, 5, 6, 18]).int 19 x).at' 5 (.vec 2 (padN b32 x (max A.length B.length + 1) (nvB b32 A + nvB b32 B)) 104)) 6 0 (.cells [.raw (.int .u64 (((nvB b32 (A.take x) + nvB b32 (B.take x)) / b32 ^ x : Nat) : Int))] 73), inv := fun _ x => x ≤ max A.length B.length + 1, m := fun x => max A.length B.length + 1 - x }, _, fun v S hv => ⟨_, h, hv⟩, ?_⟩
    rw [natAddVc A B]
    exact natAddHolds A B (of_decide_eq_true hp)
  · exact h.elim)
noncomputable def natAddCon : Con T O := relax 2 natAddBCon
theorem natAddOk : ConOk R Try.prog 104 natAddCon := relax_ok R 2 natAddBOk
/-! ### regatta/nat.Mul -/
def natMulText (A B : List Int) : Prop := (match (decide ((0 : Int) ≤ IntKind.i64.wrap (IntKind.i64.wrap ((↑A.length : Int) + (↑B.length : Int)) + (1 : Int))) && decide (IntKind.i64.wrap (IntKind.i64.wrap ((↑A.length : Int) + (↑B.length : Int)) + (1 : Int)) = IntKind.i64.wrap (IntKind.i64.wrap ((↑A.length : Int) + (↑B.length : Int)) + (1 : Int))) && roomy (IntKind.i64.wrap (IntKind.i64.wrap ((↑A.length : Int) + (↑B.length : Int)) + (1 : Int))).toNat (nat_lit 4)) with | true => ((∃ x : Nat, ((x.le A.length) ∧ ((True ∧ (True ∧ (True ∧ (True ∧ (((↑A.length : Int) = (↑A.length : Int)) ∧ (((↑x : Int) = (0 : Int)) ∧ True)))))) ∧ ((A = A) ∧ ((B = B) ∧ ((digN b32 (A.length + B.length + (1 : Nat)) (nvB b32 (List.take x A) * nvB b32 B) = List.replicate (IntKind.i64.wrap (IntKind.i64.wrap ((↑A.length : Int) + (↑B.length : Int)) + (1 : Int))).toNat (0 : Int)) ∧ True)))))) ∧ (∀ x : Nat, ((x.le A.length) → (match (decide ((↑x : Int) < (↑A.length : Int))) with | true => (match (inb (↑x : Int) A.length) with | true => (match (inb (↑x : Int) A.length) with | true => (match (slOk (some (↑x : Int)) none none (↑(digN b32 (A.length + B.length + (1 : Nat)) (nvB b32 (List.take x A) * nvB b32 B)).length : Int)) with | true => ((∃ x1 : Nat, ((((↑x : Int).toNat + x1).le (A.length + B.length + (1 : Nat))) ∧ ((True ∧ (True ∧ (True ∧ (((↑x : Int) = (↑x : Int)) ∧ ((at' (0 : Int) A (↑x : Int) = at' (0 : Int) A (↑x : Int)) ∧ ((True ∧ (True ∧ True)) ∧ (True ∧ (((↑A.length : Int) = (↑A.length : Int)) ∧ (((↑x : Int) = (↑x : Int)) ∧ ((IntKind.i64.wrap ((↑(digN b32 (A.length + B.length + (1 : Nat)) (nvB b32 (List.take x A) * nvB b32 B)).length : Int) - (↑x : Int)) = IntKind.i64.wrap ((↑(digN b32 (A.length + B.length + (1 : Nat)) (nvB b32 (List.take x A) * nvB b32 B)).length : Int) - (↑x : Int))) ∧ (((↑x1 : Int) = (0 : Int)) ∧ True))))))))))) ∧ ((A = A) ∧ ((B = B) ∧ ((mixN b32 ((↑x : Int).toNat + x1) (A.length + B.length + (1 : Nat)) (nvB b32 (List.take (↑x : Int).toNat A) * nvB b32 B + b32 ^ (↑x : Int).toNat * (Int.toNat (at' (0 : Int) A (↑x : Int)) * nvB b32 B)) (nvB b32 (List.take (↑x : Int).toNat A) * nvB b32 B) = digN b32 (A.length + B.length + (1 : Nat)) (nvB b32 (List.take x A) * nvB b32 B)) ∧ ((((optB (some (↑x : Int)) (0 : Int) = optB (some (↑x : Int)) (0 : Int)) ∧ ((↑(digN b32 (A.length + B.length + (1 : Nat)) (nvB b32 (List.take x A) * nvB b32 B)).length : Int) - optB (some (↑x : Int)) (0 : Int) = (↑(digN b32 (A.length + B.length + (1 : Nat)) (nvB b32 (List.take x A) * nvB b32 B)).length : Int) - optB (some (↑x : Int)) (0 : Int))) ∧ True) ∧ ((((↑(mulC b32 (↑x : Int).toNat x1 (nvB b32 (List.take (↑x : Int).toNat A) * nvB b32 B) (Int.toNat (at' (0 : Int) A (↑x : Int))) B) : Int) = (0 : Int)) ∧ True) ∧ True)))))))) ∧ (∀ x1 : Nat, ((((↑x : Int).toNat + x1).le (A.length + B.length + (1 : Nat))) → (match (decide ((↑x1 : Int) < IntKind.i64.wrap ((↑(digN b32 (A.length + B.length + (1 : Nat)) (nvB b32 (List.take x A) * nvB b32 B)).length : Int) - (↑x : Int)))) with | true => (match (decide ((0 : Int) ≤ (↑x1 : Int) ∧ OkB b32 B)) with | true => (match (inb (IntKind.i64.wrap ((↑x : Int) + (↑x1 : Int))) (mixN b32 ((↑x : Int).toNat + x1) (A.length + B.length + (1 : Nat)) (nvB b32 (List.take (↑x : Int).toNat A) * nvB b32 B + b32 ^ (↑x : Int).toNat * (Int.toNat (at' (0 : Int) A (↑x : Int)) * nvB b32 B)) (nvB b32 (List.take (↑x : Int).toNat A) * nvB b32 B)).length) with | true => (match (inb (IntKind.i64.wrap ((↑x : Int) + (↑x1 : Int))) (mixN b32 ((↑x : Int).toNat + x1) (A.length + B.length + (1 : Nat)) (nvB b32 (List.take (↑x : Int).toNat A) * nvB b32 B + b32 ^ (↑x : Int).toNat * (Int.toNat (at' (0 : Int) A (↑x : Int)) * nvB b32 B)) (nvB b32 (List.take (↑x : Int).toNat A) * nvB b32 B)).length) with | true => (match (decide ((0 : Int) ≤ (↑x1 : Int) ∧ (↑x1 : Int) < (↑(digN b32 (A.length + B.length + (1 : Nat)) (nvB b32 (List.take x A) * nvB b32 B)).length : Int) - optB (some (↑x : Int)) (0 : Int) ∧ (0 : Int) ≤ optB (some (↑x : Int)) (0 : Int) ∧ optB (some (↑x : Int)) (0 : Int) + ((↑(digN b32 (A.length + B.length + (1 : Nat)) (nvB b32 (List.take x A) * nvB b32 B)).length : Int) - optB (some (↑x : Int)) (0 : Int)) ≤ (↑(mixN b32 ((↑x : Int).toNat + x1) (A.length + B.length + (1 : Nat)) (nvB b32 (List.take (↑x : Int).toNat A) * nvB b32 B + b32 ^ (↑x : Int).toNat * (Int.toNat (at' (0 : Int) A (↑x : Int)) * nvB b32 B)) (nvB b32 (List.take (↑x : Int).toNat A) * nvB b32 B)).length : Int) ∧ (0 : Int) ≤ IntKind.u64.wrap (IntKind.u64.wrap (IntKind.u64.wrap (at' (0 : Int) A (↑x : Int)) * (↑(gd B (↑x1 : Int).toNat) : Int)) + IntKind.u64.wrap (at' (0 : Int) (mixN b32 ((↑x : Int).toNat + x1) (A.length + B.length + (1 : Nat)) (nvB b32 (List.take (↑x : Int).toNat A) * nvB b32 B + b32 ^ (↑x : Int).toNat * (Int.toNat (at' (0 : Int) A (↑x : Int)) * nvB b32 B)) (nvB b32 (List.take (↑x : Int).toNat A) * nvB b32 B)) (IntKind.i64.wrap ((↑x : Int) + (↑x1 : Int))))) ∧ (0 : Int) ≤ (↑(mulC b32 (↑x : Int).toNat x1 (nvB b32 (List.take (↑x : Int).toNat A) * nvB b32 B) (Int.toNat (at' (0 : Int) A (↑x : Int))) B) : Int) ∧ IntKind.u64.wrap (IntKind.u64.wrap (IntKind.u64.wrap (at' (0 : Int) A (↑x : Int)) * (↑(gd B (↑x1 : Int).toNat) : Int)) + IntKind.u64.wrap (at' (0 : Int) (mixN b32 ((↑x : Int).toNat + x1) (A.length + B.length + (1 : Nat)) (nvB b32 (List.take (↑x : Int).toNat A) * nvB b32 B + b32 ^ (↑x : Int).toNat * (Int.toNat (at' (0 : Int) A (↑x : Int)) * nvB b32 B)) (nvB b32 (List.take (↑x : Int).toNat A) * nvB b32 B)) (IntKind.i64.wrap ((↑x : Int) + (↑x1 : Int))))) + (↑(mulC b32 (↑x : Int).toNat x1 (nvB b32 (List.take (↑x : Int).toNat A) * nvB b32 B) (Int.toNat (at' (0 : Int) A (↑x : Int))) B) : Int) < (18446744073709551616 : Int))) with | true => (∃ x' : Nat, ((((↑x : Int).toNat + x').le (A.length + B.length + (1 : Nat))) ∧ ((A.length + B.length + (1 : Nat) - x' < A.length + B.length + (1 : Nat) - x1) ∧ ((True ∧ (True ∧ (True ∧ (((↑x : Int) = (↑x : Int)) ∧ ((at' (0 : Int) A (↑x : Int) = at' (0 : Int) A (↑x : Int)) ∧ ((True ∧ (True ∧ True)) ∧ (True ∧ (((↑A.length : Int) = (↑A.length : Int)) ∧ (((↑x : Int) = (↑x : Int)) ∧ ((IntKind.i64.wrap ((↑(digN b32 (A.length + B.length + (1 : Nat)) (nvB b32 (List.take x A) * nvB b32 B)).length : Int) - (↑x : Int)) = IntKind.i64.wrap ((↑(digN b32 (A.length + B.length + (1 : Nat)) (nvB b32 (List.take x A) * nvB b32 B)).length : Int) - (↑x : Int))) ∧ (((↑x' : Int) = IntKind.i64.wrap ((↑x1 : Int) + (1 : Int))) ∧ True))))))))))) ∧ ((A = A) ∧ ((B = B) ∧ ((mixN b32 ((↑x : Int).toNat + x') (A.length + B.length + (1 : Nat)) (nvB b32 (List.take (↑x : Int).toNat A) * nvB b32 B + b32 ^ (↑x : Int).toNat * (Int.toNat (at' (0 : Int) A (↑x : Int)) * nvB b32 B)) (nvB b32 (List.take (↑x : Int).toNat A) * nvB b32 B) = (mixN b32 ((↑x : Int).toNat + x1) (A.length + B.length + (1 : Nat)) (nvB b32 (List.take (↑x : Int).toNat A) * nvB b32 B + b32 ^ (↑x : Int).toNat * (Int.toNat (at' (0 : Int) A (↑x : Int)) * nvB b32 B)) (nvB b32 (List.take (↑x : Int).toNat A) * nvB b32 B)).set (optB (some (↑x : Int)) (0 : Int) + (↑x1 : Int)).toNat ((IntKind.u64.wrap (IntKind.u64.wrap (IntKind.u64.wrap (at' (0 : Int) A (↑x : Int)) * (↑(gd B (↑x1 : Int).toNat) : Int)) + IntKind.u64.wrap (at' (0 : Int) (mixN b32 ((↑x : Int).toNat + x1) (A.length + B.length + (1 : Nat)) (nvB b32 (List.take (↑x : Int).toNat A) * nvB b32 B + b32 ^ (↑x : Int).toNat * (Int.toNat (at' (0 : Int) A (↑x : Int)) * nvB b32 B)) (nvB b32 (List.take (↑x : Int).toNat A) * nvB b32 B)) (IntKind.i64.wrap ((↑x : Int) + (↑x1 : Int))))) + (↑(mulC b32 (↑x : Int).toNat x1 (nvB b32 (List.take (↑x : Int).toNat A) * nvB b32 B) (Int.toNat (at' (0 : Int) A (↑x : Int))) B) : Int)) % (4294967296 : Int))) ∧ ((((optB (some (↑x : Int)) (0 : Int) = optB (some (↑x : Int)) (0 : Int)) ∧ ((↑(digN b32 (A.length + B.length + (1 : Nat)) (nvB b32 (List.take x A) * nvB b32 B)).length : Int) - optB (some (↑x : Int)) (0 : Int) = (↑(digN b32 (A.length + B.length + (1 : Nat)) (nvB b32 (List.take x A) * nvB b32 B)).length : Int) - optB (some (↑x : Int)) (0 : Int))) ∧ True) ∧ ((((↑(mulC b32 (↑x : Int).toNat x' (nvB b32 (List.take (↑x : Int).toNat A) * nvB b32 B) (Int.toNat (at' (0 : Int) A (↑x : Int))) B) : Int) = (IntKind.u64.wrap (IntKind.u64.wrap (IntKind.u64.wrap (at' (0 : Int) A (↑x : Int)) * (↑(gd B (↑x1 : Int).toNat) : Int)) + IntKind.u64.wrap (at' (0 : Int) (mixN b32 ((↑x : Int).toNat + x1) (A.length + B.length + (1 : Nat)) (nvB b32 (List.take (↑x : Int).toNat A) * nvB b32 B + b32 ^ (↑x : Int).toNat * (Int.toNat (at' (0 : Int) A (↑x : Int)) * nvB b32 B)) (nvB b32 (List.take (↑x : Int).toNat A) * nvB b32 B)) (IntKind.i64.wrap ((↑x : Int) + (↑x1 : Int))))) + (↑(mulC b32 (↑x : Int).toNat x1 (nvB b32 (List.take (↑x : Int).toNat A) * nvB b32 B) (Int.toNat (at' (0 : Int) A (↑x : Int))) B) : Int)) / (4294967296 : Int)) ∧ True) ∧ True))))))))) | false => False) | false => False) | false => False) | false => False) | false => (∃ x' : Nat, ((x'.le A.length) ∧ ((A.length - x' < A.length - x) ∧ ((True ∧ (True ∧ (True ∧ (True ∧ (((↑A.length : Int) = (↑A.length : Int)) ∧ (((↑x' : Int) = IntKind.i64.wrap ((↑x : Int) + (1 : Int))) ∧ True)))))) ∧ ((A = A) ∧ ((B = B) ∧ ((digN b32 (A.length + B.length + (1 : Nat)) (nvB b32 (List.take x' A) * nvB b32 B) = mixN b32 ((↑x : Int).toNat + x1) (A.length + B.length + (1 : Nat)) (nvB b32 (List.take (↑x : Int).toNat A) * nvB b32 B + b32 ^ (↑x : Int).toNat * (Int.toNat (at' (0 : Int) A (↑x : Int)) * nvB b32 B)) (nvB b32 (List.take (↑x : Int).toNat A) * nvB b32 B)) ∧ True))))))))))) | false => False) | false => False) | false => False) | false => (match (decide ((digN b32 (A.length + B.length + (1 : Nat)) (nvB b32 (List.take x A) * nvB b32 B)).length ≤ (3000 : Nat))) with | true => ((True ∧ True) ∧ ((A = A) ∧ ((B = B) ∧ ((lim (nvB b32 A * nvB b32 B) = cutD (digN b32 (A.length + B.length + (1 : Nat)) (nvB b32 (List.take x A) * nvB b32 B))) ∧ True)))) | false => False))))) | false => False)
theorem natMulVc (A B : List Int) : fnX { X2 with vw := true } (annOf [(3, { σ := Nat, st := fun S x => ((S.keep [0, 1, 5, 17, 18]).int 19 x).at' 5 (.vec 2 (digN b32 (A.length + B.length + 1) (nvB b32 (A.take x) * nvB b32 B)) 104), inv := fun _ x => x ≤ A.length, m := fun x => A.length - x }), (7, { σ := Nat, st := fun S x => atCap (((S.keep [0, 1, 5, 6, 7, 8, 17, 18, 19, 31]).int 32 x).at' 5 (.vec 2 (mixN b32 ((S.gi 6).toNat + x) (A.length + B.length + 1) (nvB b32 (A.take (S.gi 6).toNat) * nvB b32 B + b32 ^ (S.gi 6).toNat * ((S.gi 7).toNat * nvB b32 B)) (nvB b32 (A.take (S.gi 6).toNat) * nvB b32 B)) 104)) 8 0 (.cells [.raw (.int .u64 ((mulC b32 (S.gi 6).toNat x (nvB b32 (A.take (S.gi 6).toNat) * nvB b32 B) (S.gi 7).toNat B : Nat) : Int))] 73), inv := fun S x => (S.gi 6).toNat + x ≤ A.length + B.length + 1, m := fun x => A.length + B.length + 1 - x })] []) Try.f71 [.own 0, .own 1] [.ro 2 A, .ro 2 B] (ends [.ro 2 A, .ro 2 B] ⟨some (.own 2), [(2, some (.ro 2 (lim (nvB b32 A * nvB b32 B))))]⟩) = natMulText A B := by kernel_rfl
theorem natMulHolds (A B : List Int) (hp : isN A ∧ isN B ∧ A.length ≤ 1000 ∧ B.length ≤ 1000) : natMulText A B := by
  unfold natMulText
  obtain ⟨ha, hb, la, lb⟩ := hp
  have hw : IntKind.i64.wrap (IntKind.i64.wrap ((A.length : Int) + (B.length : Int)) + 1) = ((A.length + B.length + 1 : Nat) : Int) := by
    rw [wrap_id (n := (A.length : Int) + (B.length : Int)) (by omega) (by omega), wrap_id (by omega) (by omega)]; omega
  have hV : nvB b32 A * nvB b32 B < b32 ^ (A.length + B.length + 1) := by
    have h1 : nvB b32 A * nvB b32 B ≤ b32 ^ A.length * b32 ^ B.length := Nat.mul_le_mul (Nat.le_of_lt (nv_lt ha)) (Nat.le_of_lt (nv_lt hb))
    rw [← Nat.pow_add] at h1
    exact Nat.lt_of_le_of_lt h1 (Nat.pow_lt_pow_right (by decide) (by omega))
  have hN : A.length + B.length + 1 ≤ 2001 := by omega
  have hNA : A.length < A.length + B.length + 1 := by omega
  rw [hw]
  generalize A.length + B.length + 1 = N at hN hV hNA ⊢
  rw [Int.toNat_natCast, show (decide (0 ≤ (N : Int)) && decide ((N : Int) = (N : Int)) && roomy N 4) = true by simp [roomy]; omega]
  have e0 : digN b32 N (nvB b32 (A.take 0) * nvB b32 B) = List.replicate N 0 := by rw [List.take_zero, show nvB b32 [] = 0 from rfl, Nat.zero_mul, digN_zero]
  refine ⟨⟨0, Nat.zero_le _, by repeat' first | exact e0 | trivial | rfl | apply And.intro⟩, ?_⟩
  intro i hi
  have hi : i ≤ A.length := hi
  by_cases h : i < A.length
  · have hwi := wrap_succ h (show A.length ≤ 140737488355328 by omega)
    have hAi : 0 ≤ A[i] ∧ A[i] < 4294967296 := ha.ok _ (List.getElem_mem h)
    obtain ⟨d, hd⟩ : ∃ d : Nat, A[i] = (d : Int) := ⟨A[i].toNat, by omega⟩
    have hV2 : nvB b32 (A.take (i + 1)) * nvB b32 B = nvB b32 (A.take i) * nvB b32 B + b32 ^ i * (d * nvB b32 B) := by
      rw [nvB_take_succ, gd_lt h, hd, Int.toNat_natCast, Nat.add_mul, Nat.mul_assoc]
    rw [dec_lt h, inb_nat h, digN_length, slOk_from (show i ≤ N by omega), Int.toNat_natCast, at_nat h, hd, Int.toNat_natCast, show IntKind.i64.wrap ((N : Int) - (i : Int)) = ((N - i : Nat) : Int) by rw [wrap_id (by omega) (by omega)]; omega, show optB (some (i : Int)) 0 = (i : Int) from rfl]
    generalize nvB b32 (A.take i) * nvB b32 B = V at hV2 ⊢
    refine ⟨⟨0, by show i + 0 ≤ N; omega, ?_⟩, ?_⟩
    · have e1 : mixN b32 (i + 0) N (V + b32 ^ i * (d * nvB b32 B)) V = digN b32 N V := mixN_none fun k hk => dig_add b32_gt hk
      have e2 : ((mulC b32 i 0 V d B : Nat) : Int) = 0 := by rw [mulC_zero]; rfl
      repeat' first | exact e1 | exact e2 | trivial | rfl | apply And.intro
    intro k hk
    have hk : i + k ≤ N := hk
    rw [Int.toNat_natCast, mixN_length]
    by_cases g : k < N - i
    · have hwk : ((k + 1 : Nat) : Int) = IntKind.i64.wrap ((k : Int) + 1) := by rw [wrap_id (by omega) (by omega)]; omega
      obtain ⟨m1, m2⟩ := mul_step (i := i) (k := k) (v := V) (x := d) b32_gt B
      have g1 : gd B k < 4294967296 := gd_ok (by decide) hb.ok k
      have g2 : dig b32 (i + k) V < 4294967296 := dig_lt (by decide)
      have g3 : mulC b32 i k V d B < 4294967296 := mulC_lt b32_gt hb.ok (by omega : d < 4294967296)
      have g4 : d * gd B k ≤ 4294967295 * 4294967295 := Nat.mul_le_mul (by omega) (by omega)
      rw [dec_lt g, decide_eq_true (⟨by omega, hb.ok⟩ : 0 ≤ (k : Int) ∧ OkB b32 B), show IntKind.i64.wrap ((i : Int) + (k : Int)) = ((i + k : Nat) : Int) by rw [wrap_id (by omega) (by omega)]; omega, inb_nat (show i + k < N by omega), mixN_at (by omega) (i + k) (Nat.le_refl _) (by omega)]
      rw [u64_id (n := (d : Int)) (by omega) (by omega), ← Int.natCast_mul]
      generalize gd B k = bk at g1 g4 m1 m2 ⊢
      generalize d * bk = p at g4 m1 m2 ⊢
      generalize dig b32 (i + k) V = q at g2 m1 m2 ⊢
      generalize mulC b32 i k V d B = c at g3 m1 m2 ⊢
      rw [u64_id (n := (p : Int)) (by omega) (by omega), u64_id (n := (q : Int)) (by omega) (by omega), u64_id (n := (p : Int) + (q : Int)) (by omega) (by omega), decide_eq_true (show 0 ≤ (k : Int) ∧ (k : Int) < (N : Int) - (i : Int) ∧ 0 ≤ (i : Int) ∧ (i : Int) + ((N : Int) - (i : Int)) ≤ (N : Int) ∧ 0 ≤ (p : Int) + (q : Int) ∧ 0 ≤ (c : Int) ∧ (p : Int) + (q : Int) + (c : Int) < 18446744073709551616 by omega), show ((i : Int) + (k : Int)).toNat = i + k by omega]
      have e1 : mixN b32 (i + (k + 1)) N (V + b32 ^ i * (d * nvB b32 B)) V = (mixN b32 (i + k) N (V + b32 ^ i * (d * nvB b32 B)) V).set (i + k) (((p : Int) + (q : Int) + (c : Int)) % 4294967296) := by
        rw [← Nat.add_assoc, ← mixN_set (show i + k < N by omega), m1]
        congr 1
      have e2 : ((mulC b32 i (k + 1) V d B : Nat) : Int) = ((p : Int) + (q : Int) + (c : Int)) / 4294967296 := by rw [m2]; show ((_ / 4294967296 : Nat) : Int) = _; omega
      refine ⟨k + 1, by show i + (k + 1) ≤ N; omega, by omega, ?_⟩
      repeat' first | exact hwk | exact e1 | exact e2 | trivial | rfl | apply And.intro
    · rw [dec_ge (by omega)]
      have e : digN b32 N (nvB b32 (A.take (i + 1)) * nvB b32 B) = mixN b32 (i + k) N (V + b32 ^ i * (d * nvB b32 B)) V := by rw [hV2, mixN_all (by omega)]
      refine ⟨i + 1, h, by omega, ?_⟩
      repeat' first | exact hwi.symm | exact e | trivial | rfl | apply And.intro
  · obtain rfl : i = A.length := by omega
    rw [dec_ge (Nat.le_refl _), digN_length, decide_eq_true (show N ≤ 3000 by omega), List.take_length]
    have e : lim (nvB b32 A * nvB b32 B) = cutD (digN b32 N (nvB b32 A * nvB b32 B)) := (cutD_digN b32_gt hV).symm
    repeat' first | exact e | trivial | rfl | apply And.intro
noncomputable def natMulBCon : Con T O := fun args cs => match args, cs with
  | [.own 0, .own 1], [.ro 2 A, .ro 2 B] => chk (decide (isN A ∧ isN B ∧ A.length ≤ 1000 ∧ B.length ≤ 1000)) (.ret ⟨some (.own 2), [(2, some (.ro 2 (lim (nvB b32 A * nvB b32 B))))]⟩)
  | _, _ => .fail
theorem natMulBOk : ConOk R Try.prog 71 natMulBCon := con_of_fn R ({ X2 with vw := true }) (TabOk.con R X2Ok) mixed Try.call71 Try.func71 natMulBCon (by
  intro args cs K h
  unfold natMulBCon at h
  split at h
  · rename_i A B
    rw [Tree.holds_chk] at h
    obtain ⟨hp, h⟩ := h
    refine ⟨annOf [(3, { σ := Nat, st := fun S x => ((S.keep [0, 1, 5, 17, 18]).int 19 x).at' 5 (.vec 2 (digN b32 (A.length + B.length + 1) (nvB b32 (A.take x) * nvB b32 B)) 104), inv := fun _ x => x ≤ A.length, m := fun x => A.length - x }), (7, { σ := Nat, st := fun S x => atCap (((S.keep [0, 1, 5, 6, 7, 8, 17, 18, 19, 31]).int 32 x).at' 5 (.vec 2 (mixN b32 ((S.gi 6).toNat + x) (A.length + B.length + 1) (nvB b32 (A.take (S.gi 6).toNat) * nvB b32 B + b32 ^ (S.gi 6).toNat * ((S.gi 7).toNat * nvB b32 B)) (nvB b32 (A.take (S.gi 6).toNat) * nvB b32 B)) 104)) 8 0 (.cells [.raw (.int .u64 ((mulC b32 (S.gi 6).toNat x (nvB b32 (A.take (S.gi 6).toNat) * nvB b32 B) (S.gi 7).toNat B : Nat) : Int))] 73), inv := fun S x => (S.gi 6).toNat + x ≤ A.length + B.length + 1, m := fun x => A.length + B.length + 1 - x })] [], _, fun v S hv => ⟨_, h, hv⟩, ?_⟩
    rw [natMulVc A B]
    exact natMulHolds A B (of_decide_eq_true hp)
  · exact h.elim)
noncomputable def natMulCon : Con T O := relax 2 natMulBCon
theorem natMulOk : ConOk R Try.prog 71 natMulCon := relax_ok R 2 natMulBOk
noncomputable def tab3 : Tab T O := (70, natCmpCon) :: (104, natAddCon) :: (71, natMulCon) :: tab2
theorem tabOk3 : TabOk R Try.prog tab3 := TabOk.cons R natCmpOk <| TabOk.cons R natAddOk <| TabOk.cons R natMulOk <| tabOk2
noncomputable def X3 : Ctx T O := { X0 with con := conOf tab3 }
theorem X3Ok : TabOk R X3.P tab3 := tabOk3
end Go.Proofs.Ytmnnjclnldaejaa
