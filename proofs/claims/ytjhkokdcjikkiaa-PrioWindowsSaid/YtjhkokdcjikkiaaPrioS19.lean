/-
  Part of a proof over the seat Ytjhkokdcjikkiaa: printed by a small program or typed by hand.
-/
import Derived.Test.YtjhkokdcjikkiaaPrioS18
import Derived.KernelRfl
namespace Go.Proofs.Ytjhkokdcjikkiaa
open Go.Sx Go.Proofs Classical

theorem sumTo_eq (N : List Ent) : ∀ x, x ≤ N.length → sumTo N x = ((N.take x).map (ahead N)).sum
  | 0, _ => rfl
  | x + 1, h => by
    have hx : x < N.length := h
    rw [sumTo, sumTo_eq N x (by omega), take_snoc hx, List.map_append, List.sum_append, at_nat hx]
    simp
theorem range_sum : ∀ n : Nat, 2 * (List.range n).sum + n = n * n
  | 0 => rfl
  | n + 1 => by
    have := range_sum n
    rw [List.range_succ, List.sum_append, Nat.mul_add, Nat.add_mul, Nat.mul_add]
    simp only [List.sum_cons, List.sum_nil]
    omega
theorem Nums.sum {f : Nat → Int} {N : List Ent} (h : Nums f N) : 2 * sumTo N N.length + N.length = N.length * N.length := by
  rw [sumTo_eq N N.length (Nat.le_refl _), List.take_length]
  have e : ((srt N).map (ahead N)) = List.range N.length := by
    apply List.ext_getElem
    · rw [List.length_map, srt_length, List.length_range]
    · intro k h1 h2
      have g : k < N.length := by simpa using h2
      obtain ⟨j, hj, e1, e2⟩ := h.place k g
      have gS : k < (srt N).length := by rw [srt_length]; exact g
      rw [at_nat gS] at e1
      rw [List.getElem_map, e1, e2, List.getElem_range]
  have hp : (N.map (ahead N)).sum = ((srt N).map (ahead N)).sum := (((srt_perm N).symm.map (ahead N))).sum_nat
  rw [hp, e]
  exact range_sum _
theorem Nums.ahead_lt {f : Nat → Int} {N : List Ent} (_h : Nums f N) (i : Nat) (hi : i < N.length) : ahead N N[i] < N.length := by
  have := ahead_le N N[i]
  rcases Nat.lt_or_ge (ahead N N[i]) N.length with hlt | hge
  · exact hlt
  · exfalso
    have e : N.countP (fun y => prioLess y N[i]) = N.length := by unfold ahead at hge this; omega
    have := (List.countP_eq_length.1 e) N[i] (List.getElem_mem _)
    rw [less_false (lt6_irrefl _)] at this
    cases this
theorem sumTo_le {f : Nat → Int} {N : List Ent} (h : Nums f N) : ∀ x, x ≤ N.length → sumTo N x ≤ x * N.length
  | 0, _ => Nat.zero_le _
  | x + 1, hx => by
    have := sumTo_le h x (by omega)
    have h2 := h.ahead_lt x hx
    rw [sumTo, at_nat (show x < N.length from hx), Nat.add_mul]
    omega

/-! ### regatta/regattalaw06.PrioRank -/
def prioRankLawText (L : List Ent) : Prop := (match (roomy ((0 : Nat) + (List.take (20 : Nat) L).length) (nat_lit 48)) with | true => ((∃ x : Nat, ((x.le (List.take (20 : Nat) L).length) ∧ ((True ∧ ((true = true) ∧ (True ∧ (((↑x : Int) = (0 : Int)) ∧ (True ∧ True))))) ∧ ((L = L) ∧ ((List.take (20 : Nat) L = List.take (20 : Nat) L) ∧ ((reTo (fun i => (100 : Int) - (↑i : Int)) (List.take (20 : Nat) L) x = [] ++ List.take (20 : Nat) L) ∧ True)))))) ∧ (∀ x : Nat, ((x.le (List.take (20 : Nat) L).length) → (match (decide ((↑x : Int) < (↑(reTo (fun i => (100 : Int) - (↑i : Int)) (List.take (20 : Nat) L) x).length : Int))) with | true => (match (inb (↑x : Int) (reTo (fun i => (100 : Int) - (↑i : Int)) (List.take (20 : Nat) L) x).length) with | true => (match (inb (↑x : Int) (reTo (fun i => (100 : Int) - (↑i : Int)) (List.take (20 : Nat) L) x).length) with | true => (∃ x' : Nat, ((x'.le (List.take (20 : Nat) L).length) ∧ (((List.take (20 : Nat) L).length - x' < (List.take (20 : Nat) L).length - x) ∧ ((True ∧ ((true = true) ∧ (True ∧ (((↑x' : Int) = IntKind.i64.wrap ((↑x : Int) + (1 : Int))) ∧ (True ∧ True))))) ∧ ((L = L) ∧ ((List.take (20 : Nat) L = List.take (20 : Nat) L) ∧ ((reTo (fun i => (100 : Int) - (↑i : Int)) (List.take (20 : Nat) L) x' = (reTo (fun i => (100 : Int) - (↑i : Int)) (List.take (20 : Nat) L) x).set (↑x : Int).toNat (Ent.mk (IntKind.i64.wrap ((100 : Int) - (↑x : Int))) (at' entE.zero (reTo (fun i => (100 : Int) - (↑i : Int)) (List.take (20 : Nat) L) x) (↑x : Int)).SubIndex (at' entE.zero (reTo (fun i => (100 : Int) - (↑i : Int)) (List.take (20 : Nat) L) x) (↑x : Int)).SubRelease (at' entE.zero (reTo (fun i => (100 : Int) - (↑i : Int)) (List.take (20 : Nat) L) x) (↑x : Int)).SubDeadline (at' entE.zero (reTo (fun i => (100 : Int) - (↑i : Int)) (List.take (20 : Nat) L) x) (↑x : Int)).SubBit (at' entE.zero (reTo (fun i => (100 : Int) - (↑i : Int)) (List.take (20 : Nat) L) x) (↑x : Int)).SubGroup)) ∧ True))))))) | false => False) | false => False) | false => ((∃ x1 : Nat, ((x1.le (reTo (fun i => (100 : Int) - (↑i : Int)) (List.take (20 : Nat) L) x).length) ∧ ((True ∧ ((true = true) ∧ (True ∧ (((↑(sumTo (reTo (fun i => (100 : Int) - (↑i : Int)) (List.take (20 : Nat) L) x) x1) : Int) = (0 : Int)) ∧ (((↑x1 : Int) = (0 : Int)) ∧ (True ∧ True)))))) ∧ ((L = L) ∧ ((List.take (20 : Nat) L = List.take (20 : Nat) L) ∧ ((reTo (fun i => (100 : Int) - (↑i : Int)) (List.take (20 : Nat) L) x = reTo (fun i => (100 : Int) - (↑i : Int)) (List.take (20 : Nat) L) x) ∧ True)))))) ∧ (∀ x1 : Nat, ((x1.le (reTo (fun i => (100 : Int) - (↑i : Int)) (List.take (20 : Nat) L) x).length) → (match (decide ((↑x1 : Int) < (↑(reTo (fun i => (100 : Int) - (↑i : Int)) (List.take (20 : Nat) L) x).length : Int))) with | true => (match (decide ((reTo (fun i => (100 : Int) - (↑i : Int)) (List.take (20 : Nat) L) x).length ≤ (1000 : Nat))) with | true => (match (decide (rankL (reTo (fun i => (100 : Int) - (↑i : Int)) (List.take (20 : Nat) L) x) (IntKind.i64.wrap ((100 : Int) - (↑x1 : Int))) < (0 : Int))) with | true => (((true = false) ∧ True) ∧ ((L = L) ∧ True)) | false => (match (decide (rankL (reTo (fun i => (100 : Int) - (↑i : Int)) (List.take (20 : Nat) L) x) (IntKind.i64.wrap ((100 : Int) - (↑x1 : Int))) ≥ (↑(reTo (fun i => (100 : Int) - (↑i : Int)) (List.take (20 : Nat) L) x).length : Int))) with | true => (((true = false) ∧ True) ∧ ((L = L) ∧ True)) | false => (∃ x' : Nat, ((x'.le (reTo (fun i => (100 : Int) - (↑i : Int)) (List.take (20 : Nat) L) x).length) ∧ (((20 : Nat) - x' < (20 : Nat) - x1) ∧ ((True ∧ ((true = true) ∧ (True ∧ (((↑(sumTo (reTo (fun i => (100 : Int) - (↑i : Int)) (List.take (20 : Nat) L) x) x') : Int) = IntKind.i64.wrap ((↑(sumTo (reTo (fun i => (100 : Int) - (↑i : Int)) (List.take (20 : Nat) L) x) x1) : Int) + rankL (reTo (fun i => (100 : Int) - (↑i : Int)) (List.take (20 : Nat) L) x) (IntKind.i64.wrap ((100 : Int) - (↑x1 : Int))))) ∧ (((↑x' : Int) = IntKind.i64.wrap ((↑x1 : Int) + (1 : Int))) ∧ (True ∧ True)))))) ∧ ((L = L) ∧ ((List.take (20 : Nat) L = List.take (20 : Nat) L) ∧ ((reTo (fun i => (100 : Int) - (↑i : Int)) (List.take (20 : Nat) L) x = reTo (fun i => (100 : Int) - (↑i : Int)) (List.take (20 : Nat) L) x) ∧ True))))))))) | false => False) | false => (match ((↑(sumTo (reTo (fun i => (100 : Int) - (↑i : Int)) (List.take (20 : Nat) L) x) x1) : Int) == IntKind.i64.wrap ((IntKind.i64.wrap ((↑(reTo (fun i => (100 : Int) - (↑i : Int)) (List.take (20 : Nat) L) x).length : Int) * IntKind.i64.wrap ((↑(reTo (fun i => (100 : Int) - (↑i : Int)) (List.take (20 : Nat) L) x).length : Int) - (1 : Int)))).tdiv (2 : Int))) with | true => (match (decide ((reTo (fun i => (100 : Int) - (↑i : Int)) (List.take (20 : Nat) L) x).length ≤ (1000 : Nat))) with | true => (((true = (rankL (reTo (fun i => (100 : Int) - (↑i : Int)) (List.take (20 : Nat) L) x) (200 : Int) == (-1 : Int))) ∧ True) ∧ ((L = L) ∧ True)) | false => False) | false => (((true = false) ∧ True) ∧ ((L = L) ∧ True))))))))))) | false => False)
theorem prioRankLawVc (L : List Ent) : fnX X18 (annOf [(4, { σ := Nat, st := fun S x => ((S.keep [0, 3, 4, 12]).int 5 x).at' 4 (.vec 2 (reTo (fun i => 100 - (i : Int)) (L.take 20) x) 25), inv := fun _ x => x ≤ (L.take 20).length, m := fun x => (L.take 20).length - x }), (9, { σ := Nat, st := fun S x => ((S.keep [0, 3, 4, 12]).int 7 x).int 6 ((sumTo (S.gv 4 2) x : Nat) : Int), inv := fun S x => x ≤ (S.gv 4 2).length, m := fun x => 20 - x })] []) Try.f7 [.own 0] [.ro 2 L] (ends [.ro 2 L] ⟨some (.raw (.bool true)), []⟩) = prioRankLawText L := by kernel_rfl
theorem prioRankLawHolds (L : List Ent) : prioRankLawText L := by
  unfold prioRankLawText
  have hM : (L.take 20).length ≤ 20 := by rw [List.length_take]; omega
  generalize L.take 20 = M at hM ⊢
  rw [show roomy (0 + M.length) 48 = true from decide_eq_true (by omega)]
  refine ⟨⟨0, Nat.zero_le _, by repeat' first | exact reTo_zero _ _ | trivial | rfl | apply And.intro⟩, ?_⟩
  rintro x hx
  by_cases h : x < M.length
  · have hwx := wrap_succ h (show M.length ≤ 140737488355328 by omega)
    have hs := reTo_set (fun i => 100 - (i : Int)) M x h
    simp only [reTo_length _ _ _ hx, dec_lt h, inb_nat h, reTo_at _ _ _ h, show IntKind.i64.wrap (100 - (x : Int)) = 100 - (x : Int) from wrap_id (by omega) (by omega)]
    refine ⟨x + 1, h, by omega, ?_⟩
    repeat' first | exact hwx.symm | exact hs.symm | trivial | rfl | apply And.intro
  · obtain rfl : x = M.length := Nat.le_antisymm hx (by omega)
    rw [reTo_all]
    have hN : Nums (fun i => 100 - (i : Int)) (reId (fun i => 100 - (i : Int)) M) := reId_nums (fun i j e => by omega) M
    have hl := reId_length (fun i => 100 - (i : Int)) M
    generalize reId (fun i => 100 - (i : Int)) M = N at hN hl ⊢
    rw [← hl] at hM ⊢
    rw [dec_ge (Nat.le_refl _), decide_eq_true (show N.length ≤ 1000 by omega)]
    refine ⟨⟨0, Nat.zero_le _, by repeat' first | trivial | rfl | apply And.intro⟩, ?_⟩
    rintro k hk
    have hb := sumTo_le hN k hk
    have hb2 : k * N.length ≤ 20 * 20 := Nat.mul_le_mul (Nat.le_trans hk hM) hM
    by_cases g : k < N.length
    · have hwk := wrap_succ g (show N.length ≤ 140737488355328 by omega)
      have hr : rankL N (100 - (k : Int)) = ahead N N[k] := hN.rank k g
      have ha := hN.ahead_lt k g
      rw [dec_lt g, show IntKind.i64.wrap (100 - (k : Int)) = 100 - (k : Int) from wrap_id (by omega) (by omega), hr, show decide ((ahead N N[k] : Int) < 0) = false from decide_eq_false (by omega), show decide ((ahead N N[k] : Int) ≥ (N.length : Int)) = false from decide_eq_false (by omega)]
      have hsum : (sumTo N (k + 1) : Int) = IntKind.i64.wrap ((sumTo N k : Int) + (ahead N N[k] : Int)) := by
        rw [wrap_id (by omega) (by omega), sumTo, at_nat g]
        omega
      refine ⟨k + 1, g, by omega, ?_⟩
      repeat' first | exact hwk.symm | exact hsum | trivial | rfl | apply And.intro
    · obtain rfl : k = N.length := Nat.le_antisymm hk (by omega)
      have hs := hN.sum
      have hno : rankL N 200 = -1 := hN.no (fun i hi => by omega)
      have hmul : (N.length : Int) * ((N.length : Int) - 1) = 2 * (sumTo N N.length : Int) := by
        have : ((2 * sumTo N N.length + N.length : Nat) : Int) = ((N.length * N.length : Nat) : Int) := by rw [hs]
        rw [Int.natCast_mul] at this
        rw [Int.mul_sub]
        omega
      have hv : IntKind.i64.wrap ((IntKind.i64.wrap ((N.length : Int) * IntKind.i64.wrap ((N.length : Int) - 1))).tdiv 2) = (sumTo N N.length : Int) := by
        rw [wrap_id (n := (N.length : Int) - 1) (by omega) (by omega), hmul, wrap_id (n := 2 * (sumTo N N.length : Int)) (by omega) (by omega), Int.mul_tdiv_cancel_left _ (by omega), wrap_id (by omega) (by omega)]
      rw [dec_ge (Nat.le_refl _), hv, hno, beq_self_eq_true]
      repeat' first | trivial | rfl | apply And.intro
noncomputable def prioRankLawCon : Con T O := fun args cs => match args, cs with
  | [.own 0], [.ro 2 _] => .ret ⟨some (.raw (.bool true)), []⟩
  | _, _ => .fail
theorem prioRankLawOk : ConOk R Try.prog 7 prioRankLawCon := con_of_fn R (X18) (TabOk.con R X18Ok) mixed Try.call7 Try.func7 prioRankLawCon (by
  intro args cs K h
  unfold prioRankLawCon at h
  split at h
  · rename_i L
    refine ⟨annOf [(4, { σ := Nat, st := fun S x => ((S.keep [0, 3, 4, 12]).int 5 x).at' 4 (.vec 2 (reTo (fun i => 100 - (i : Int)) (L.take 20) x) 25), inv := fun _ x => x ≤ (L.take 20).length, m := fun x => (L.take 20).length - x }), (9, { σ := Nat, st := fun S x => ((S.keep [0, 3, 4, 12]).int 7 x).int 6 ((sumTo (S.gv 4 2) x : Nat) : Int), inv := fun S x => x ≤ (S.gv 4 2).length, m := fun x => 20 - x })] [], _, fun v S hv => ⟨_, h, hv⟩, ?_⟩
    rw [prioRankLawVc L]
    exact prioRankLawHolds L
  · exact h.elim)
noncomputable def tab19 : Tab T O := (7, prioRankLawCon) :: tab18
theorem tabOk19 : TabOk R Try.prog tab19 := TabOk.cons R prioRankLawOk <| tabOk18
noncomputable def X19 : Ctx T O := { X0 with con := conOf tab19 }
theorem X19Ok : TabOk R X19.P tab19 := tabOk19
end Go.Proofs.Ytjhkokdcjikkiaa
