/-
  Part of a proof over the seat Ythfggjfpokknlaa: printed by a small program or typed by hand.
-/
import Derived.Test.YthfggjfpokknlaaStaS20
import Derived.KernelRfl
import Derived.Test.YthfggjfpokknlaaSxAnn2
namespace Go.Proofs.Ythfggjfpokknlaa
open Go.Sx Go.Proofs Classical

/-! ### the document's top -/
/-- the first one of the greatest, of those up to a place -/
def maxN (l : List Cnt) : Nat → Nat
  | 0 => 0
  | x + 1 => bif decide ((at' cz l ((x + 1 : Nat) : Int)).N > (at' cz l (maxN l x : Int)).N) then x + 1 else maxN l x
def selT : Nat → List Cnt → List Int
  | 0, _ => []
  | n + 1, l => bif l.length == 0 then [] else (at' cz l (maxN l (l.length - 1) : Int)).K :: selT n (l.eraseIdx (maxN l (l.length - 1)))
theorem maxN_le (l : List Cnt) : ∀ x, maxN l x ≤ x
  | 0 => Nat.le_refl _
  | x + 1 => by
    have := maxN_le l x
    simp only [maxN]
    cases decide ((at' cz l ((x + 1 : Nat) : Int)).N > (at' cz l (maxN l x : Int)).N)
    · rw [cond_false]; omega
    · rw [cond_true]; omega
theorem slOk_from {k n : Nat} (h : k ≤ n) : slOk (some (k : Int)) none none (n : Int) = true := by simp [slOk, optB]; omega
theorem selT_nil : ∀ n, selT n [] = []
  | 0 => rfl
  | _ + 1 => rfl
theorem selT_cons {n : Nat} {l : List Cnt} (h : 0 < l.length) : selT (n + 1) l = (at' cz l (maxN l (l.length - 1) : Int)).K :: selT n (l.eraseIdx (maxN l (l.length - 1))) := by
  rw [selT, show (l.length == 0) = false by rw [beq_eq_false_iff_ne]; omega, cond_false]
/-- more of them, or as many and ahead in the row -/
theorem maxN_spec (l : List Cnt) : ∀ x, x < l.length → ∀ k, k ≤ x → k ≠ maxN l x → (at' cz l (k : Int)).N < (at' cz l (maxN l x : Int)).N ∨ ((at' cz l (k : Int)).N = (at' cz l (maxN l x : Int)).N ∧ maxN l x < k)
  | 0, _, k, hk, hne => by
    simp only [maxN] at hne
    omega
  | x + 1, hx, k, hk, hne => by
    have hm := maxN_le l x
    have ih := maxN_spec l x (by omega)
    simp only [maxN] at hne ⊢
    by_cases c : (at' cz l ((x + 1 : Nat) : Int)).N > (at' cz l (maxN l x : Int)).N
    · rw [decide_eq_true c, cond_true] at hne ⊢
      by_cases e : k = maxN l x
      · rw [e]; exact .inl c
      · have := ih k (by omega) e
        omega
    · rw [decide_eq_false c, cond_false] at hne ⊢
      by_cases e : k = x + 1
      · rw [e]
        omega
      · exact ih k (by omega) hne
theorem selT_take {M : CM} : ∀ (n : Nat) (l : List Cnt), AscK l → (∀ c ∈ l, getM M c.K = c.N) → selT n l = (srtT (tlI M) (l.map (·.K))).take n
  | 0, l, _, _ => by simp [selT]
  | n + 1, l, ha, hg => by
    by_cases h0 : l.length = 0
    · rw [List.eq_nil_of_length_eq_zero h0, selT_nil]
      simp [srtT]
    · have hx : l.length - 1 < l.length := by omega
      have hm := maxN_le l (l.length - 1)
      have hml : maxN l (l.length - 1) < l.length := by omega
      have sp := maxN_spec l (l.length - 1) hx
      rw [selT_cons (by omega)]
      generalize hM : maxN l (l.length - 1) = m at *
      have hat : at' cz l (m : Int) = l[m] := at_nat hml
      have hperm : l.Perm (l[m] :: l.eraseIdx m) := by
        rw [List.eraseIdx_eq_take_drop_succ]
        have e := List.take_append_drop m l
        rw [List.drop_eq_getElem_cons hml] at e
        exact (List.Perm.of_eq e.symm).trans List.perm_middle
      have ha' : AscK (l.eraseIdx m) := ha.sublist (List.eraseIdx_sublist _ _)
      have hg' : ∀ c ∈ l.eraseIdx m, getM M c.K = c.N := fun c hc => hg c (List.mem_of_mem_eraseIdx hc)
      rw [selT_take n _ ha' hg', hat]
      have e : srtT (tlI M) (l.map (·.K)) = l[m].K :: srtT (tlI M) ((l.eraseIdx m).map (·.K)) := by
        refine srtT_eq (ordI M) ?_ ?_
        · exact ((srtT_perm _).cons _).trans (hperm.map (fun c : Cnt => c.K)).symm
        · refine List.pairwise_cons.2 ⟨fun b hb => ?_, srtT_asc (ordI M) ?_⟩
          · have hb := (srtT_perm _).mem_iff.1 hb
            obtain ⟨c, hc, rfl⟩ := List.mem_map.1 hb
            rw [List.eraseIdx_eq_take_drop_succ] at hc
            obtain ⟨k, hk, hkm, rfl⟩ : ∃ k, ∃ hk : k < l.length, k ≠ m ∧ l[k] = c := by
              rcases List.mem_append.1 hc with hc | hc
              · obtain ⟨k, hk, e⟩ := List.getElem_of_mem hc
                rw [List.length_take] at hk
                exact ⟨k, by omega, by omega, by simpa using e⟩
              · obtain ⟨k, hk, e⟩ := List.getElem_of_mem hc
                rw [List.length_drop] at hk
                exact ⟨m + 1 + k, by omega, by omega, by simpa using e⟩
            have := sp k (by omega) hkm
            rw [at_nat hk, hat] at this
            rw [tlI_iff, hg _ (List.getElem_mem hk), hg _ (List.getElem_mem hml)]
            rcases this with t | ⟨t, t2⟩
            · exact .inl t
            · exact .inr ⟨t.symm, List.pairwise_iff_getElem.1 ha m k hml hk t2⟩
          · refine List.pairwise_map.2 (ha'.imp fun {a b} hab => ?_)
            have hab : a.K < b.K := hab
            rw [tlI_iff, tlI_iff]
            omega
      rw [e, List.take_succ_cons]
theorem RefOk.top {M : CM} {L : List Cnt} (h : RefOk M L) (n : Nat) : selT n L = (topI M).take n := by
  unfold topI
  rw [h.keys]
  exact selT_take n L h.asc fun c hc => ((h.mem c).1 hc).2
theorem topI_asc {M : CM} (h : keysNd M) : AscT (tlI M) (topI M) := srtT_asc (ordI M) (PreT.comp (ordI M) (keysS_pre h))
theorem addM_length (M : CM) (k n : Int) : (addM M k n).length ≤ M.length + 1 := by
  unfold addM
  cases addN (getM M k) n == 0
  · rw [cond_false, length_mput]
    split <;> omega
  · rw [cond_true]
    exact Nat.le_succ_of_le (mdel_sub k M).length_le
def OpsOk (L : List Op) : Prop := ∀ o ∈ L, (-9223372036854775808 ≤ o.K ∧ o.K ≤ 9223372036854775807) ∧ (-9223372036854775808 ≤ o.N ∧ o.N ≤ 9223372036854775807)
theorem IDOk.take {L : List Note} (h : IDOk L) (n : Nat) : IDOk (L.take n) := fun m hm => h m (List.mem_of_mem_take hm)
theorem CoreOk.take {L : List Note} (h : CoreOk L) (n : Nat) : CoreOk (L.take n) := fun m hm => h m (List.mem_of_mem_take hm)
/-! ### the document's counts are the same -/
theorem runs_ref : ∀ (L : List Note), IDOk L → RefOk (runsM L) (runsR L) := by
  refine snocRec ?_ ?_
  · intro _; exact RefOk.nil
  · intro L n ih h
    rw [runsM_snoc, runsR_snoc]
    exact ((ih fun m hm => h m (List.mem_append_left _ hm)).add (h n (by simp)) (by omega)).1
theorem cores_ref : ∀ (L : List Note), CoreOk L → RefOk (coresM L) (coresR L) := by
  refine snocRec ?_ ?_
  · intro _; exact RefOk.nil
  · intro L n ih h
    rw [coresM_snoc, coresR_snoc]
    exact ((ih fun m hm => h m (List.mem_append_left _ hm)).add (h n (by simp)) (by omega)).1
theorem lastC_last (L : List Note) (id : Int) : ∀ x, x ≤ L.length → lastC L id x = mget id (movesQ (L.take x)).2
  | 0, _ => by simp [lastC, movesQ, mget, noCount]
  | x + 1, hx => by
    have h : x < L.length := hx
    rw [lastC, take_snoc h, movesQ_snoc, at_nat h]
    show _ = mget id (mput L[x].ID L[x].Core (movesQ (L.take x)).2)
    rw [mget_put]
    by_cases e : L[x].ID = id
    · rw [show (L[x].ID == id) = true from beq_iff_eq.2 e, cond_true, if_pos e.symm]
    · rw [show (L[x].ID == id) = false from beq_eq_false_iff_ne.2 e, cond_false, if_neg (fun h => e h.symm)]
      exact lastC_last L id x (by omega)
theorem movesN_ref (L : List Note) (h : IDOk L) : ∀ x, x ≤ L.length → RefOk (movesQ (L.take x)).1 (movesRN L x)
  | 0, _ => RefOk.nil
  | x + 1, hx => by
    have hl : x < L.length := hx
    have ih := movesN_ref L h x (by omega)
    have hid := h _ (List.getElem_mem hl)
    rw [take_snoc hl, movesQ_snoc, movesRN, moveR, at_nat hl, lastC_last L _ x (by omega)]
    unfold moveStep moved
    cases hm : mget L[x].ID (movesQ (L.take x)).2 with
    | none => exact ih
    | some c =>
      show RefOk (bif true && c != L[x].Core then _ else _) (bif c != L[x].Core then _ else _)
      rw [Bool.true_and]
      cases c != L[x].Core
      · exact ih
      · exact (ih.add hid (by omega)).1
theorem moves_ref {L : List Note} (h : IDOk L) : RefOk (movesQ L).1 (movesR L) := by
  have := movesN_ref L h L.length (Nat.le_refl _)
  rwa [List.take_length] at this
/-- have the two counters the same counts? -/
def allC (M : CM) (R : List Cnt) : Bool := R.all fun c => getM M c.K == c.N
def sameC (M : CM) (R : List Cnt) : Bool := allC M R && sameZ (keysS M) (ksR R)
theorem RefOk.same {M : CM} {R : List Cnt} (h : RefOk M R) : sameC M R = true := by
  unfold sameC
  rw [Bool.and_eq_true]
  exact ⟨List.all_eq_true.2 fun c hc => beq_iff_eq.2 ((h.mem c).1 hc).2, decide_eq_true h.keys⟩

/-! ### (*regatta/regattaref21.Counter).Top -/
def topRCText (R : List Cnt) (n : Int) : Prop := (match (roomy ((0 : Nat) + R.length) (nat_lit 16)) with | true => ((∃ x : List Int × List Cnt, (((x.fst.length + x.snd.length = R.length) ∧ ((x.fst.length ≤ n.toNat) ∧ (selT n.toNat R = x.fst ++ selT (n.toNat - x.fst.length) x.snd))) ∧ ((True ∧ ((n = n) ∧ (True ∧ (True ∧ True)))) ∧ ((True ∧ True) ∧ ((R = R) ∧ ((x.fst = []) ∧ ((x.snd = [] ++ R) ∧ True))))))) ∧ (∀ x : List Int × List Cnt, (((x.fst.length + x.snd.length = R.length) ∧ ((x.fst.length ≤ n.toNat) ∧ (selT n.toNat R = x.fst ++ selT (n.toNat - x.fst.length) x.snd))) → (match (decide ((↑x.fst.length : Int) < n)) with | true => (match (decide ((↑x.snd.length : Int) > (0 : Int))) with | true => ((∃ x1 : Nat, (((x1 + (1 : Nat)).le x.snd.length) ∧ ((True ∧ ((n = n) ∧ (True ∧ (True ∧ (((↑(maxN x.snd x1) : Int) = (0 : Int)) ∧ (((↑(x1 + (1 : Nat)) : Int) = (1 : Int)) ∧ True)))))) ∧ ((True ∧ True) ∧ ((R = R) ∧ ((x.fst = x.fst) ∧ ((x.snd = x.snd) ∧ True))))))) ∧ (∀ x1 : Nat, (((x1 + (1 : Nat)).le x.snd.length) → (match (decide ((↑(x1 + (1 : Nat)) : Int) < (↑x.snd.length : Int))) with | true => (match (inb (↑(x1 + (1 : Nat)) : Int) x.snd.length) with | true => (match (inb (↑(x1 + (1 : Nat)) : Int) x.snd.length) with | true => (match (inb (↑(maxN x.snd x1) : Int) x.snd.length) with | true => (match (inb (↑(maxN x.snd x1) : Int) x.snd.length) with | true => (match (decide ((at' cntE.zero x.snd (↑(x1 + (1 : Nat)) : Int)).N > (at' cntE.zero x.snd (↑(maxN x.snd x1) : Int)).N)) with | true => (∃ x' : Nat, (((x' + (1 : Nat)).le x.snd.length) ∧ (((1000 : Nat) - x' < (1000 : Nat) - x1) ∧ ((True ∧ ((n = n) ∧ (True ∧ (True ∧ (((↑(maxN x.snd x') : Int) = (↑(x1 + (1 : Nat)) : Int)) ∧ (((↑(x' + (1 : Nat)) : Int) = IntKind.i64.wrap ((↑(x1 + (1 : Nat)) : Int) + (1 : Int))) ∧ True)))))) ∧ ((True ∧ True) ∧ ((R = R) ∧ ((x.fst = x.fst) ∧ ((x.snd = x.snd) ∧ True)))))))) | false => (∃ x' : Nat, (((x' + (1 : Nat)).le x.snd.length) ∧ (((1000 : Nat) - x' < (1000 : Nat) - x1) ∧ ((True ∧ ((n = n) ∧ (True ∧ (True ∧ (((↑(maxN x.snd x') : Int) = (↑(maxN x.snd x1) : Int)) ∧ (((↑(x' + (1 : Nat)) : Int) = IntKind.i64.wrap ((↑(x1 + (1 : Nat)) : Int) + (1 : Int))) ∧ True)))))) ∧ ((True ∧ True) ∧ ((R = R) ∧ ((x.fst = x.fst) ∧ ((x.snd = x.snd) ∧ True))))))))) | false => False) | false => False) | false => False) | false => False) | false => (match (inb (↑(maxN x.snd x1) : Int) x.snd.length) with | true => (match (inb (↑(maxN x.snd x1) : Int) x.snd.length) with | true => (match (roomy (x.fst.length + (1 : Nat)) (nat_lit 8)) with | true => (match (slOk none (some (↑(maxN x.snd x1) : Int)) none (↑x.snd.length : Int)) with | true => (match (roomy ((0 : Nat) + (cutL none (some (↑(maxN x.snd x1) : Int)) x.snd).length) (nat_lit 16)) with | true => (match (slOk (some (IntKind.i64.wrap ((↑(maxN x.snd x1) : Int) + (1 : Int)))) none none (↑x.snd.length : Int)) with | true => (match (roomy (([] ++ cutL none (some (↑(maxN x.snd x1) : Int)) x.snd).length + (cutL (some (IntKind.i64.wrap ((↑(maxN x.snd x1) : Int) + (1 : Int)))) none x.snd).length) (nat_lit 16)) with | true => (∃ x' : List Int × List Cnt, (((x'.fst.length + x'.snd.length = R.length) ∧ ((x'.fst.length ≤ n.toNat) ∧ (selT n.toNat R = x'.fst ++ selT (n.toNat - x'.fst.length) x'.snd))) ∧ ((x'.snd.length < x.snd.length) ∧ ((True ∧ ((n = n) ∧ (True ∧ (True ∧ True)))) ∧ ((True ∧ True) ∧ ((R = R) ∧ ((x'.fst = x.fst ++ [(at' cntE.zero x.snd (↑(maxN x.snd x1) : Int)).K]) ∧ ((x'.snd = [] ++ cutL none (some (↑(maxN x.snd x1) : Int)) x.snd ++ cutL (some (IntKind.i64.wrap ((↑(maxN x.snd x1) : Int) + (1 : Int)))) none x.snd) ∧ True)))))))) | false => False) | false => False) | false => False) | false => False) | false => False) | false => False) | false => False))))) | false => ((True ∧ True) ∧ ((True ∧ True) ∧ ((R = R) ∧ ((selT n.toNat R = x.fst) ∧ True))))) | false => ((True ∧ True) ∧ ((True ∧ True) ∧ ((R = R) ∧ ((selT n.toNat R = x.fst) ∧ True)))))))) | false => False)
theorem topRCVc (R : List Cnt) (n : Int) : fnX X20 (annOf [(3, { σ := List Int × List Cnt, st := fun S x => (((S.keep [0, 1]).gc 2).new 5 (.vec 0 x.1 3)).new 6 (.vec 5 x.2 60), inv := fun _ x => x.1.length + x.2.length = R.length ∧ x.1.length ≤ n.toNat ∧ selT n.toNat R = x.1 ++ selT (n.toNat - x.1.length) x.2, m := fun x => x.2.length }),
   (6, { σ := Nat, st := fun S x => ((S.keep [0, 1, 5, 6]).int 7 (maxN (S.gv 6 5) x)).int 8 (x + 1 : Nat), inv := fun S x => x + 1 ≤ (S.gv 6 5).length, m := fun x => 1000 - x })] [] [(11, [6])]) Try.f21 [.ptr 0 0, .raw (.int .i64 n)] [.cells [.own 1] 29, .vec 5 R 60] (ends [.cells [.own 1] 29, .vec 5 R 60] ⟨some (.own 2), [(1, some (.vec 5 R 60)), (2, some (.vec 0 (selT n.toNat R) 3))]⟩) = topRCText R n := by kernel_rfl
theorem topRCHolds (R : List Cnt) (n : Int) (hp : R.length ≤ 900) : topRCText R n := by
  unfold topRCText
  rw [show roomy (0 + R.length) 16 = true from decide_eq_true (by omega)]
  refine ⟨⟨([], R), ⟨by simp, Nat.zero_le _, rfl⟩, by repeat' first | trivial | rfl | apply And.intro⟩, ?_⟩
  rintro ⟨out, l⟩ ⟨h1, h2, h3⟩
  dsimp only at h1 h2 h3 ⊢
  by_cases c : (out.length : Int) < n
  · rw [decide_eq_true c]
    by_cases g : 0 < l.length
    · rw [decide_eq_true (show (l.length : Int) > 0 by omega)]
      refine ⟨⟨0, by show 0 + 1 ≤ l.length; omega, by repeat' first | trivial | rfl | apply And.intro⟩, ?_⟩
      intro x hx
      have hx : x + 1 ≤ l.length := hx
      have hm := maxN_le l x
      have hml : maxN l x < l.length := by omega
      by_cases e : x + 1 < l.length
      · have hwx : ((x + 1 + 1 : Nat) : Int) = IntKind.i64.wrap (((x + 1 : Nat) : Int) + 1) := by rw [wrap_id (by omega) (by omega)]; omega
        rw [dec_lt e, inb_nat e, inb_nat hml]
        cases ho : decide ((at' cntE.zero l ((x + 1 : Nat) : Int)).N > (at' cntE.zero l (maxN l x : Int)).N)
        · have hs : maxN l (x + 1) = maxN l x := by simp only [maxN]; rw [show decide ((at' cz l ((x + 1 : Nat) : Int)).N > (at' cz l (maxN l x : Int)).N) = false from ho]; rfl
          refine ⟨x + 1, e, by omega, ?_⟩
          rw [hs]
          repeat' first | exact hwx | trivial | rfl | apply And.intro
        · have hs : maxN l (x + 1) = x + 1 := by simp only [maxN]; rw [show decide ((at' cz l ((x + 1 : Nat) : Int)).N > (at' cz l (maxN l x : Int)).N) = true from ho]; rfl
          refine ⟨x + 1, e, by omega, ?_⟩
          rw [hs]
          repeat' first | exact hwx | trivial | rfl | apply And.intro
      · obtain rfl : x = l.length - 1 := by omega
        rw [dec_ge (by omega)]
        obtain ⟨k, hk⟩ : ∃ k, n.toNat - out.length = k + 1 := ⟨n.toNat - out.length - 1, by omega⟩
        rw [hk, selT_cons g] at h3
        generalize maxN l (l.length - 1) = m at *
        have ew : IntKind.i64.wrap ((m : Int) + 1) = ((m + 1 : Nat) : Int) := by rw [wrap_id (by omega) (by omega)]; omega
        have c1 : cutL none (some (m : Int)) l = l.take m := rfl
        have c2 : cutL (some ((m + 1 : Nat) : Int)) none l = l.drop (m + 1) := by simp [cutL, optB]
        have ee : ([] : List Cnt) ++ l.take m ++ l.drop (m + 1) = l.eraseIdx m := by rw [List.eraseIdx_eq_take_drop_succ]; rfl
        have le : (l.eraseIdx m).length + 1 = l.length := by rw [List.length_eraseIdx, if_pos hml]; omega
        rw [ew, inb_nat hml, c1, c2, room8 out (by omega), slOk_cut (Nat.le_of_lt hml), slOk_from (show m + 1 ≤ l.length by omega), show roomy (0 + (l.take m).length) 16 = true from decide_eq_true (by rw [List.length_take]; omega), show roomy ((([] : List Cnt) ++ l.take m).length + (l.drop (m + 1)).length) 16 = true from decide_eq_true (by simp; omega)]
        refine ⟨(out ++ [(at' cz l (m : Int)).K], l.eraseIdx m), ⟨by simp; omega, by simp; omega, ?_⟩, by dsimp only; omega, ?_⟩
        · dsimp only
          rw [h3, show n.toNat - (out ++ [(at' cz l (m : Int)).K]).length = k by simp; omega]
          simp
        · repeat' first | exact ee.symm | trivial | rfl | apply And.intro
    · rw [decide_eq_false (show ¬ (l.length : Int) > 0 by omega)]
      have e : selT n.toNat R = out := by rw [h3, List.eq_nil_of_length_eq_zero (by omega : l.length = 0), selT_nil, List.append_nil]
      repeat' first | exact e | trivial | rfl | apply And.intro
  · rw [decide_eq_false c]
    have e : selT n.toNat R = out := by rw [h3, show n.toNat - out.length = 0 by omega]; simp [selT]
    repeat' first | exact e | trivial | rfl | apply And.intro
noncomputable def topRCCon : Con T O := fun args cs => match args, cs with
  | [.ptr 0 0, .raw (.int .i64 n)], [.cells [.own 1] 29, .vec 5 R 60] => chk (decide (R.length ≤ 900)) (.ret ⟨some (.own 2), [(1, some (.vec 5 R 60)), (2, some (.vec 0 (selT n.toNat R) 3))]⟩)
  | _, _ => .fail
theorem topRCOk : ConOk R Try.prog 21 topRCCon := con_of_fn R (X20) (TabOk.con R X20Ok) mixed Try.call21 Try.func21 topRCCon (by
  intro args cs K h
  unfold topRCCon at h
  split at h
  · rename_i n R
    rw [Tree.holds_chk] at h
    obtain ⟨hp, h⟩ := h
    refine ⟨annOf [(3, { σ := List Int × List Cnt, st := fun S x => (((S.keep [0, 1]).gc 2).new 5 (.vec 0 x.1 3)).new 6 (.vec 5 x.2 60), inv := fun _ x => x.1.length + x.2.length = R.length ∧ x.1.length ≤ n.toNat ∧ selT n.toNat R = x.1 ++ selT (n.toNat - x.1.length) x.2, m := fun x => x.2.length }),
   (6, { σ := Nat, st := fun S x => ((S.keep [0, 1, 5, 6]).int 7 (maxN (S.gv 6 5) x)).int 8 (x + 1 : Nat), inv := fun S x => x + 1 ≤ (S.gv 6 5).length, m := fun x => 1000 - x })] [] [(11, [6])], _, fun v S hv => ⟨_, h, hv⟩, ?_⟩
    rw [topRCVc R n]
    exact topRCHolds R n (of_decide_eq_true hp)
  · exact h.elim)
/-! ### regatta/regattalaw21.same -/
def sameCCText (M : CM) (R : List Cnt) : Prop := (match (decide (keysOk M = true)) with | true => (match (decide (R.length ≤ (1000 : Nat))) with | true => (match (decide ((keysS M).length ≤ (1000 : Nat))) with | true => ((∃ x : Nat, (((x ≤ R.length) ∧ (allC M R = allC M (List.drop x R))) ∧ ((True ∧ (True ∧ ((sameZ (keysS M) (ksR R) = sameZ (keysS M) (ksR R)) ∧ (((↑x : Int) = (0 : Int)) ∧ (True ∧ (True ∧ True)))))) ∧ ((True ∧ True) ∧ ((True ∧ True) ∧ ((M = M) ∧ ((R = R) ∧ ((keysS M = keysS M) ∧ ((ksR R = ksR R) ∧ True))))))))) ∧ (∀ x : Nat, (((x ≤ R.length) ∧ (allC M R = allC M (List.drop x R))) → (match (decide ((↑x : Int) < (↑R.length : Int))) with | true => (match (inb (↑x : Int) R.length) with | true => (match (inb (↑x : Int) R.length) with | true => (match (inb (↑x : Int) R.length) with | true => (match (inb (↑x : Int) R.length) with | true => (match (getM M (at' cntE.zero R (↑x : Int)).K != (at' cntE.zero R (↑x : Int)).N) with | true => (((sameC M R = false) ∧ True) ∧ ((True ∧ True) ∧ ((True ∧ True) ∧ ((M = M) ∧ ((R = R) ∧ True))))) | false => (∃ x' : Nat, (((x' ≤ R.length) ∧ (allC M R = allC M (List.drop x' R))) ∧ ((R.length - x' < R.length - x) ∧ ((True ∧ (True ∧ ((sameZ (keysS M) (ksR R) = sameZ (keysS M) (ksR R)) ∧ (((↑x' : Int) = IntKind.i64.wrap ((↑x : Int) + (1 : Int))) ∧ (True ∧ (True ∧ True)))))) ∧ ((True ∧ True) ∧ ((True ∧ True) ∧ ((M = M) ∧ ((R = R) ∧ ((keysS M = keysS M) ∧ ((ksR R = ksR R) ∧ True))))))))))) | false => False) | false => False) | false => False) | false => False) | false => (((sameC M R = sameZ (keysS M) (ksR R)) ∧ True) ∧ ((True ∧ True) ∧ ((True ∧ True) ∧ ((M = M) ∧ ((R = R) ∧ True))))))))) | false => False) | false => False) | false => False)
theorem sameCCVc (M : CM) (R : List Cnt) : fnX X20 (oneLoop 3 { σ := Nat, st := fun S x => ((S.keep [0, 1, 8, 10]).bool 5 (sameZ (keysS M) (ksR R))).int 6 x, inv := fun _ x => x ≤ R.length ∧ allC M R = allC M (R.drop x), m := fun x => R.length - x }) Try.f28 [.ptr 0 0, .ptr 1 0] [.cells [.own 2] 51, .cells [.own 3] 29, .map 0 M, .vec 5 R 60] (ends [.cells [.own 2] 51, .cells [.own 3] 29, .map 0 M, .vec 5 R 60] ⟨some (.raw (.bool (sameC M R))), [(2, some (.map 0 M)), (3, some (.vec 5 R 60))]⟩) = sameCCText M R := by kernel_rfl
theorem sameCCHolds (M : CM) (R : List Cnt) (hp : keysOk M = true ∧ R.length ≤ 900) : sameCCText M R := by
  unfold sameCCText
  obtain ⟨h1, h2⟩ := hp
  rw [decide_eq_true h1, decide_eq_true (show R.length ≤ 1000 by omega), decide_eq_true (show (keysS M).length ≤ 1000 by rw [keysS_length]; exact keysOk_len h1)]
  refine ⟨⟨0, ⟨Nat.zero_le _, by rw [List.drop_zero]⟩, by repeat' first | trivial | rfl | apply And.intro⟩, ?_⟩
  rintro x ⟨hx, hs⟩
  by_cases h : x < R.length
  · have hwx := wrap_succ h (show R.length ≤ 140737488355328 by omega)
    rw [drop_at h] at hs
    have hs : allC M R = (getM M R[x].K == R[x].N && allC M (R.drop (x + 1))) := hs
    rw [dec_lt h, inb_nat h, at_nat h]
    by_cases he : getM M R[x].K = R[x].N
    · rw [show (getM M R[x].K == R[x].N) = true from beq_iff_eq.2 he, Bool.true_and] at hs
      rw [show (getM M R[x].K != R[x].N) = false by rw [he]; simp]
      refine ⟨x + 1, ⟨h, hs⟩, by omega, ?_⟩
      repeat' first | exact hwx.symm | trivial | rfl | apply And.intro
    · rw [show (getM M R[x].K == R[x].N) = false from beq_eq_false_iff_ne.2 he, Bool.false_and] at hs
      rw [show (getM M R[x].K != R[x].N) = true from bne_iff_ne.2 he]
      have e : sameC M R = false := by unfold sameC; rw [hs]; rfl
      repeat' first | exact e | trivial | rfl | apply And.intro
  · rw [dec_ge (by omega)]
    rw [List.drop_of_length_le (by omega)] at hs
    have e : sameC M R = sameZ (keysS M) (ksR R) := by unfold sameC; rw [hs]; rfl
    repeat' first | exact e | trivial | rfl | apply And.intro
noncomputable def sameCCCon : Con T O := fun args cs => match args, cs with
  | [.ptr 0 0, .ptr 1 0], [.cells [.own 2] 51, .cells [.own 3] 29, .map 0 M, .vec 5 R 60] => chk (decide (keysOk M = true ∧ R.length ≤ 900)) (.ret ⟨some (.raw (.bool (sameC M R))), [(2, some (.map 0 M)), (3, some (.vec 5 R 60))]⟩)
  | _, _ => .fail
theorem sameCCOk : ConOk R Try.prog 28 sameCCCon := con_of_fn R (X20) (TabOk.con R X20Ok) mixed Try.call28 Try.func28 sameCCCon (by
  intro args cs K h
  unfold sameCCCon at h
  split at h
  · rename_i M R
    rw [Tree.holds_chk] at h
    obtain ⟨hp, h⟩ := h
    refine ⟨oneLoop 3 { σ := Nat, st := fun S x => ((S.keep [0, 1, 8, 10]).bool 5 (sameZ (keysS M) (ksR R))).int 6 x, inv := fun _ x => x ≤ R.length ∧ allC M R = allC M (R.drop x), m := fun x => R.length - x }, _, fun v S hv => ⟨_, h, hv⟩, ?_⟩
    rw [sameCCVc M R]
    exact sameCCHolds M R (of_decide_eq_true hp)
  · exact h.elim)
noncomputable def tab21 : Tab T O := (21, topRCCon) :: (28, sameCCCon) :: tab20
theorem tabOk21 : TabOk R Try.prog tab21 := TabOk.cons R topRCOk <| TabOk.cons R sameCCOk <| tabOk20
noncomputable def X21 : Ctx T O := { X0 with con := conOf tab21 }
theorem X21Ok : TabOk R X21.P tab21 := tabOk21
end Go.Proofs.Ythfggjfpokknlaa
