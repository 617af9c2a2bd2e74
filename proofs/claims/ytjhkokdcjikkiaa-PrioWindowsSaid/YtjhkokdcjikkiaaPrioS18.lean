/-
  Part of a proof over the seat Ytjhkokdcjikkiaa: printed by a small program or typed by hand.
-/
import Derived.Test.YtjhkokdcjikkiaaPrioS17
import Derived.KernelRfl
namespace Go.Proofs.Ytjhkokdcjikkiaa
open Go.Sx Go.Proofs Classical

def reId (f : Nat → Int) (L : List Ent) : List Ent := L.mapIdx fun i e => ⟨f i, e.SubIndex, e.SubRelease, e.SubDeadline, e.SubBit, e.SubGroup⟩
theorem reId_length (f : Nat → Int) (L : List Ent) : (reId f L).length = L.length := by simp [reId]
/-- as far as it has come -/
def reTo (f : Nat → Int) (L : List Ent) (x : Nat) : List Ent := (reId f L).take x ++ L.drop x
theorem reTo_length (f : Nat → Int) (L : List Ent) (x : Nat) (h : x ≤ L.length) : (reTo f L x).length = L.length := by
  simp [reTo, reId_length]; omega
theorem reTo_zero (f : Nat → Int) (L : List Ent) : reTo f L 0 = L := by simp [reTo]
theorem reTo_all (f : Nat → Int) (L : List Ent) : reTo f L L.length = reId f L := by
  unfold reTo
  rw [List.drop_length, List.append_nil, List.take_of_length_le (by rw [reId_length]; omega)]
theorem reTo_at (f : Nat → Int) (L : List Ent) (x : Nat) (h : x < L.length) : at' ez (reTo f L x) (x : Int) = L[x] := by
  unfold reTo
  rw [List.drop_eq_getElem_cons h]
  have := at_mid ((reId f L).take x) L[x] (L.drop (x + 1))
  rwa [List.length_take, reId_length, show min x L.length = x by omega] at this
theorem reTo_set (f : Nat → Int) (L : List Ent) (x : Nat) (h : x < L.length) : (reTo f L x).set x ⟨f x, L[x].SubIndex, L[x].SubRelease, L[x].SubDeadline, L[x].SubBit, L[x].SubGroup⟩ = reTo f L (x + 1) := by
  have hl : ((reId f L).take x).length = x := by rw [List.length_take, reId_length]; omega
  unfold reTo
  rw [List.drop_eq_getElem_cons h, List.set_append_right _ _ (by omega), hl, Nat.sub_self, List.set_cons_zero]
  rw [show (reId f L).take (x + 1) = (reId f L).take x ++ [(reId f L)[x]'(by rw [reId_length]; exact h)] from take_snoc (by rw [reId_length]; exact h)]
  simp [reId]
theorem reId_get (f : Nat → Int) (L : List Ent) (x : Nat) (h : x < (reId f L).length) : (reId f L)[x].ID = f x := by simp [reId]
def sumTo (N : List Ent) : Nat → Nat
  | 0 => 0
  | x + 1 => sumTo N x + ahead N (at' ez N (x : Int))
def marks (l : List Ent) : List Bool := l.foldl (fun b e => b.set e.ID.toNat true) (List.replicate 20 false)

theorem insL_perm (x : Ent) : ∀ l : List Ent, (insL x l).Perm (x :: l)
  | [] => List.Perm.refl _
  | y :: l => by
    simp only [insL]
    cases prioLess x y
    · rw [cond_false]
      exact ((insL_perm x l).cons y).trans (List.Perm.swap x y l)
    · rw [cond_true]
theorem srt_perm (L : List Ent) : (srt L).Perm L := by
  have : ∀ (L acc : List Ent), (L.foldl (fun acc x => insL x acc) acc).Perm (acc ++ L) := by
    intro L
    induction L with
    | nil => intro acc; simp
    | cons a L ih =>
      intro acc
      refine (ih _).trans ?_
      refine ((insL_perm a acc).append_right L).trans ?_
      exact List.perm_middle.symm
  simpa [srt] using this L []
theorem srt_strict {N : List Ent} (hd : N.Pairwise fun a b => a.ID ≠ b.ID) : (srt N).Pairwise lt6 := by
  have h1 := srt_sorted N
  have h2 : (srt N).Pairwise (fun a b => a.ID ≠ b.ID) := ((srt_perm N).pairwise_iff (fun h e => h e.symm)).2 hd
  exact (List.Pairwise.and h1 h2).imp fun ⟨a, b⟩ => (lt6_total b).resolve_right a
theorem ahead_srt (N : List Ent) (e : Ent) : ahead N e = ahead (srt N) e := ((srt_perm N).countP_eq _).symm
theorem less_false {a b : Ent} (h : ¬ lt6 a b) : prioLess a b = false := by
  rw [Bool.eq_false_iff]
  exact fun e => h ((less_iff a b).1 e)
theorem ahead_strict : ∀ {S : List Ent}, S.Pairwise lt6 → ∀ i (h : i < S.length), ahead S S[i] = i
  | [], _, i, h => by cases h
  | a :: l, hs, 0, _ => by
    obtain ⟨h1, _⟩ := List.pairwise_cons.1 hs
    unfold ahead
    rw [List.countP_eq_zero]
    intro b hb
    have : prioLess b a = false := by
      rcases List.mem_cons.1 hb with rfl | hb
      · exact less_false (lt6_irrefl _)
      · exact less_false (lt6_asymm (h1 b hb))
    simp [this]
  | a :: l, hs, i + 1, h => by
    obtain ⟨h1, h2⟩ := List.pairwise_cons.1 hs
    have hi : i < l.length := by simpa using h
    have ih := ahead_strict h2 i hi
    have hl : prioLess a l[i] = true := (less_iff _ _).2 (h1 _ (List.getElem_mem _))
    unfold ahead at ih ⊢
    rw [List.getElem_cons_succ, List.countP_cons, ih, hl]
    simp
/-- IDs by numbers -/
def Nums (f : Nat → Int) (N : List Ent) : Prop := (∀ i (h : i < N.length), N[i].ID = f i) ∧ ∀ i j, f i = f j → i = j
theorem Nums.pair {f : Nat → Int} {N : List Ent} (h : Nums f N) : N.Pairwise fun a b => a.ID ≠ b.ID := by
  rw [List.pairwise_iff_getElem]
  intro i j hi hj hij e
  rw [h.1 i hi, h.1 j hj] at e
  have := h.2 i j e
  omega
theorem Nums.rank {f : Nat → Int} {N : List Ent} (h : Nums f N) (i : Nat) (hi : i < N.length) : rankL N (f i) = ahead N N[i] := by
  rcases firstI_cases (idIs (f i)) N 0 with ⟨_, hf⟩ | ⟨n, hn, hf, hp, _⟩
  · have := hf N[i] (List.getElem_mem _)
    simp [idIs, h.1 i hi] at this
  · have e : n = i := h.2 n i (by rw [← h.1 n hn]; simpa [idIs] using hp)
    subst e
    rw [Int.zero_add] at hf
    rw [rank_found hf, at_nat hn]
theorem Nums.no {f : Nat → Int} {N : List Ent} (h : Nums f N) {id : Int} (hid : ∀ i, i < N.length → f i ≠ id) : rankL N id = -1 := by
  rcases firstI_cases (idIs id) N 0 with ⟨hf, _⟩ | ⟨n, hn, hf, hp, _⟩
  · exact rank_none hf
  · exfalso
    refine hid n hn ?_
    rw [← h.1 n hn]
    simpa [idIs] using hp
theorem Nums.place {f : Nat → Int} {N : List Ent} (h : Nums f N) (k : Nat) (g : k < N.length) : ∃ j, ∃ hj : j < N.length, at' ez (srt N) (k : Int) = N[j] ∧ ahead N N[j] = k := by
  have gS : k < (srt N).length := by rw [srt_length]; exact g
  have hm : (srt N)[k] ∈ N := (srt_perm N).mem_iff.1 (List.getElem_mem _)
  obtain ⟨j, hj, he⟩ := List.getElem_of_mem hm
  refine ⟨j, hj, by rw [at_nat gS, he], ?_⟩
  rw [he, ahead_srt]
  exact ahead_strict (srt_strict h.pair) k gS
theorem Nums.next {f : Nat → Int} {N : List Ent} (h : Nums f N) (k l : Nat) (hk : k ≤ l) (g : l < N.length) : prioLess (at' ez (srt N) (l : Int)) (at' ez (srt N) (k : Int)) = false := by
  have g1 : l < (srt N).length := by rw [srt_length]; exact g
  have g2 : k < (srt N).length := by omega
  rw [at_nat g1, at_nat g2]
  refine less_false ?_
  rcases Nat.lt_or_ge k l with hlt | hge
  · exact lt6_asymm (List.pairwise_iff_getElem.1 (srt_strict h.pair) k l g2 g1 hlt)
  · obtain rfl : k = l := by omega
    exact lt6_irrefl _
theorem reId_nums {f : Nat → Int} (hf : ∀ i j, f i = f j → i = j) (L : List Ent) : Nums f (reId f L) := ⟨fun i h => reId_get f L i h, hf⟩

/-! ### regatta/regattalaw06.PrioSorts -/
def prioSortsText (L : List Ent) : Prop := (match (roomy ((0 : Nat) + (List.take (20 : Nat) L).length) (nat_lit 48)) with | true => ((∃ x : Nat, ((x.le (List.take (20 : Nat) L).length) ∧ ((True ∧ ((true = true) ∧ (True ∧ (((↑x : Int) = (0 : Int)) ∧ (True ∧ True))))) ∧ ((L = L) ∧ ((List.take (20 : Nat) L = List.take (20 : Nat) L) ∧ ((reTo (fun i => (↑i : Int)) (List.take (20 : Nat) L) x = [] ++ List.take (20 : Nat) L) ∧ True)))))) ∧ (∀ x : Nat, ((x.le (List.take (20 : Nat) L).length) → (match (decide ((↑x : Int) < (↑(reTo (fun i => (↑i : Int)) (List.take (20 : Nat) L) x).length : Int))) with | true => (match (inb (↑x : Int) (reTo (fun i => (↑i : Int)) (List.take (20 : Nat) L) x).length) with | true => (match (inb (↑x : Int) (reTo (fun i => (↑i : Int)) (List.take (20 : Nat) L) x).length) with | true => (∃ x' : Nat, ((x'.le (List.take (20 : Nat) L).length) ∧ (((List.take (20 : Nat) L).length - x' < (List.take (20 : Nat) L).length - x) ∧ ((True ∧ ((true = true) ∧ (True ∧ (((↑x' : Int) = IntKind.i64.wrap ((↑x : Int) + (1 : Int))) ∧ (True ∧ True))))) ∧ ((L = L) ∧ ((List.take (20 : Nat) L = List.take (20 : Nat) L) ∧ ((reTo (fun i => (↑i : Int)) (List.take (20 : Nat) L) x' = (reTo (fun i => (↑i : Int)) (List.take (20 : Nat) L) x).set (↑x : Int).toNat (Ent.mk (↑x : Int) (at' entE.zero (reTo (fun i => (↑i : Int)) (List.take (20 : Nat) L) x) (↑x : Int)).SubIndex (at' entE.zero (reTo (fun i => (↑i : Int)) (List.take (20 : Nat) L) x) (↑x : Int)).SubRelease (at' entE.zero (reTo (fun i => (↑i : Int)) (List.take (20 : Nat) L) x) (↑x : Int)).SubDeadline (at' entE.zero (reTo (fun i => (↑i : Int)) (List.take (20 : Nat) L) x) (↑x : Int)).SubBit (at' entE.zero (reTo (fun i => (↑i : Int)) (List.take (20 : Nat) L) x) (↑x : Int)).SubGroup)) ∧ True))))))) | false => False) | false => False) | false => (match (decide ((reTo (fun i => (↑i : Int)) (List.take (20 : Nat) L) x).length ≤ (20 : Nat))) with | true => (match ((↑(isortN (reTo (fun i => (↑i : Int)) (List.take (20 : Nat) L) x) (reTo (fun i => (↑i : Int)) (List.take (20 : Nat) L) x).length).length : Int) != (↑(reTo (fun i => (↑i : Int)) (List.take (20 : Nat) L) x).length : Int)) with | true => (((true = false) ∧ True) ∧ ((L = L) ∧ True)) | false => ((∃ x1 : Nat, ((x1.le (isortN (reTo (fun i => (↑i : Int)) (List.take (20 : Nat) L) x) (reTo (fun i => (↑i : Int)) (List.take (20 : Nat) L) x).length).length) ∧ ((True ∧ ((true = true) ∧ (True ∧ (True ∧ (((↑x1 : Int) = (0 : Int)) ∧ (True ∧ True)))))) ∧ ((L = L) ∧ ((List.take (20 : Nat) L = List.take (20 : Nat) L) ∧ ((reTo (fun i => (↑i : Int)) (List.take (20 : Nat) L) x = reTo (fun i => (↑i : Int)) (List.take (20 : Nat) L) x) ∧ ((isortN (reTo (fun i => (↑i : Int)) (List.take (20 : Nat) L) x) (reTo (fun i => (↑i : Int)) (List.take (20 : Nat) L) x).length = isortN (reTo (fun i => (↑i : Int)) (List.take (20 : Nat) L) x) (reTo (fun i => (↑i : Int)) (List.take (20 : Nat) L) x).length) ∧ True))))))) ∧ (∀ x1 : Nat, ((x1.le (isortN (reTo (fun i => (↑i : Int)) (List.take (20 : Nat) L) x) (reTo (fun i => (↑i : Int)) (List.take (20 : Nat) L) x).length).length) → (match (decide ((↑x1 : Int) < (↑(isortN (reTo (fun i => (↑i : Int)) (List.take (20 : Nat) L) x) (reTo (fun i => (↑i : Int)) (List.take (20 : Nat) L) x).length).length : Int))) with | true => (match (inb (↑x1 : Int) (isortN (reTo (fun i => (↑i : Int)) (List.take (20 : Nat) L) x) (reTo (fun i => (↑i : Int)) (List.take (20 : Nat) L) x).length).length) with | true => (match (inb (↑x1 : Int) (isortN (reTo (fun i => (↑i : Int)) (List.take (20 : Nat) L) x) (reTo (fun i => (↑i : Int)) (List.take (20 : Nat) L) x).length).length) with | true => (match (decide ((at' entE.zero (isortN (reTo (fun i => (↑i : Int)) (List.take (20 : Nat) L) x) (reTo (fun i => (↑i : Int)) (List.take (20 : Nat) L) x).length) (↑x1 : Int)).ID < (0 : Int))) with | true => (((true = false) ∧ True) ∧ ((L = L) ∧ True)) | false => (match (inb (↑x1 : Int) (isortN (reTo (fun i => (↑i : Int)) (List.take (20 : Nat) L) x) (reTo (fun i => (↑i : Int)) (List.take (20 : Nat) L) x).length).length) with | true => (match (inb (↑x1 : Int) (isortN (reTo (fun i => (↑i : Int)) (List.take (20 : Nat) L) x) (reTo (fun i => (↑i : Int)) (List.take (20 : Nat) L) x).length).length) with | true => (match (decide ((at' entE.zero (isortN (reTo (fun i => (↑i : Int)) (List.take (20 : Nat) L) x) (reTo (fun i => (↑i : Int)) (List.take (20 : Nat) L) x).length) (↑x1 : Int)).ID ≥ (↑(reTo (fun i => (↑i : Int)) (List.take (20 : Nat) L) x).length : Int))) with | true => (((true = false) ∧ True) ∧ ((L = L) ∧ True)) | false => (match (inb (↑x1 : Int) (isortN (reTo (fun i => (↑i : Int)) (List.take (20 : Nat) L) x) (reTo (fun i => (↑i : Int)) (List.take (20 : Nat) L) x).length).length) with | true => (match (inb (↑x1 : Int) (isortN (reTo (fun i => (↑i : Int)) (List.take (20 : Nat) L) x) (reTo (fun i => (↑i : Int)) (List.take (20 : Nat) L) x).length).length) with | true => (match (inb (at' entE.zero (isortN (reTo (fun i => (↑i : Int)) (List.take (20 : Nat) L) x) (reTo (fun i => (↑i : Int)) (List.take (20 : Nat) L) x).length) (↑x1 : Int)).ID (reTo (fun i => (↑i : Int)) (List.take (20 : Nat) L) x).length) with | true => (match (inb (at' entE.zero (isortN (reTo (fun i => (↑i : Int)) (List.take (20 : Nat) L) x) (reTo (fun i => (↑i : Int)) (List.take (20 : Nat) L) x).length) (↑x1 : Int)).ID (reTo (fun i => (↑i : Int)) (List.take (20 : Nat) L) x).length) with | true => (match (inb (↑x1 : Int) (isortN (reTo (fun i => (↑i : Int)) (List.take (20 : Nat) L) x) (reTo (fun i => (↑i : Int)) (List.take (20 : Nat) L) x).length).length) with | true => (match (inb (↑x1 : Int) (isortN (reTo (fun i => (↑i : Int)) (List.take (20 : Nat) L) x) (reTo (fun i => (↑i : Int)) (List.take (20 : Nat) L) x).length).length) with | true => (match (!((at' entE.zero (reTo (fun i => (↑i : Int)) (List.take (20 : Nat) L) x) (at' entE.zero (isortN (reTo (fun i => (↑i : Int)) (List.take (20 : Nat) L) x) (reTo (fun i => (↑i : Int)) (List.take (20 : Nat) L) x).length) (↑x1 : Int)).ID).ID == (at' entE.zero (isortN (reTo (fun i => (↑i : Int)) (List.take (20 : Nat) L) x) (reTo (fun i => (↑i : Int)) (List.take (20 : Nat) L) x).length) (↑x1 : Int)).ID && ((at' entE.zero (reTo (fun i => (↑i : Int)) (List.take (20 : Nat) L) x) (at' entE.zero (isortN (reTo (fun i => (↑i : Int)) (List.take (20 : Nat) L) x) (reTo (fun i => (↑i : Int)) (List.take (20 : Nat) L) x).length) (↑x1 : Int)).ID).SubIndex == (at' entE.zero (isortN (reTo (fun i => (↑i : Int)) (List.take (20 : Nat) L) x) (reTo (fun i => (↑i : Int)) (List.take (20 : Nat) L) x).length) (↑x1 : Int)).SubIndex && ((at' entE.zero (reTo (fun i => (↑i : Int)) (List.take (20 : Nat) L) x) (at' entE.zero (isortN (reTo (fun i => (↑i : Int)) (List.take (20 : Nat) L) x) (reTo (fun i => (↑i : Int)) (List.take (20 : Nat) L) x).length) (↑x1 : Int)).ID).SubRelease == (at' entE.zero (isortN (reTo (fun i => (↑i : Int)) (List.take (20 : Nat) L) x) (reTo (fun i => (↑i : Int)) (List.take (20 : Nat) L) x).length) (↑x1 : Int)).SubRelease && ((at' entE.zero (reTo (fun i => (↑i : Int)) (List.take (20 : Nat) L) x) (at' entE.zero (isortN (reTo (fun i => (↑i : Int)) (List.take (20 : Nat) L) x) (reTo (fun i => (↑i : Int)) (List.take (20 : Nat) L) x).length) (↑x1 : Int)).ID).SubDeadline == (at' entE.zero (isortN (reTo (fun i => (↑i : Int)) (List.take (20 : Nat) L) x) (reTo (fun i => (↑i : Int)) (List.take (20 : Nat) L) x).length) (↑x1 : Int)).SubDeadline && ((at' entE.zero (reTo (fun i => (↑i : Int)) (List.take (20 : Nat) L) x) (at' entE.zero (isortN (reTo (fun i => (↑i : Int)) (List.take (20 : Nat) L) x) (reTo (fun i => (↑i : Int)) (List.take (20 : Nat) L) x).length) (↑x1 : Int)).ID).SubBit == (at' entE.zero (isortN (reTo (fun i => (↑i : Int)) (List.take (20 : Nat) L) x) (reTo (fun i => (↑i : Int)) (List.take (20 : Nat) L) x).length) (↑x1 : Int)).SubBit && ((at' entE.zero (reTo (fun i => (↑i : Int)) (List.take (20 : Nat) L) x) (at' entE.zero (isortN (reTo (fun i => (↑i : Int)) (List.take (20 : Nat) L) x) (reTo (fun i => (↑i : Int)) (List.take (20 : Nat) L) x).length) (↑x1 : Int)).ID).SubGroup == (at' entE.zero (isortN (reTo (fun i => (↑i : Int)) (List.take (20 : Nat) L) x) (reTo (fun i => (↑i : Int)) (List.take (20 : Nat) L) x).length) (↑x1 : Int)).SubGroup && true)))) && true))) with | true => (((true = false) ∧ True) ∧ ((L = L) ∧ True)) | false => (match (inb (↑x1 : Int) (isortN (reTo (fun i => (↑i : Int)) (List.take (20 : Nat) L) x) (reTo (fun i => (↑i : Int)) (List.take (20 : Nat) L) x).length).length) with | true => (match (inb (↑x1 : Int) (isortN (reTo (fun i => (↑i : Int)) (List.take (20 : Nat) L) x) (reTo (fun i => (↑i : Int)) (List.take (20 : Nat) L) x).length).length) with | true => (match (decide ((reTo (fun i => (↑i : Int)) (List.take (20 : Nat) L) x).length ≤ (1000 : Nat))) with | true => (match (rankL (reTo (fun i => (↑i : Int)) (List.take (20 : Nat) L) x) (at' entE.zero (isortN (reTo (fun i => (↑i : Int)) (List.take (20 : Nat) L) x) (reTo (fun i => (↑i : Int)) (List.take (20 : Nat) L) x).length) (↑x1 : Int)).ID != (↑x1 : Int)) with | true => (((true = false) ∧ True) ∧ ((L = L) ∧ True)) | false => (match (decide ((↑x1 : Int) > (0 : Int))) with | true => (match (inb (↑x1 : Int) (isortN (reTo (fun i => (↑i : Int)) (List.take (20 : Nat) L) x) (reTo (fun i => (↑i : Int)) (List.take (20 : Nat) L) x).length).length) with | true => (match (inb (↑x1 : Int) (isortN (reTo (fun i => (↑i : Int)) (List.take (20 : Nat) L) x) (reTo (fun i => (↑i : Int)) (List.take (20 : Nat) L) x).length).length) with | true => (match (inb (IntKind.i64.wrap ((↑x1 : Int) - (1 : Int))) (isortN (reTo (fun i => (↑i : Int)) (List.take (20 : Nat) L) x) (reTo (fun i => (↑i : Int)) (List.take (20 : Nat) L) x).length).length) with | true => (match (inb (IntKind.i64.wrap ((↑x1 : Int) - (1 : Int))) (isortN (reTo (fun i => (↑i : Int)) (List.take (20 : Nat) L) x) (reTo (fun i => (↑i : Int)) (List.take (20 : Nat) L) x).length).length) with | true => (match (prioLess (at' entE.zero (isortN (reTo (fun i => (↑i : Int)) (List.take (20 : Nat) L) x) (reTo (fun i => (↑i : Int)) (List.take (20 : Nat) L) x).length) (↑x1 : Int)) (at' entE.zero (isortN (reTo (fun i => (↑i : Int)) (List.take (20 : Nat) L) x) (reTo (fun i => (↑i : Int)) (List.take (20 : Nat) L) x).length) (IntKind.i64.wrap ((↑x1 : Int) - (1 : Int))))) with | true => (((true = false) ∧ True) ∧ ((L = L) ∧ True)) | false => (∃ x' : Nat, ((x'.le (isortN (reTo (fun i => (↑i : Int)) (List.take (20 : Nat) L) x) (reTo (fun i => (↑i : Int)) (List.take (20 : Nat) L) x).length).length) ∧ (((20 : Nat) - x' < (20 : Nat) - x1) ∧ ((True ∧ ((true = true) ∧ (True ∧ (True ∧ (((↑x' : Int) = IntKind.i64.wrap ((↑x1 : Int) + (1 : Int))) ∧ (True ∧ True)))))) ∧ ((L = L) ∧ ((List.take (20 : Nat) L = List.take (20 : Nat) L) ∧ ((reTo (fun i => (↑i : Int)) (List.take (20 : Nat) L) x = reTo (fun i => (↑i : Int)) (List.take (20 : Nat) L) x) ∧ ((isortN (reTo (fun i => (↑i : Int)) (List.take (20 : Nat) L) x) (reTo (fun i => (↑i : Int)) (List.take (20 : Nat) L) x).length = isortN (reTo (fun i => (↑i : Int)) (List.take (20 : Nat) L) x) (reTo (fun i => (↑i : Int)) (List.take (20 : Nat) L) x).length) ∧ True))))))))) | false => False) | false => False) | false => False) | false => False) | false => (∃ x' : Nat, ((x'.le (isortN (reTo (fun i => (↑i : Int)) (List.take (20 : Nat) L) x) (reTo (fun i => (↑i : Int)) (List.take (20 : Nat) L) x).length).length) ∧ (((20 : Nat) - x' < (20 : Nat) - x1) ∧ ((True ∧ ((true = true) ∧ (True ∧ (True ∧ (((↑x' : Int) = IntKind.i64.wrap ((↑x1 : Int) + (1 : Int))) ∧ (True ∧ True)))))) ∧ ((L = L) ∧ ((List.take (20 : Nat) L = List.take (20 : Nat) L) ∧ ((reTo (fun i => (↑i : Int)) (List.take (20 : Nat) L) x = reTo (fun i => (↑i : Int)) (List.take (20 : Nat) L) x) ∧ ((isortN (reTo (fun i => (↑i : Int)) (List.take (20 : Nat) L) x) (reTo (fun i => (↑i : Int)) (List.take (20 : Nat) L) x).length = isortN (reTo (fun i => (↑i : Int)) (List.take (20 : Nat) L) x) (reTo (fun i => (↑i : Int)) (List.take (20 : Nat) L) x).length) ∧ True)))))))))) | false => False) | false => False) | false => False)) | false => False) | false => False) | false => False) | false => False) | false => False) | false => False)) | false => False) | false => False)) | false => False) | false => False) | false => (((true = true) ∧ True) ∧ ((L = L) ∧ True))))))) | false => False))))) | false => False)
theorem prioSortsVc (L : List Ent) : fnX X17 (annOf [(4, { σ := Nat, st := fun S x => ((S.keep [0, 3, 4, 11]).int 5 x).at' 4 (.vec 2 (reTo (fun i => (i : Int)) (L.take 20) x) 25), inv := fun _ x => x ≤ (L.take 20).length, m := fun x => (L.take 20).length - x }), (11, { σ := Nat, st := fun S x => ((S.keep [0, 3, 4, 6, 11]).int 7 x), inv := fun S x => x ≤ (S.gv 6 2).length, m := fun x => 20 - x })] []) Try.f6 [.own 0] [.ro 2 L] (ends [.ro 2 L] ⟨some (.raw (.bool true)), []⟩) = prioSortsText L := by kernel_rfl
theorem prioSortsHolds (L : List Ent) : prioSortsText L := by
  unfold prioSortsText
  have hM : (L.take 20).length ≤ 20 := by rw [List.length_take]; omega
  generalize L.take 20 = M at hM ⊢
  rw [show roomy (0 + M.length) 48 = true from decide_eq_true (by omega)]
  refine ⟨⟨0, Nat.zero_le _, by repeat' first | exact reTo_zero _ _ | trivial | rfl | apply And.intro⟩, ?_⟩
  rintro x hx
  by_cases h : x < M.length
  · have hwx := wrap_succ h (show M.length ≤ 140737488355328 by omega)
    have hs := reTo_set (fun i => (i : Int)) M x h
    simp only [reTo_length _ _ _ hx, dec_lt h, inb_nat h, reTo_at _ _ _ h]
    refine ⟨x + 1, h, by omega, ?_⟩
    repeat' first | exact hwx.symm | exact hs.symm | trivial | rfl | apply And.intro
  · obtain rfl : x = M.length := Nat.le_antisymm hx (by omega)
    rw [reTo_all]
    have hN : Nums (fun i => (i : Int)) (reId (fun i => (i : Int)) M) := reId_nums (fun i j e => Int.ofNat.inj e) M
    have hl := reId_length (fun i => (i : Int)) M
    generalize reId (fun i => (i : Int)) M = N at hN hl ⊢
    rw [← hl] at hM ⊢
    rw [isortN_all, srt_length, dec_ge (Nat.le_refl _), decide_eq_true hM, show ((N.length : Int) != (N.length : Int)) = false by simp, decide_eq_true (show N.length ≤ 1000 by omega)]
    refine ⟨⟨0, Nat.zero_le _, by repeat' first | trivial | rfl | apply And.intro⟩, ?_⟩
    rintro k hk
    by_cases g : k < N.length
    · have hwk := wrap_succ g (show N.length ≤ 140737488355328 by omega)
      obtain ⟨j, hj, e1, e2⟩ := hN.place k g
      have hr := hN.rank j hj
      rw [e2] at hr
      have hid : N[j].ID = (j : Int) := hN.1 j hj
      have hr : rankL N (j : Int) = (k : Int) := hr
      rw [dec_lt g, inb_nat g, e1, hid]
      rw [show decide ((j : Int) < 0) = false from decide_eq_false (by omega), show decide ((j : Int) ≥ (N.length : Int)) = false from decide_eq_false (by omega), inb_nat hj, at_nat hj, hid]
      rw [show (rankL N (j : Int) != (k : Int)) = false by rw [hr]; simp]
      simp only [beq_self_eq_true, Bool.and_self, Bool.not_true]
      cases k with
      | zero =>
        rw [show decide (((0 : Nat) : Int) > 0) = false from rfl]
        refine ⟨1, g, by omega, ?_⟩
        repeat' first | exact hwk.symm | trivial | rfl | apply And.intro
      | succ k =>
        rw [show decide (((k + 1 : Nat) : Int) > 0) = true from decide_eq_true (by omega), show IntKind.i64.wrap (((k + 1 : Nat) : Int) - 1) = (k : Int) by rw [wrap_id (by omega) (by omega)]; omega, inb_nat (show k < N.length by omega), ← e1, hN.next k (k + 1) (by omega) g]
        refine ⟨k + 1 + 1, g, by omega, ?_⟩
        repeat' first | exact hwk.symm | trivial | rfl | apply And.intro
    · rw [dec_ge (by omega)]
      repeat' first | trivial | rfl | apply And.intro
noncomputable def prioSortsCon : Con T O := fun args cs => match args, cs with
  | [.own 0], [.ro 2 _] => .ret ⟨some (.raw (.bool true)), []⟩
  | _, _ => .fail
theorem prioSortsOk : ConOk R Try.prog 6 prioSortsCon := con_of_fn R (X17) (TabOk.con R X17Ok) mixed Try.call6 Try.func6 prioSortsCon (by
  intro args cs K h
  unfold prioSortsCon at h
  split at h
  · rename_i L
    refine ⟨annOf [(4, { σ := Nat, st := fun S x => ((S.keep [0, 3, 4, 11]).int 5 x).at' 4 (.vec 2 (reTo (fun i => (i : Int)) (L.take 20) x) 25), inv := fun _ x => x ≤ (L.take 20).length, m := fun x => (L.take 20).length - x }), (11, { σ := Nat, st := fun S x => ((S.keep [0, 3, 4, 6, 11]).int 7 x), inv := fun S x => x ≤ (S.gv 6 2).length, m := fun x => 20 - x })] [], _, fun v S hv => ⟨_, h, hv⟩, ?_⟩
    rw [prioSortsVc L]
    exact prioSortsHolds L
  · exact h.elim)
noncomputable def tab18 : Tab T O := (6, prioSortsCon) :: tab17
theorem tabOk18 : TabOk R Try.prog tab18 := TabOk.cons R prioSortsOk <| tabOk17
noncomputable def X18 : Ctx T O := { X0 with con := conOf tab18 }
theorem X18Ok : TabOk R X18.P tab18 := tabOk18
end Go.Proofs.Ytjhkokdcjikkiaa
