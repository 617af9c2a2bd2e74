/-
  Part of a proof over the seat Ythfggjfpokknlaa: printed by a small program or typed by hand.
-/
import Derived.Test.YthfggjfpokknlaaStaS17
import Derived.KernelRfl
namespace Go.Proofs.Ythfggjfpokknlaa
open Go.Sx Go.Proofs Classical

/-! ### counters as maps: keys, values -/
theorem mput_mem {k v : Int} : ∀ {M : CM} {p : Int × Int}, p ∈ mput k v M → p = (k, v) ∨ p ∈ M
  | [], p, h => by simp [mput] at h; exact .inl h
  | (j, a) :: M, p, h => by
    simp only [mput] at h
    split at h
    · rename_i e
      rcases List.mem_cons.1 h with h | h
      · rw [h, e]; exact .inl rfl
      · exact .inr (List.mem_cons_of_mem _ h)
    · rcases List.mem_cons.1 h with h | h
      · rw [h]; exact .inr (List.mem_cons_self ..)
      · rcases mput_mem h with h | h
        · exact .inl h
        · exact .inr (List.mem_cons_of_mem _ h)
theorem mput_keys (k v : Int) : ∀ M : CM, (mput k v M).map (·.1) = if k ∈ M.map (·.1) then M.map (·.1) else M.map (·.1) ++ [k]
  | [] => by simp [mput]
  | (j, a) :: M => by
    simp only [mput]
    split
    · rename_i e
      subst e
      simp
    · rename_i e
      simp only [List.map_cons, mput_keys k v M, List.mem_cons]
      have e' : ¬ k = j := fun h => e h.symm
      simp only [e', false_or]
      split <;> simp
theorem mdel_sub (k : Int) : ∀ M : CM, (mdel k M).Sublist M
  | [] => List.Sublist.refl _
  | (j, a) :: M => by
    simp only [mdel]
    split
    · exact List.sublist_cons_self _ _
    · exact (mdel_sub k M).cons_cons _
theorem mget_mem {k v : Int} : ∀ {M : CM}, mget k M = some v → (k, v) ∈ M
  | [], h => by cases h
  | (j, a) :: M, h => by
    simp only [mget] at h
    split at h
    · rename_i e
      cases h
      subst e
      exact List.mem_cons_self ..
    · exact List.mem_cons_of_mem _ (mget_mem h)
theorem mget_of {k v : Int} : ∀ {M : CM}, (M.map (·.1)).Nodup → (k, v) ∈ M → mget k M = some v
  | [], _, h => by cases h
  | (j, a) :: M, hn, h => by
    simp only [List.map_cons, List.nodup_cons] at hn
    simp only [mget]
    rcases List.mem_cons.1 h with h | h
    · cases h
      rw [if_pos rfl]
    · have hne : j ≠ k := by
        rintro rfl
        exact hn.1 (List.mem_map.2 ⟨_, h, rfl⟩)
      rw [if_neg hne]
      exact mget_of hn.2 h
theorem mget_no {k : Int} {M : CM} (h : k ∉ M.map (·.1)) : mget k M = none := by
  cases e : mget k M with
  | none => rfl
  | some v => exact absurd (List.mem_map.2 ⟨_, mget_mem e, rfl⟩) h
theorem mget_del {k j : Int} : ∀ {M : CM}, (M.map (·.1)).Nodup → mget j (mdel k M) = if j = k then none else mget j M
  | [], _ => by simp [mdel, mget]
  | (i, a) :: M, hn => by
    simp only [List.map_cons, List.nodup_cons] at hn
    simp only [mdel]
    split
    · rename_i e
      subst e
      split
      · rename_i e2
        subst e2
        exact mget_no hn.1
      · rename_i e2
        simp only [mget]
        rw [if_neg (fun h => e2 h.symm)]
    · rename_i e
      simp only [mget, mget_del hn.2]
      by_cases e2 : i = j
      · subst e2
        rw [if_pos rfl, if_neg e, if_pos rfl]
      · rw [if_neg e2, if_neg e2]
/-- keys that may be, values from 1 to 2^40 -/
structure COk (lo hi : Int) (M : CM) : Prop where
  nd : (M.map (·.1)).Nodup
  rng : ∀ p ∈ M, lo ≤ p.1 ∧ p.1 ≤ hi ∧ 1 ≤ p.2 ∧ p.2 ≤ 1099511627776
theorem COk.nil (lo hi : Int) : COk lo hi noCount := ⟨List.nodup_nil, fun _ h => (by cases h)⟩
theorem COk.get {lo hi : Int} {M : CM} (h : COk lo hi M) (k : Int) : 0 ≤ getM M k ∧ getM M k ≤ 1099511627776 := by
  unfold getM
  cases e : mget k M with
  | none => simp
  | some v =>
    have := h.rng _ (mget_mem e)
    simp only [Option.getD_some]
    omega
theorem COk.key {lo hi : Int} {M : CM} (h : COk lo hi M) (k : Int) : k ∈ M.map (·.1) ↔ 1 ≤ getM M k := by
  constructor
  · intro hk
    obtain ⟨⟨j, v⟩, hp, e⟩ := List.mem_map.1 hk
    have e : j = k := e
    subst e
    have := h.rng _ hp
    unfold getM
    rw [mget_of h.nd hp]
    simp only [Option.getD_some]
    omega
  · intro hk
    unfold getM at hk
    cases e : mget k M with
    | none => rw [e] at hk; simp at hk
    | some v => exact List.mem_map.2 ⟨_, mget_mem e, rfl⟩
theorem COk.add {lo hi : Int} {M : CM} (h : COk lo hi M) {k : Int} (hk : lo ≤ k ∧ k ≤ hi) (n : Int) : COk lo hi (addM M k n) := by
  have hg := h.get k
  have hr := addN_range hg.1 hg.2 n
  unfold addM
  cases e : addN (getM M k) n == 0
  · have e0 : addN (getM M k) n ≠ 0 := beq_eq_false_iff_ne.1 e
    rw [cond_false]
    refine ⟨?_, ?_⟩
    · rw [mput_keys]
      split
      · exact h.nd
      · rename_i hn
        rw [List.nodup_append]
        refine ⟨h.nd, by simp, ?_⟩
        intro a ha b hb
        rw [List.mem_singleton.1 hb]
        rintro rfl
        exact hn ha
    · intro p hp
      rcases mput_mem hp with rfl | hp
      · simp only; omega
      · exact h.rng _ hp
  · rw [cond_true]
    exact ⟨((mdel_sub k M).map _).nodup h.nd, fun p hp => h.rng p ((mdel_sub k M).subset hp)⟩
theorem COk.getAdd {lo hi : Int} {M : CM} (h : COk lo hi M) (k n j : Int) : getM (addM M k n) j = if j = k then addN (getM M k) n else getM M j := by
  unfold addM
  cases e : addN (getM M k) n == 0
  · rw [cond_false]
    unfold getM
    rw [mget_put]
    split <;> rfl
  · have e0 : addN (getM M k) n = 0 := beq_iff_eq.1 e
    rw [cond_true, e0]
    unfold getM
    rw [mget_del h.nd]
    split <;> rfl
theorem COk.mono {lo hi lo' hi' : Int} {M : CM} (h : COk lo hi M) (h1 : lo' ≤ lo) (h2 : hi ≤ hi') : COk lo' hi' M := ⟨h.nd, fun p hp => by have := h.rng p hp; omega⟩
theorem COk.keysOk {M : CM} (h : COk (-9223372036854775808) 9223372036854775807 M) (hl : M.length ≤ 1000) : keysOk M = true := by
  unfold Ythfggjfpokknlaa.keysOk
  rw [Bool.and_eq_true, decide_eq_true_iff, List.all_eq_true]
  refine ⟨hl, fun p hp => ?_⟩
  have := h.rng p hp
  simp only [Bool.and_eq_true, decide_eq_true_eq]
  omega
theorem keysS_mem {M : CM} {k : Int} : k ∈ keysS M ↔ k ∈ M.map (·.1) := (keysS_perm M).mem_iff
theorem subset_length : ∀ {A B : List Int}, A.Nodup → (∀ a ∈ A, a ∈ B) → A.length ≤ B.length
  | [], _, _, _ => Nat.zero_le _
  | a :: A, B, hn, hs => by
    simp only [List.nodup_cons] at hn
    have ha := hs a (List.mem_cons_self ..)
    have := subset_length (A := A) (B := B.erase a) hn.2 (fun b hb => (List.mem_erase_of_ne (fun e => hn.1 (by rw [← e]; exact hb))).2 (hs b (List.mem_cons_of_mem _ hb)))
    rw [List.length_erase_of_mem ha] at this
    have : 0 < B.length := List.length_pos_of_mem ha
    simp only [List.length_cons]
    omega
theorem COk.len16 {M : CM} (h : COk 0 15 M) : M.length ≤ 16 := by
  have := subset_length (A := M.map (·.1)) (B := (List.range 16).map Int.ofNat) h.nd (fun a ha => by
    obtain ⟨p, hp, rfl⟩ := List.mem_map.1 ha
    have := h.rng p hp
    exact List.mem_map.2 ⟨p.1.toNat, List.mem_range.2 (by omega), by show ((p.1.toNat : Nat) : Int) = p.1; omega⟩)
  simpa using this
/-! ### sums -/
def totM (M : CM) : Int := (M.map (·.2)).sum
theorem totM_put (k v : Int) : ∀ {M : CM}, (M.map (·.1)).Nodup → totM (mput k v M) = totM M - getM M k + v
  | [], _ => by simp [mput, totM, getM, mget]
  | (j, a) :: M, hn => by
    simp only [List.map_cons, List.nodup_cons] at hn
    have ih := totM_put k v hn.2
    unfold totM getM at *
    simp only [mput, mget]
    split
    · simp only [List.map_cons, List.sum_cons, Option.getD_some]; omega
    · simp only [List.map_cons, List.sum_cons]; omega
theorem sum_perm {A B : List Int} (h : A.Perm B) : A.sum = B.sum := by
  induction h with
  | nil => rfl
  | cons x _ ih => simp [ih]
  | swap x y l => simp; omega
  | trans _ _ h1 h2 => exact h1.trans h2
theorem sumL_all {M : CM} : ∀ (ks : List Int) (a : Int), (∀ k, 0 ≤ getM M k ∧ getM M k ≤ 1099511627776) → 0 ≤ a → a + 1099511627776 * (ks.length : Int) ≤ 4398046511104000 → ks.foldl (fun a k => IntKind.i64.wrap (a + getM M k)) a = a + (ks.map (getM M)).sum
  | [], a, _, _, _ => by simp
  | k :: ks, a, h, h0, h1 => by
    have hk := h k
    rw [List.length_cons] at h1
    rw [List.foldl_cons, List.map_cons, List.sum_cons, wrap_id (by omega) (by omega), sumL_all ks (a + getM M k) h (by omega) (by omega)]
    omega
theorem COk.sum {lo hi : Int} {M : CM} (h : COk lo hi M) (hl : M.length ≤ 1000) : sumL same M (keysS M) = totM M := by
  have e := sumL_all (M := M) (keysS M) 0 h.get (by omega) (by rw [keysS_length]; omega)
  unfold sumL
  show (keysS M).foldl (fun a k => IntKind.i64.wrap (a + getM M k)) 0 = _
  rw [e]
  have : ((keysS M).map (getM M)).Perm (M.map (·.2)) := by
    refine ((keysS_perm M).map _).trans ?_
    rw [List.map_map]
    refine List.Perm.of_eq (List.map_congr_left fun p hp => ?_)
    show (mget p.1 M).getD 0 = p.2
    rw [mget_of h.nd (show (p.1, p.2) ∈ M from hp)]
    rfl
  rw [sum_perm this]
  unfold totM
  omega
theorem addM_one {lo hi : Int} {M : CM} (h : COk lo hi M) {k : Int} (hk : getM M k ≤ 1000000) : addN (getM M k) 1 = getM M k + 1 := by
  have hg := h.get k
  rcases addN_of hg.1 hg.2 1 with ⟨a, b⟩ | ⟨a, b, c⟩ | ⟨a, b, c⟩ <;> omega
theorem COk.totOne {lo hi : Int} {M : CM} (h : COk lo hi M) {k : Int} (hk : getM M k ≤ 1000000) : totM (addM M k 1) = totM M + 1 := by
  have hg := h.get k
  have e := addM_one h hk
  unfold addM
  rw [e, show (getM M k + 1 == 0) = false by rw [beq_eq_false_iff_ne]; omega, cond_false, totM_put _ _ h.nd]
  omega

theorem snocRec {α : Type} {p : List α → Prop} (h0 : p []) (h1 : ∀ (l : List α) (a : α), p l → p (l ++ [a])) (l : List α) : p l := by
  have : ∀ (n : Nat) (l : List α), l.length = n → p l := by
    intro n
    induction n with
    | zero => intro l h; rw [List.eq_nil_of_length_eq_zero h]; exact h0
    | succ n ih =>
      intro l h
      have hne : l ≠ [] := by intro e; rw [e] at h; cases h
      rw [← List.dropLast_concat_getLast hne]
      exact h1 _ _ (ih _ (by rw [List.length_dropLast]; omega))
  exact this _ l rfl
/-! ### what is counted of notes -/
def IDOk (L : List Note) : Prop := ∀ n ∈ L, -9223372036854775808 ≤ n.ID ∧ n.ID ≤ 9223372036854775807
def CoreOk (L : List Note) : Prop := ∀ n ∈ L, -9223372036854775808 ≤ n.Core ∧ n.Core ≤ 9223372036854775807
abbrev CO (M : CM) : Prop := COk (-9223372036854775808) 9223372036854775807 M
theorem CO.one {M : CM} (h : CO M) {k : Int} (hk : -9223372036854775808 ≤ k ∧ k ≤ 9223372036854775807) {x : Int} (ht : ∀ j, getM M j ≤ x) (hx : x ≤ 1000) : CO (addM M k 1) ∧ (∀ j, getM (addM M k 1) j = getM M j + (if j = k then 1 else 0)) ∧ totM (addM M k 1) = totM M + 1 ∧ (addM M k 1).length ≤ M.length + 1 := by
  have hk' := ht k
  have e := addM_one h (k := k) (by omega)
  refine ⟨h.add hk 1, fun j => ?_, h.totOne (by omega), ?_⟩
  · rw [h.getAdd, e]
    split
    · rename_i e; rw [e]
    · omega
  · unfold addM
    cases addN (getM M k) 1 == 0
    · rw [cond_false, length_mput]
      split <;> omega
    · rw [cond_true]
      exact Nat.le_succ_of_le (mdel_sub k M).length_le
structure CntOk (M : CM) (x : Nat) : Prop where
  ok : CO M
  le : ∀ j, getM M j ≤ x
  tot : totM M = x
  len : M.length ≤ x
theorem CntOk.add {M : CM} {x : Nat} (h : CntOk M x) (hx : x ≤ 1000) {k : Int} (hk : -9223372036854775808 ≤ k ∧ k ≤ 9223372036854775807) : CntOk (addM M k 1) (x + 1) := by
  obtain ⟨a, b, c, d⟩ := h.ok.one hk h.le (by omega)
  refine ⟨a, fun j => ?_, by rw [c, h.tot]; omega, by have := h.len; omega⟩
  have := h.le j
  rw [b]
  split <;> omega
theorem runs_ok : ∀ (L : List Note), IDOk L → L.length ≤ 1000 → CntOk (runsM L) L.length := by
  refine snocRec ?_ ?_
  · intro _ _; exact ⟨COk.nil _ _, fun j => Int.le_refl _, rfl, Nat.le_refl _⟩
  · intro L n ih
    intro h hl
    rw [runsM_snoc]
    rw [List.length_append] at hl ⊢
    simp only [List.length_cons, List.length_nil] at hl ⊢
    exact (ih (fun m hm => h m (List.mem_append_left _ hm)) (by omega)).add (by omega) (h n (by simp))
theorem cores_ok : ∀ (L : List Note), CoreOk L → L.length ≤ 1000 → CntOk (coresM L) L.length := by
  refine snocRec ?_ ?_
  · intro _ _; exact ⟨COk.nil _ _, fun j => Int.le_refl _, rfl, Nat.le_refl _⟩
  · intro L n ih
    intro h hl
    rw [coresM_snoc]
    rw [List.length_append] at hl ⊢
    simp only [List.length_cons, List.length_nil] at hl ⊢
    exact (ih (fun m hm => h m (List.mem_append_left _ hm)) (by omega)).add (by omega) (h n (by simp))
/-- moves are fewer than runs, of whatever ran -/
structure MovOk (M Q R : CM) : Prop where
  ok : CO M
  less : ∀ j, getM M j + (if (mget j Q).isSome then 1 else 0) ≤ getM R j
  len : M.length ≤ 1000
theorem moves_ok : ∀ (L : List Note), IDOk L → L.length ≤ 999 → CO (movesQ L).1 ∧ (∀ j, getM (movesQ L).1 j + (if (mget j (movesQ L).2).isSome then 1 else 0) ≤ getM (runsM L) j) ∧ (movesQ L).1.length ≤ L.length := by
  refine snocRec ?_ ?_
  · intro _ _; exact ⟨COk.nil _ _, fun j => Int.le_refl _, Nat.le_refl _⟩
  · intro L n ih
    intro h hl
    rw [List.length_append] at hl
    simp only [List.length_cons, List.length_nil] at hl
    have hL : IDOk L := fun m hm => h m (List.mem_append_left _ hm)
    have hn := h n (by simp)
    have hr := runs_ok L hL (by omega)
    obtain ⟨h1, h2, h3⟩ := ih hL (by omega)
    have hle : ∀ j, getM (movesQ L).1 j ≤ L.length := fun j => by
      have := h2 j
      have := hr.le j
      split at * <;> omega
    obtain ⟨_, rget, _⟩ := hr.ok.one hn hr.le (by omega)
    rw [movesQ_snoc, runsM_snoc]
    unfold moveStep
    have q2 : ∀ j, (mget j (mput n.ID n.Core (movesQ L).2)).isSome = if j = n.ID then true else (mget j (movesQ L).2).isSome := by
      intro j
      rw [mget_put]
      split <;> rfl
    cases hm : moved (movesQ L).2 n
    · refine ⟨h1, fun j => ?_, by simp only [List.length_append]; exact Nat.le_succ_of_le h3⟩
      dsimp only [cond_false]
      rw [rget, q2]
      have := h2 j
      by_cases e : j = n.ID
      · rw [if_pos e, if_pos e, if_pos rfl]
        split at this <;> omega
      · rw [if_neg e, if_neg e]
        omega
    · obtain ⟨a, b, _, d⟩ := h1.one hn hle (by omega)
      refine ⟨a, fun j => ?_, by simp only [List.length_append]; exact Nat.le_trans d (by simp; omega)⟩
      dsimp only [cond_true]
      rw [rget, q2, b]
      have := h2 j
      by_cases e : j = n.ID
      · rw [if_pos e, if_pos e, if_pos rfl]
        have hs : (mget j (movesQ L).2).isSome = true := by
          unfold moved at hm
          rw [e]
          exact (Bool.and_eq_true_iff.1 hm).1
        rw [if_pos hs] at this
        omega
      · rw [if_neg e, if_neg e]
        omega
theorem moves_len {L : List Note} (h : IDOk L) (hl : L.length ≤ 999) : (keysS (movesQ L).1).length ≤ (keysS (runsM L)).length := by
  obtain ⟨h1, h2, h3⟩ := moves_ok L h hl
  have hr := runs_ok L h (by omega)
  refine subset_length ((keysS_perm _).nodup_iff.2 h1.1) fun a ha => ?_
  rw [keysS_mem] at ha ⊢
  rw [h1.key] at ha
  rw [hr.ok.key]
  have := h2 a
  split at this <;> omega

/-- who ran was seen -/
theorem seen_ran : ∀ (L : List Note), IDOk L → L.length ≤ 999 → ∀ j, (mget j (movesQ L).2).isSome = false → getM (runsM L) j ≤ 0 := by
  refine snocRec ?_ ?_
  · intro _ _ j _; exact Int.le_refl _
  · intro L n ih h hl j hj
    rw [List.length_append] at hl
    simp only [List.length_cons, List.length_nil] at hl
    have hL : IDOk L := fun m hm => h m (List.mem_append_left _ hm)
    have hn := h n (by simp)
    have hr := runs_ok L hL (by omega)
    obtain ⟨_, rget, _⟩ := hr.ok.one hn hr.le (by omega)
    rw [movesQ_snoc] at hj
    have hj : (mget j (mput n.ID n.Core (movesQ L).2)).isSome = false := hj
    rw [mget_put] at hj
    rw [runsM_snoc, rget]
    by_cases e : j = n.ID
    · rw [if_pos e] at hj
      cases hj
    · rw [if_neg e] at hj
      rw [if_neg e]
      have := ih hL (by omega) j hj
      omega
theorem movesLt {L : List Note} (h : IDOk L) (hl : L.length ≤ 999) {j : Int} (hj : 1 ≤ getM (runsM L) j) : getM (movesQ L).1 j < getM (runsM L) j := by
  obtain ⟨_, h2, _⟩ := moves_ok L h hl
  have := h2 j
  cases hs : (mget j (movesQ L).2).isSome
  · have := seen_ran L h hl j hs
    omega
  · rw [hs] at this
    simp only [if_true] at this
    omega

/-! ### the document's counter -/
abbrev cz : Cnt := ⟨0, 0⟩
def getR (k : Int) : List Cnt → Int
  | [] => 0
  | c :: l => bif c.K == k then c.N else getR k l
/-- as the document has it -/
def refN (h n : Int) : Int := if n > IntKind.i64.wrap (1099511627776 - h) then 1099511627776 else if n < IntKind.i64.wrap (0 - h) then 0 else IntKind.i64.wrap (h + n)
def addR (k m : Int) : Bool → List Cnt → List Cnt
  | put, [] => bif put then [] else [⟨k, m⟩]
  | put, c :: l => bif c.K == k then addR k m put l else bif !put && decide (k < c.K) then ⟨k, m⟩ :: c :: addR k m true l else c :: addR k m put l
def addC (L : List Cnt) (k n : Int) : List Cnt := addR k (refN (getR k L) n) (refN (getR k L) n == 0) L
def sumR (L : List Cnt) : Int := L.foldl (fun a c => IntKind.i64.wrap (a + c.N)) 0
theorem sumR_snoc (L : List Cnt) (c : Cnt) : sumR (L ++ [c]) = IntKind.i64.wrap (sumR L + c.N) := by simp [sumR]
theorem addR_length (k m : Int) : ∀ (put : Bool) (l : List Cnt), (addR k m put l).length ≤ l.length + (bif put then 0 else 1)
  | false, [] => by simp [addR]
  | true, [] => by simp [addR]
  | put, c :: l => by
    simp only [addR]
    cases c.K == k
    · rw [cond_false]
      cases hq : !put && decide (k < c.K)
      · rw [cond_false]
        have := addR_length k m put l
        simp only [List.length_cons]
        omega
      · rw [cond_true]
        have hp : put = false := by cases put <;> simp_all
        have := addR_length k m true l
        simp only [List.length_cons, hp, cond_false, cond_true] at *
        omega
    · rw [cond_true]
      have := addR_length k m put l
      simp only [List.length_cons]
      omega
theorem addR_mem {k m : Int} : ∀ {put : Bool} {l : List Cnt} {c : Cnt}, c ∈ addR k m put l → (c ∈ l ∧ c.K ≠ k) ∨ (put = false ∧ c = ⟨k, m⟩)
  | false, [], c, h => by simp [addR] at h; exact .inr ⟨rfl, h⟩
  | true, [], c, h => by simp [addR] at h
  | put, d :: l, c, h => by
    simp only [addR] at h
    cases hd : d.K == k
    · rw [hd, cond_false] at h
      have hne : d.K ≠ k := beq_eq_false_iff_ne.1 hd
      cases hq : !put && decide (k < d.K)
      · rw [hq, cond_false] at h
        rcases List.mem_cons.1 h with rfl | h
        · exact .inl ⟨List.mem_cons_self .., hne⟩
        · rcases addR_mem h with h | h
          · exact .inl ⟨List.mem_cons_of_mem _ h.1, h.2⟩
          · exact .inr h
      · rw [hq, cond_true] at h
        have hp : put = false := by cases put <;> simp_all
        rcases List.mem_cons.1 h with rfl | h
        · exact .inr ⟨hp, rfl⟩
        · rcases List.mem_cons.1 h with rfl | h
          · exact .inl ⟨List.mem_cons_self .., hne⟩
          · rcases addR_mem h with h | h
            · exact .inl ⟨List.mem_cons_of_mem _ h.1, h.2⟩
            · exact absurd h.1 (by simp)
    · rw [hd, cond_true] at h
      rcases addR_mem h with h | h
      · exact .inl ⟨List.mem_cons_of_mem _ h.1, h.2⟩
      · exact .inr h
theorem mem_addR_old {k m : Int} : ∀ {put : Bool} {l : List Cnt} {c : Cnt}, c ∈ l → c.K ≠ k → c ∈ addR k m put l
  | put, d :: l, c, h, hne => by
    simp only [addR]
    rcases List.mem_cons.1 h with rfl | h
    · rw [show (c.K == k) = false from beq_eq_false_iff_ne.2 hne, cond_false]
      cases !put && decide (k < c.K) <;> simp
    · cases d.K == k
      · rw [cond_false]
        cases !put && decide (k < d.K)
        · rw [cond_false]; exact List.mem_cons_of_mem _ (mem_addR_old h hne)
        · rw [cond_true]; exact List.mem_cons_of_mem _ (List.mem_cons_of_mem _ (mem_addR_old h hne))
      · rw [cond_true]; exact mem_addR_old h hne
theorem mem_addR_new {k m : Int} : ∀ {l : List Cnt}, (⟨k, m⟩ : Cnt) ∈ addR k m false l
  | [] => by simp [addR]
  | d :: l => by
    simp only [addR]
    cases d.K == k
    · rw [cond_false]
      cases !false && decide (k < d.K)
      · rw [cond_false]; exact List.mem_cons_of_mem _ mem_addR_new
      · rw [cond_true]; exact List.mem_cons_self ..
    · rw [cond_true]; exact mem_addR_new
def AscK (l : List Cnt) : Prop := l.Pairwise (fun a b => a.K < b.K)
theorem addR_asc {k m : Int} : ∀ {put : Bool} {l : List Cnt}, AscK l → (put = false ∨ ∀ c ∈ l, k ≤ c.K ∨ True) → AscK (addR k m put l)
  | false, [], _, _ => by simp [addR, AscK]
  | true, [], _, _ => by simp [addR, AscK]
  | put, d :: l, h, hp => by
    obtain ⟨h1, h2⟩ := List.pairwise_cons.1 h
    have h1 : ∀ c ∈ l, d.K < c.K := h1
    simp only [addR]
    cases hd : d.K == k
    · have hne : d.K ≠ k := beq_eq_false_iff_ne.1 hd
      rw [cond_false]
      cases hq : !put && decide (k < d.K)
      · rw [cond_false]
        refine List.pairwise_cons.2 ⟨fun c hc => ?_, addR_asc h2 (.inr fun _ _ => .inr trivial)⟩
        rcases addR_mem hc with hc | hc
        · exact h1 c hc.1
        · rw [hc.1] at hq
          have : ¬ k < d.K := by simpa using hq
          rw [hc.2]
          show d.K < k
          omega
      · rw [cond_true]
        have hk : k < d.K := by
          have := (Bool.and_eq_true_iff.1 hq).2
          exact of_decide_eq_true this
        refine List.pairwise_cons.2 ⟨fun c hc => ?_, List.pairwise_cons.2 ⟨fun c hc => ?_, addR_asc h2 (.inr fun _ _ => .inr trivial)⟩⟩
        · rcases List.mem_cons.1 hc with rfl | hc
          · exact hk
          · rcases addR_mem hc with hc | hc
            · have := h1 c hc.1
              show k < c.K
              omega
            · exact absurd hc.1 (by simp)
        · rcases addR_mem hc with hc | hc
          · exact h1 c hc.1
          · exact absurd hc.1 (by simp)
    · rw [cond_true]
      exact addR_asc h2 (.inr fun _ _ => .inr trivial)
/-- the document's counter tells the same -/
structure RefOk (M : CM) (L : List Cnt) : Prop where
  ok : CO M
  asc : AscK L
  mem : ∀ c : Cnt, c ∈ L ↔ (1 ≤ c.N ∧ getM M c.K = c.N)
theorem getR_mem {k : Int} : ∀ {L : List Cnt}, AscK L → (∃ c ∈ L, c.K = k ∧ getR k L = c.N) ∨ ((∀ c ∈ L, c.K ≠ k) ∧ getR k L = 0)
  | [], _ => .inr ⟨fun _ h => (by cases h), rfl⟩
  | d :: l, h => by
    obtain ⟨h1, h2⟩ := List.pairwise_cons.1 h
    simp only [getR]
    cases hd : d.K == k
    · rcases getR_mem (k := k) h2 with ⟨c, hc, e, e2⟩ | ⟨hc, e⟩
      · exact .inl ⟨c, List.mem_cons_of_mem _ hc, e, by rw [cond_false]; exact e2⟩
      · refine .inr ⟨fun c hc' => ?_, by rw [cond_false]; exact e⟩
        rcases List.mem_cons.1 hc' with rfl | hc'
        · exact beq_eq_false_iff_ne.1 hd
        · exact hc c hc'
    · exact .inl ⟨d, List.mem_cons_self .., beq_iff_eq.1 hd, by rw [cond_true]⟩
theorem RefOk.get {M : CM} {L : List Cnt} (h : RefOk M L) (k : Int) : getR k L = getM M k := by
  rcases getR_mem (k := k) h.asc with ⟨c, hc, e, e2⟩ | ⟨hc, e⟩
  · rw [e2, ← ((h.mem c).1 hc).2, e]
  · rw [e]
    have hg := h.ok.get k
    rcases Int.lt_or_le 0 (getM M k) with hlt | hle
    · exact absurd rfl (hc ⟨k, getM M k⟩ ((h.mem _).2 ⟨hlt, rfl⟩))
    · omega
theorem refN_addN {h : Int} (h0 : 0 ≤ h) (h1 : h ≤ 1099511627776) {n : Int} (hn : -9223372036854775808 ≤ n ∧ n ≤ 9223372036854775807) : refN h n = addN h n := by
  have w1 : IntKind.i64.wrap (1099511627776 - h) = 1099511627776 - h := wrap_id (by omega) (by omega)
  have w2 : IntKind.i64.wrap (0 - h) = 0 - h := wrap_id (by omega) (by omega)
  unfold refN
  rw [w1, w2]
  rcases addN_of h0 h1 n with ⟨a, b⟩ | ⟨a, b, c⟩ | ⟨a, b, c⟩
  · rw [if_neg (by omega), b]
    split
    · rfl
    · rw [wrap_id (by omega) (by omega)]; omega
  · rw [if_neg (by omega), if_neg (by omega), c, wrap_id (by omega) (by omega)]
  · rw [c]
    split
    · rfl
    · rw [if_neg (by omega), wrap_id (by omega) (by omega)]; omega
theorem RefOk.add {M : CM} {L : List Cnt} (h : RefOk M L) {k n : Int} (hk : -9223372036854775808 ≤ k ∧ k ≤ 9223372036854775807) (hn : -9223372036854775808 ≤ n ∧ n ≤ 9223372036854775807) : RefOk (addM M k n) (addC L k n) ∧ refN (getR k L) n = addN (getM M k) n := by
  have hg := h.ok.get k
  have e : refN (getR k L) n = addN (getM M k) n := by rw [h.get, refN_addN hg.1 hg.2 hn]
  have hr := addN_range hg.1 hg.2 n
  refine ⟨⟨h.ok.add hk n, addR_asc h.asc (.inr fun _ _ => .inr trivial), fun c => ?_⟩, e⟩
  rw [h.ok.getAdd]
  unfold addC
  rw [e]
  constructor
  · intro hc
    rcases addR_mem hc with ⟨hc, hne⟩ | ⟨hz, rfl⟩
    · rw [if_neg hne]
      exact (h.mem c).1 hc
    · have hz : addN (getM M k) n ≠ 0 := beq_eq_false_iff_ne.1 hz
      rw [if_pos rfl]
      exact ⟨by show 1 ≤ addN (getM M k) n; omega, rfl⟩
  · rintro ⟨h1, h2⟩
    by_cases hc : c.K = k
    · rw [if_pos hc] at h2
      rw [show (addN (getM M k) n == 0) = false by rw [beq_eq_false_iff_ne]; omega]
      have : c = ⟨k, addN (getM M k) n⟩ := by
        cases c
        simp only at hc h2
        rw [hc, h2]
      rw [this]
      exact mem_addR_new
    · rw [if_neg hc] at h2
      exact mem_addR_old ((h.mem c).2 ⟨h1, h2⟩) hc
theorem asc_eq {A B : List Int} (ha : A.Pairwise (· < ·)) (hb : B.Pairwise (· < ·)) (h : ∀ x, x ∈ A ↔ x ∈ B) : A = B := by
  have na : A.Nodup := ha.imp fun {a b} h => by show a ≠ b; omega
  have nb : B.Nodup := hb.imp fun {a b} h => by show a ≠ b; omega
  exact List.Perm.eq_of_pairwise (le := fun a b : Int => a < b) (fun a b _ _ h1 h2 => by omega) ha hb ((List.perm_ext_iff_of_nodup na nb).2 h)
theorem RefOk.keys {M : CM} {L : List Cnt} (h : RefOk M L) : keysS M = L.map (·.K) := by
  refine asc_eq (keysS_asc h.ok.1) (List.pairwise_map.2 h.asc) fun x => ?_
  rw [keysS_mem, h.ok.key]
  constructor
  · intro hx
    exact List.mem_map.2 ⟨⟨x, getM M x⟩, (h.mem _).2 ⟨hx, rfl⟩, rfl⟩
  · intro hx
    obtain ⟨c, hc, rfl⟩ := List.mem_map.1 hx
    have := (h.mem c).1 hc
    omega
theorem RefOk.len {M : CM} {L : List Cnt} (h : RefOk M L) : L.length = M.length := by
  have := congrArg List.length h.keys
  rw [keysS_length, List.length_map] at this
  exact this.symm
theorem RefOk.nil : RefOk noCount [] := ⟨COk.nil _ _, List.Pairwise.nil, fun c => by
  constructor
  · intro h; cases h
  · rintro ⟨h1, h2⟩
    have : (0 : Int) = c.N := h2
    omega⟩
theorem RefOk.sum {M : CM} {L : List Cnt} (h : RefOk M L) (hl : M.length ≤ 1000) : sumR L = sumL same M (keysS M) := by
  rw [h.keys]
  unfold sumR sumL
  rw [List.foldl_map]
  have : ∀ (l : List Cnt) (a : Int), (∀ c ∈ l, getM M c.K = c.N) → l.foldl (fun a c => IntKind.i64.wrap (a + c.N)) a = l.foldl (fun x y => IntKind.i64.wrap (x + getM M (same y.K))) a := by
    intro l
    induction l with
    | nil => intro a _; rfl
    | cons c l ih =>
      intro a hc
      rw [List.foldl_cons, List.foldl_cons, show getM M (same c.K) = c.N from hc c (List.mem_cons_self ..)]
      exact ih _ fun d hd => hc d (List.mem_cons_of_mem _ hd)
  exact this L 0 fun c hc => ((h.mem c).1 hc).2

theorem room16 (l : List Cnt) (h : l.length ≤ 2000) : roomy (l.length + 1) 16 = true := decide_eq_true (by omega)
theorem room8 (l : List Int) (h : l.length ≤ 2000) : roomy (l.length + 1) 8 = true := decide_eq_true (by omega)
def sameZ (A B : List Int) : Bool := decide (A = B)
theorem sameZ_refl (A : List Int) : sameZ A A = true := decide_eq_true rfl
def delP {T : Nat → Enc} {O : Nat → Type} (S : SS T O) (t : Nat) (p : List Nat) : SS T O := match getT S.tmps t with
  | some v => match walkP S v p with
    | some k => S.drop k
    | none => S
  | none => S
def ksR (L : List Cnt) : List Int := L.map (·.K)
theorem ksR_length (L : List Cnt) : (ksR L).length = L.length := List.length_map ..
theorem ksR_snoc (L : List Cnt) (c : Cnt) : ksR (L ++ [c]) = ksR L ++ [c.K] := by simp [ksR]
/-- a counter of the document's, behind a slot -/
def atRef (S : SS T O) (t : Nat) (R : List Cnt) : SS T O := (atP (delP S t [0]) t [] (.cells [.own S.next] 29)).add (.vec 5 R 60)

/-! ### (*regatta/regattaref21.Counter).Get -/
def getCText (R : List Cnt) (k : Int) : Prop := ((∃ x : Nat, (((x ≤ R.length) ∧ (getR k R = getR k (List.drop x R))) ∧ ((True ∧ ((k = k) ∧ (((↑x : Int) = (0 : Int)) ∧ True))) ∧ ((True ∧ True) ∧ ((R = R) ∧ True))))) ∧ (∀ x : Nat, (((x ≤ R.length) ∧ (getR k R = getR k (List.drop x R))) → (match (decide ((↑x : Int) < (↑R.length : Int))) with | true => (match (inb (↑x : Int) R.length) with | true => (match (inb (↑x : Int) R.length) with | true => (match ((at' cntE.zero R (↑x : Int)).K == k) with | true => (match (inb (↑x : Int) R.length) with | true => (match (inb (↑x : Int) R.length) with | true => (((getR k R = (at' cntE.zero R (↑x : Int)).N) ∧ True) ∧ ((True ∧ True) ∧ ((R = R) ∧ True))) | false => False) | false => False) | false => (∃ x' : Nat, (((x' ≤ R.length) ∧ (getR k R = getR k (List.drop x' R))) ∧ ((R.length - x' < R.length - x) ∧ ((True ∧ ((k = k) ∧ (((↑x' : Int) = IntKind.i64.wrap ((↑x : Int) + (1 : Int))) ∧ True))) ∧ ((True ∧ True) ∧ ((R = R) ∧ True))))))) | false => False) | false => False) | false => (((getR k R = (0 : Int)) ∧ True) ∧ ((True ∧ True) ∧ ((R = R) ∧ True)))))))
theorem getCVc (R : List Cnt) (k : Int) : fnX X17 (oneLoop 2 { σ := Nat, st := fun S x => (S.keep [0, 1]).int 5 x, inv := fun _ x => x ≤ R.length ∧ getR k R = getR k (R.drop x), m := fun x => R.length - x }) Try.f14 [.ptr 0 0, .raw (.int .i64 k)] [.cells [.own 1] 29, .vec 5 R 60] (ends [.cells [.own 1] 29, .vec 5 R 60] ⟨some (.raw (.int .i64 (getR k R))), [(1, some (.vec 5 R 60))]⟩) = getCText R k := by kernel_rfl
theorem getCHolds (R : List Cnt) (k : Int) (hp : R.length ≤ 1000) : getCText R k := by
  unfold getCText
  refine ⟨⟨0, ⟨Nat.zero_le _, by rw [List.drop_zero]⟩, by repeat' first | trivial | rfl | apply And.intro⟩, ?_⟩
  rintro x ⟨hx, hs⟩
  by_cases h : x < R.length
  · have hwx := wrap_succ h (show R.length ≤ 140737488355328 by omega)
    rw [drop_at h] at hs
    simp only [getR] at hs
    rw [dec_lt h, inb_nat h, at_nat h]
    cases hc : R[x].K == k
    · rw [hc, cond_false] at hs
      refine ⟨x + 1, ⟨h, hs⟩, by omega, ?_⟩
      repeat' first | exact hwx.symm | trivial | rfl | apply And.intro
    · rw [hc, cond_true] at hs
      repeat' first | exact hs | trivial | rfl | apply And.intro
  · rw [dec_ge (by omega)]
    rw [List.drop_of_length_le (by omega)] at hs
    repeat' first | exact hs | trivial | rfl | apply And.intro
noncomputable def getCCon : Con T O := fun args cs => match args, cs with
  | [.ptr 0 0, .raw (.int .i64 k)], [.cells [.own 1] 29, .vec 5 R 60] => chk (decide (R.length ≤ 1000)) (.ret ⟨some (.raw (.int .i64 (getR k R))), [(1, some (.vec 5 R 60))]⟩)
  | _, _ => .fail
theorem getCOk : ConOk R Try.prog 14 getCCon := con_of_fn R (X17) (TabOk.con R X17Ok) mixed Try.call14 Try.func14 getCCon (by
  intro args cs K h
  unfold getCCon at h
  split at h
  · rename_i k R
    rw [Tree.holds_chk] at h
    obtain ⟨hp, h⟩ := h
    refine ⟨oneLoop 2 { σ := Nat, st := fun S x => (S.keep [0, 1]).int 5 x, inv := fun _ x => x ≤ R.length ∧ getR k R = getR k (R.drop x), m := fun x => R.length - x }, _, fun v S hv => ⟨_, h, hv⟩, ?_⟩
    rw [getCVc R k]
    exact getCHolds R k (of_decide_eq_true hp)
  · exact h.elim)
/-! ### (*regatta/regattaref21.Counter).Keys -/
def keysRText (R : List Cnt) : Prop := ((∃ x : Nat, ((x.le R.length) ∧ ((True ∧ (True ∧ (((↑x : Int) = (0 : Int)) ∧ True))) ∧ ((True ∧ True) ∧ ((R = R) ∧ ((ksR (List.take x R) = []) ∧ True)))))) ∧ (∀ x : Nat, ((x.le R.length) → (match (decide ((↑x : Int) < (↑R.length : Int))) with | true => (match (inb (↑x : Int) R.length) with | true => (match (inb (↑x : Int) R.length) with | true => (match (roomy ((ksR (List.take x R)).length + (1 : Nat)) (nat_lit 8)) with | true => (∃ x' : Nat, ((x'.le R.length) ∧ ((R.length - x' < R.length - x) ∧ ((True ∧ (True ∧ (((↑x' : Int) = IntKind.i64.wrap ((↑x : Int) + (1 : Int))) ∧ True))) ∧ ((True ∧ True) ∧ ((R = R) ∧ ((ksR (List.take x' R) = ksR (List.take x R) ++ [(at' cntE.zero R (↑x : Int)).K]) ∧ True))))))) | false => False) | false => False) | false => False) | false => ((True ∧ True) ∧ ((True ∧ True) ∧ ((R = R) ∧ ((ksR R = ksR (List.take x R)) ∧ True))))))))
theorem keysRVc (R : List Cnt) : fnX X17 (oneLoop 3 { σ := Nat, st := fun S x => ((S.keep [0]).int 4 x).new 3 (.vec 0 (ksR (R.take x)) 3), inv := fun _ x => x ≤ R.length, m := fun x => R.length - x }) Try.f19 [.ptr 0 0] [.cells [.own 1] 29, .vec 5 R 60] (ends [.cells [.own 1] 29, .vec 5 R 60] ⟨some (.own 2), [(1, some (.vec 5 R 60)), (2, some (.vec 0 (ksR R) 3))]⟩) = keysRText R := by kernel_rfl
theorem keysRHolds (R : List Cnt) (hp : R.length ≤ 1000) : keysRText R := by
  unfold keysRText
  refine ⟨⟨0, Nat.zero_le _, by repeat' first | trivial | rfl | apply And.intro⟩, ?_⟩
  rintro x hx
  by_cases h : x < R.length
  · have hwx := wrap_succ h (show R.length ≤ 140737488355328 by omega)
    have hl : (ksR (R.take x)).length ≤ 2000 := by rw [ksR_length, List.length_take]; omega
    rw [dec_lt h, inb_nat h, at_nat h, room8 _ hl]
    refine ⟨x + 1, h, by omega, ?_⟩
    rw [take_snoc h, ksR_snoc]
    repeat' first | exact hwx.symm | trivial | rfl | apply And.intro
  · rw [dec_ge (by omega)]
    rw [List.take_of_length_le (by omega)]
    repeat' first | trivial | rfl | apply And.intro
noncomputable def keysRCon : Con T O := fun args cs => match args, cs with
  | [.ptr 0 0], [.cells [.own 1] 29, .vec 5 R 60] => chk (decide (R.length ≤ 1000)) (.ret ⟨some (.own 2), [(1, some (.vec 5 R 60)), (2, some (.vec 0 (ksR R) 3))]⟩)
  | _, _ => .fail
theorem keysROk : ConOk R Try.prog 19 keysRCon := con_of_fn R (X17) (TabOk.con R X17Ok) mixed Try.call19 Try.func19 keysRCon (by
  intro args cs K h
  unfold keysRCon at h
  split at h
  · rename_i R
    rw [Tree.holds_chk] at h
    obtain ⟨hp, h⟩ := h
    refine ⟨oneLoop 3 { σ := Nat, st := fun S x => ((S.keep [0]).int 4 x).new 3 (.vec 0 (ksR (R.take x)) 3), inv := fun _ x => x ≤ R.length, m := fun x => R.length - x }, _, fun v S hv => ⟨_, h, hv⟩, ?_⟩
    rw [keysRVc R]
    exact keysRHolds R (of_decide_eq_true hp)
  · exact h.elim)
/-! ### (*regatta/regattaref21.Counter).Sum -/
def sumRCText (R : List Cnt) : Prop := ((∃ x : Nat, ((x.le R.length) ∧ ((True ∧ ((sumR (List.take x R) = (0 : Int)) ∧ (((↑x : Int) = (0 : Int)) ∧ True))) ∧ ((True ∧ True) ∧ ((R = R) ∧ True))))) ∧ (∀ x : Nat, ((x.le R.length) → (match (decide ((↑x : Int) < (↑R.length : Int))) with | true => (match (inb (↑x : Int) R.length) with | true => (match (inb (↑x : Int) R.length) with | true => (∃ x' : Nat, ((x'.le R.length) ∧ ((R.length - x' < R.length - x) ∧ ((True ∧ ((sumR (List.take x' R) = IntKind.i64.wrap (sumR (List.take x R) + (at' cntE.zero R (↑x : Int)).N)) ∧ (((↑x' : Int) = IntKind.i64.wrap ((↑x : Int) + (1 : Int))) ∧ True))) ∧ ((True ∧ True) ∧ ((R = R) ∧ True)))))) | false => False) | false => False) | false => (((sumR R = sumR (List.take x R)) ∧ True) ∧ ((True ∧ True) ∧ ((R = R) ∧ True)))))))
theorem sumRCVc (R : List Cnt) : fnX X17 (oneLoop 3 { σ := Nat, st := fun S x => ((S.keep [0]).int 4 x).int 3 (sumR (R.take x)), inv := fun _ x => x ≤ R.length, m := fun x => R.length - x }) Try.f16 [.ptr 0 0] [.cells [.own 1] 29, .vec 5 R 60] (ends [.cells [.own 1] 29, .vec 5 R 60] ⟨some (.raw (.int .i64 (sumR R))), [(1, some (.vec 5 R 60))]⟩) = sumRCText R := by kernel_rfl
theorem sumRCHolds (R : List Cnt) (hp : R.length ≤ 1000) : sumRCText R := by
  unfold sumRCText
  refine ⟨⟨0, Nat.zero_le _, by repeat' first | trivial | rfl | apply And.intro⟩, ?_⟩
  rintro x hx
  by_cases h : x < R.length
  · have hwx := wrap_succ h (show R.length ≤ 140737488355328 by omega)
    rw [dec_lt h, inb_nat h, at_nat h]
    refine ⟨x + 1, h, by omega, ?_⟩
    rw [take_snoc h, sumR_snoc]
    repeat' first | exact hwx.symm | trivial | rfl | apply And.intro
  · rw [dec_ge (by omega)]
    rw [List.take_of_length_le (by omega)]
    repeat' first | trivial | rfl | apply And.intro
noncomputable def sumRCCon : Con T O := fun args cs => match args, cs with
  | [.ptr 0 0], [.cells [.own 1] 29, .vec 5 R 60] => chk (decide (R.length ≤ 1000)) (.ret ⟨some (.raw (.int .i64 (sumR R))), [(1, some (.vec 5 R 60))]⟩)
  | _, _ => .fail
theorem sumRCOk : ConOk R Try.prog 16 sumRCCon := con_of_fn R (X17) (TabOk.con R X17Ok) mixed Try.call16 Try.func16 sumRCCon (by
  intro args cs K h
  unfold sumRCCon at h
  split at h
  · rename_i R
    rw [Tree.holds_chk] at h
    obtain ⟨hp, h⟩ := h
    refine ⟨oneLoop 3 { σ := Nat, st := fun S x => ((S.keep [0]).int 4 x).int 3 (sumR (R.take x)), inv := fun _ x => x ≤ R.length, m := fun x => R.length - x }, _, fun v S hv => ⟨_, h, hv⟩, ?_⟩
    rw [sumRCVc R]
    exact sumRCHolds R (of_decide_eq_true hp)
  · exact h.elim)
/-! ### regatta/regattaref07.Same -/
def sameIText (A B : List Int) : Prop := (match ((↑A.length : Int) != (↑B.length : Int)) with | true => (((sameZ A B = false) ∧ True) ∧ ((A = A) ∧ ((B = B) ∧ True))) | false => ((∃ x : Nat, (((x ≤ A.length) ∧ (List.take x A = List.take x B)) ∧ ((True ∧ (True ∧ (((↑x : Int) = (0 : Int)) ∧ True))) ∧ ((A = A) ∧ ((B = B) ∧ True))))) ∧ (∀ x : Nat, (((x ≤ A.length) ∧ (List.take x A = List.take x B)) → (match (decide ((↑x : Int) < (↑A.length : Int))) with | true => (match (inb (↑x : Int) A.length) with | true => (match (inb (↑x : Int) A.length) with | true => (match (inb (↑x : Int) B.length) with | true => (match (inb (↑x : Int) B.length) with | true => (match (at' (0 : Int) A (↑x : Int) != at' (0 : Int) B (↑x : Int)) with | true => (((sameZ A B = false) ∧ True) ∧ ((A = A) ∧ ((B = B) ∧ True))) | false => (∃ x' : Nat, (((x' ≤ A.length) ∧ (List.take x' A = List.take x' B)) ∧ ((A.length - x' < A.length - x) ∧ ((True ∧ (True ∧ (((↑x' : Int) = IntKind.i64.wrap ((↑x : Int) + (1 : Int))) ∧ True))) ∧ ((A = A) ∧ ((B = B) ∧ True))))))) | false => False) | false => False) | false => False) | false => False) | false => (((sameZ A B = true) ∧ True) ∧ ((A = A) ∧ ((B = B) ∧ True))))))))
theorem sameIVc (A B : List Int) : fnX X17 (oneLoop 4 { σ := Nat, st := fun S x => (S.keep [0, 1]).int 5 x, inv := fun _ x => x ≤ A.length ∧ A.take x = B.take x, m := fun x => A.length - x }) Try.f17 [.own 0, .own 1] [.vec 0 A 3, .vec 0 B 3] (ends [.vec 0 A 3, .vec 0 B 3] ⟨some (.raw (.bool (sameZ A B))), [(0, some (.vec 0 A 3)), (1, some (.vec 0 B 3))]⟩) = sameIText A B := by kernel_rfl
theorem sameIHolds (A B : List Int) (hp : A.length ≤ 1000) : sameIText A B := by
  unfold sameIText
  by_cases hl : A.length = B.length
  · rw [show ((A.length : Int) != (B.length : Int)) = false by simp [hl]]
    refine ⟨⟨0, ⟨Nat.zero_le _, rfl⟩, by repeat' first | trivial | rfl | apply And.intro⟩, ?_⟩
    rintro x ⟨hx, hs⟩
    by_cases h : x < A.length
    · have hB : x < B.length := by omega
      have hwx := wrap_succ h (show A.length ≤ 140737488355328 by omega)
      rw [dec_lt h, inb_nat h, inb_nat hB, at_nat h, at_nat hB]
      by_cases he : A[x] = B[x]
      · rw [show (A[x] != B[x]) = false by rw [he]; simp]
        refine ⟨x + 1, ⟨h, ?_⟩, by omega, ?_⟩
        · rw [take_snoc h, take_snoc hB, hs, he]
        · repeat' first | exact hwx.symm | trivial | rfl | apply And.intro
      · rw [show (A[x] != B[x]) = true from bne_iff_ne.2 he]
        have hne : A ≠ B := fun e => he (by subst e; rfl)
        exact ⟨⟨decide_eq_false hne, trivial⟩, rfl, rfl, trivial⟩
    · rw [dec_ge (by omega)]
      have he : A = B := by
        have e1 : A.take x = A := List.take_of_length_le (by omega)
        have e2 : B.take x = B := List.take_of_length_le (by omega)
        rw [← e1, ← e2, hs]
      exact ⟨⟨decide_eq_true he, trivial⟩, rfl, rfl, trivial⟩
  · rw [show ((A.length : Int) != (B.length : Int)) = true by rw [bne_iff_ne]; omega]
    have hne : A ≠ B := fun e => hl (by rw [e])
    exact ⟨⟨decide_eq_false hne, trivial⟩, rfl, rfl, trivial⟩
noncomputable def sameICon : Con T O := fun args cs => match args, cs with
  | [.own 0, .own 1], [.vec 0 A 3, .vec 0 B 3] => chk (decide (A.length ≤ 1000)) (.ret ⟨some (.raw (.bool (sameZ A B))), [(0, some (.vec 0 A 3)), (1, some (.vec 0 B 3))]⟩)
  | _, _ => .fail
theorem sameIOk : ConOk R Try.prog 17 sameICon := con_of_fn R (X17) (TabOk.con R X17Ok) mixed Try.call17 Try.func17 sameICon (by
  intro args cs K h
  unfold sameICon at h
  split at h
  · rename_i A B
    rw [Tree.holds_chk] at h
    obtain ⟨hp, h⟩ := h
    refine ⟨oneLoop 4 { σ := Nat, st := fun S x => (S.keep [0, 1]).int 5 x, inv := fun _ x => x ≤ A.length ∧ A.take x = B.take x, m := fun x => A.length - x }, _, fun v S hv => ⟨_, h, hv⟩, ?_⟩
    rw [sameIVc A B]
    exact sameIHolds A B (of_decide_eq_true hp)
  · exact h.elim)
noncomputable def tab18 : Tab T O := (14, getCCon) :: (19, keysRCon) :: (16, sumRCCon) :: (17, sameICon) :: tab17
theorem tabOk18 : TabOk R Try.prog tab18 := TabOk.cons R getCOk <| TabOk.cons R keysROk <| TabOk.cons R sumRCOk <| TabOk.cons R sameIOk <| tabOk17
noncomputable def X18 : Ctx T O := { X0 with con := conOf tab18 }
theorem X18Ok : TabOk R X18.P tab18 := tabOk18
end Go.Proofs.Ythfggjfpokknlaa
