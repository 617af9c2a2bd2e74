/-
  Part of a proof over the seat Ytmnnjclnldaejaa: printed by a small program or typed by hand.
-/
import Derived.Test.YtmnnjclnldaejaaSxKit
/-
  Sx: the stable sort of the standard library, over rows of data: insertion in blocks, rotations, merges in place. No program in sight.
-/
namespace Go.Sx
section
variable {α : Type}

/-- 'lt': what the code asks; 'TL': the order that comes out -/
structure Ord2 (lt TL : α → α → Bool) : Prop where
  irr : ∀ a, TL a a = false
  tr : ∀ a b c, TL a b = true → TL b c = true → TL a c = true
  ntr : ∀ a b c, TL a b = false → TL b c = false → TL a c = false
  sub : ∀ a b, lt a b = true → TL a b = true
theorem Ord2.asymm {lt TL : α → α → Bool} (h : Ord2 lt TL) {a b : α} (hab : TL a b = true) : TL b a = false := by
  cases e : TL b a
  · rfl
  · have := h.tr _ _ _ hab e
    rw [h.irr] at this
    cases this
def srtT (TL : α → α → Bool) (L : List α) : List α := L.mergeSort (fun a b => !TL b a)
abbrev AscT (TL : α → α → Bool) (L : List α) : Prop := L.Pairwise (fun a b => TL a b = true)
/-- each two may be put in order: 'x' is ahead of 'y' in the row -/
abbrev PreT (lt TL : α → α → Bool) (L : List α) : Prop := L.Pairwise (fun x y => lt y x = true ∨ TL x y = true)
def Cross (lt TL : α → α → Bool) (A B : List α) : Prop := ∀ a ∈ A, ∀ b ∈ B, lt b a = true ∨ TL a b = true
variable {lt TL : α → α → Bool}
theorem srtT_perm (L : List α) : (srtT TL L).Perm L := List.mergeSort_perm _ _
theorem srtT_length (L : List α) : (srtT TL L).length = L.length := List.length_mergeSort _
theorem srtT_le (h : Ord2 lt TL) (L : List α) : (srtT TL L).Pairwise (fun a b => (!TL b a) = true) :=
  List.pairwise_mergeSort (fun a b c h1 h2 => by
    simp only [Bool.not_eq_true'] at *
    exact h.ntr _ _ _ h2 h1) (fun a b => by
    cases e : TL b a
    · simp
    · rw [h.asymm e]; simp) L
theorem AscT.le (h : Ord2 lt TL) {R : List α} (ha : AscT TL R) : R.Pairwise (fun a b => (!TL b a) = true) :=
  ha.imp fun {a b} e => by rw [h.asymm e]; rfl
theorem AscT.inj (h : Ord2 lt TL) {R : List α} (ha : AscT TL R) {a b : α} (hma : a ∈ R) (hmb : b ∈ R) (h1 : TL a b = false) (h2 : TL b a = false) : a = b := by
  obtain ⟨i, hi, rfl⟩ := List.getElem_of_mem hma
  obtain ⟨j, hj, rfl⟩ := List.getElem_of_mem hmb
  rcases Nat.lt_trichotomy i j with hl | he | hg
  · have := List.pairwise_iff_getElem.1 ha i j hi hj hl
    rw [this] at h1; cases h1
  · subst he; rfl
  · have := List.pairwise_iff_getElem.1 ha j i hj hi hg
    rw [this] at h2; cases h2
theorem srtT_eq (h : Ord2 lt TL) {R L : List α} (hp : R.Perm L) (ha : AscT TL R) : srtT TL L = R := by
  refine List.Perm.eq_of_pairwise (le := fun a b => (!TL b a) = true) (fun a b hma hmb h1 h2 => ?_) (srtT_le h L) (ha.le h) ((srtT_perm L).trans hp.symm)
  simp only [Bool.not_eq_true'] at h1 h2
  exact ha.inj h ((srtT_perm L |>.trans hp.symm).mem_iff.1 hma) hmb h2 h1
theorem srtT_self (h : Ord2 lt TL) {R : List α} (ha : AscT TL R) : srtT TL R = R := srtT_eq h (List.Perm.refl _) ha
theorem srtT_asc (h : Ord2 lt TL) {L : List α} (hc : L.Pairwise (fun x y => TL x y = true ∨ TL y x = true)) : AscT TL (srtT TL L) := by
  have hc' : (srtT TL L).Pairwise (fun x y => TL x y = true ∨ TL y x = true) := ((srtT_perm L).pairwise_iff (fun {a b} h => h.symm)).2 hc
  exact (List.Pairwise.and hc' (srtT_le h L)).imp fun {a b} ⟨h1, h2⟩ => by
    rcases h1 with h1 | h1
    · exact h1
    · rw [h1] at h2; cases h2
theorem PreT.comp (h : Ord2 lt TL) {L : List α} (hp : PreT lt TL L) : L.Pairwise (fun x y => TL x y = true ∨ TL y x = true) :=
  hp.imp fun {a b} e => by
    rcases e with e | e
    · exact .inr (h.sub _ _ e)
    · exact .inl e
theorem comp_two (h : Ord2 lt TL) {A B : List α} (ha : AscT TL A) (hb : AscT TL B) (hx : Cross lt TL A B) : (A ++ B).Pairwise (fun x y => TL x y = true ∨ TL y x = true) :=
  List.pairwise_append.2 ⟨ha.imp .inl, hb.imp .inl, fun a hma b hmb => by
    rcases hx a hma b hmb with e | e
    · exact .inr (h.sub _ _ e)
    · exact .inl e⟩
/-- two sorted rows: what goes ahead of what -/
theorem srtT_split (h : Ord2 lt TL) {A1 A2 B1 B2 : List α} (ha : AscT TL (A1 ++ A2)) (hb : AscT TL (B1 ++ B2)) (hx : Cross lt TL (A1 ++ A2) (B1 ++ B2))
    (h1 : ∀ x ∈ A1, ∀ y ∈ B2, TL x y = true) (h2 : ∀ x ∈ B1, ∀ y ∈ A2, TL x y = true) : srtT TL (A1 ++ A2 ++ (B1 ++ B2)) = srtT TL (A1 ++ B1) ++ srtT TL (A2 ++ B2) := by
  obtain ⟨ha1, ha2, ha3⟩ := List.pairwise_append.1 ha
  obtain ⟨hb1, hb2, hb3⟩ := List.pairwise_append.1 hb
  have x1 : Cross lt TL A1 B1 := fun a hma b hmb => hx a (List.mem_append_left _ hma) b (List.mem_append_left _ hmb)
  have x2 : Cross lt TL A2 B2 := fun a hma b hmb => hx a (List.mem_append_right _ hma) b (List.mem_append_right _ hmb)
  refine srtT_eq h ?_ (List.pairwise_append.2 ⟨srtT_asc h (comp_two h ha1 hb1 x1), srtT_asc h (comp_two h ha2 hb2 x2), fun a hma b hmb => ?_⟩)
  · refine ((srtT_perm _).append (srtT_perm _)).trans ?_
    rw [List.append_assoc, List.append_assoc]
    refine List.Perm.append_left A1 ?_
    rw [← List.append_assoc, ← List.append_assoc]
    exact List.Perm.append_right B2 List.perm_append_comm
  · have hma := (srtT_perm _).mem_iff.1 hma
    have hmb := (srtT_perm _).mem_iff.1 hmb
    rcases List.mem_append.1 hma with p | p
    · rcases List.mem_append.1 hmb with q | q
      · exact ha3 a p b q
      · exact h1 a p b q
    · rcases List.mem_append.1 hmb with q | q
      · exact h2 a p b q
      · exact hb3 a p b q

/-! ### parts of a row -/
def seg (a b : Nat) (L : List α) : List α := (L.drop a).take (b - a)
/-- a part is put in order -/
def rangeS (TL : α → α → Bool) (a b : Nat) (L : List α) : List α := L.take a ++ srtT TL (seg a b L) ++ L.drop b
/-- two parts that follow one another change places -/
def rotR (a m b : Nat) (L : List α) : List α := L.take a ++ seg m b L ++ seg a m L ++ L.drop b
theorem seg_length {a b : Nat} {L : List α} (h1 : a ≤ b) (h2 : b ≤ L.length) : (seg a b L).length = b - a := by
  unfold seg
  rw [List.length_take, List.length_drop]
  omega
theorem cut3 {a b : Nat} {L : List α} (h1 : a ≤ b) : L.take a ++ seg a b L ++ L.drop b = L := by
  unfold seg
  rw [List.append_assoc]
  have e : L.drop b = (L.drop a).drop (b - a) := by rw [List.drop_drop]; congr 1; omega
  rw [e, List.take_append_drop, List.take_append_drop]
theorem seg_add {a m b : Nat} {L : List α} (h1 : a ≤ m) (h2 : m ≤ b) : seg a b L = seg a m L ++ seg m b L := by
  unfold seg
  have e : L.drop m = (L.drop a).drop (m - a) := by rw [List.drop_drop]; congr 1; omega
  rw [e, show b - a = (m - a) + (b - m) by omega, List.take_add]
theorem rangeS_length {a b : Nat} {L : List α} (h1 : a ≤ b) (h2 : b ≤ L.length) : (rangeS TL a b L).length = L.length := by
  unfold rangeS
  rw [List.length_append, List.length_append, srtT_length, seg_length h1 h2, List.length_take, List.length_drop]
  omega
theorem rotR_length {a m b : Nat} {L : List α} (h1 : a ≤ m) (h2 : m ≤ b) (h3 : b ≤ L.length) : (rotR a m b L).length = L.length := by
  unfold rotR
  rw [List.length_append, List.length_append, List.length_append, seg_length h1 (by omega), seg_length h2 h3, List.length_take, List.length_drop]
  omega
theorem rotR_left {a b : Nat} {L : List α} (h : a ≤ b) : rotR a a b L = L := by
  unfold rotR
  rw [show seg a a L = [] by unfold seg; simp, List.append_nil, cut3 h]
theorem rotR_right {a b : Nat} {L : List α} (h : a ≤ b) : rotR a b b L = L := by
  unfold rotR
  rw [show seg b b L = [] by unfold seg; simp, List.append_nil, cut3 h]
theorem rangeS_asc (h : Ord2 lt TL) {a b : Nat} {L : List α} (h1 : a ≤ b) (ha : AscT TL (seg a b L)) : rangeS TL a b L = L := by
  unfold rangeS
  rw [srtT_self h ha, cut3 h1]
theorem take_left2 (P S Q : List α) : (P ++ S ++ Q).take P.length = P := by rw [List.append_assoc, List.take_left]
/-- parts of a row that is told by parts -/
theorem seg_app (P S Q : List α) : seg P.length (P.length + S.length) (P ++ S ++ Q) = S := by
  unfold seg
  rw [List.append_assoc, List.drop_left, show P.length + S.length - P.length = S.length by omega, List.take_left]
theorem seg_app' {P S Q L : List α} {a b : Nat} (hL : L = P ++ S ++ Q) (ha : a = P.length) (hb : b = P.length + S.length) : seg a b L = S := by
  subst hL ha hb
  exact seg_app P S Q
theorem rangeS_app {P S Q L : List α} {a b : Nat} (hL : L = P ++ S ++ Q) (ha : a = P.length) (hb : b = P.length + S.length) : rangeS TL a b L = P ++ srtT TL S ++ Q := by
  unfold rangeS
  rw [seg_app' hL ha hb]
  subst hL ha hb
  rw [take_left2, show P.length + S.length = (P ++ S).length by simp, List.drop_left]
theorem rotR_app {P U V Q L : List α} {a m b : Nat} (hL : L = P ++ U ++ V ++ Q) (ha : a = P.length) (hm : m = P.length + U.length) (hb : b = P.length + U.length + V.length) : rotR a m b L = P ++ V ++ U ++ Q := by
  unfold rotR
  rw [seg_app' (P := P ++ U) (S := V) (Q := Q) hL (by simp; omega) (by simp; omega), seg_app' (P := P) (S := U) (Q := V ++ Q) (by rw [hL]; simp) ha hm]
  subst hL ha hm hb
  rw [show P.length + U.length + V.length = (P ++ U ++ V).length by simp; omega, List.drop_left, show P ++ U ++ V ++ Q = P ++ U ++ (V ++ Q) by simp, take_left2]
theorem mem_seg {a b : Nat} {L : List α} {x : α} (h : x ∈ seg a b L) : ∃ i, a ≤ i ∧ i < b ∧ ∃ hi : i < L.length, L[i] = x := by
  unfold seg at h
  obtain ⟨k, hk, e⟩ := List.getElem_of_mem h
  rw [List.length_take, List.length_drop] at hk
  refine ⟨a + k, by omega, by omega, by omega, ?_⟩
  rw [← e]
  simp
theorem seg_get {a b i : Nat} {L : List α} (h1 : a ≤ i) (h2 : i < b) (hi : i < L.length) : L[i] ∈ seg a b L := by
  unfold seg
  refine List.mem_iff_getElem.2 ⟨i - a, ?_, ?_⟩
  · rw [List.length_take, List.length_drop]; omega
  · simp only [List.getElem_take, List.getElem_drop]
    congr 1; omega
theorem seg_asc {a b : Nat} {L : List α} (h : AscT TL (seg a b L)) {i j : Nat} (h1 : a ≤ i) (h2 : i < j) (h3 : j < b) (hj : j < L.length) : TL (L[i]'(by omega)) L[j] = true := by
  have := List.pairwise_iff_getElem.1 h (i - a) (j - a) (by unfold seg; rw [List.length_take, List.length_drop]; omega) (by unfold seg; rw [List.length_take, List.length_drop]; omega) (by omega)
  unfold seg at this
  simp only [List.getElem_take, List.getElem_drop] at this
  have e1 : a + (i - a) = i := by omega
  have e2 : a + (j - a) = j := by omega
  simpa only [e1, e2] using this

/-- what the binary search finds, first part against last -/
theorem parts_k1 (h : Ord2 lt TL) {L : List α} {a m b s e : Nat} (h1 : a ≤ s) (h2 : s ≤ m) (h3 : m ≤ e) (h4 : e ≤ b) (h5 : b ≤ L.length)
    (ha : AscT TL (seg a m L)) (hb : AscT TL (seg m b L)) (hx : Cross lt TL (seg a m L) (seg m b L))
    (q1 : s = a ∨ e = b ∨ ∃ (_ : 0 < s) (he : e < L.length), lt L[e] (L[s - 1]'(by omega)) = false) : ∀ x ∈ seg a s L, ∀ y ∈ seg e b L, TL x y = true := by
  intro x hx' y hy'
  obtain ⟨i, i1, i2, i3, rfl⟩ := mem_seg hx'
  obtain ⟨j, j1, j2, j3, rfl⟩ := mem_seg hy'
  rcases q1 with q | q | ⟨q0, q, q'⟩
  · omega
  · omega
  · have t1 : TL (L[s - 1]'(by omega)) L[e] = true := by
      rcases hx _ (seg_get (i := s - 1) (by omega) (by omega) (by omega)) _ (seg_get (i := e) (by omega) (by omega) q) with t | t
      · rw [t] at q'; cases q'
      · exact t
    have t2 : TL L[i] L[e] = true := by
      rcases Nat.lt_or_ge i (s - 1) with g | g
      · exact h.tr _ _ _ (seg_asc ha (by omega) g (by omega) (by omega)) t1
      · have : i = s - 1 := by omega
        subst this
        exact t1
    rcases Nat.lt_or_ge e j with g | g
    · exact h.tr _ _ _ t2 (seg_asc hb (by omega) g (by omega) (by omega))
    · have : j = e := by omega
      subst this
      exact t2
theorem parts_k2 (h : Ord2 lt TL) {L : List α} {a m b s e : Nat} (h1 : a ≤ s) (h2 : s ≤ m) (h3 : m ≤ e) (h4 : e ≤ b) (h5 : b ≤ L.length)
    (ha : AscT TL (seg a m L)) (hb : AscT TL (seg m b L))
    (q2 : s = m ∨ e = m ∨ ∃ (hs : s < L.length) (_ : 0 < e), lt (L[e - 1]'(by omega)) L[s] = true) : ∀ x ∈ seg m e L, ∀ y ∈ seg s m L, TL x y = true := by
  intro x hx' y hy'
  obtain ⟨i, i1, i2, i3, rfl⟩ := mem_seg hx'
  obtain ⟨j, j1, j2, j3, rfl⟩ := mem_seg hy'
  rcases q2 with q | q | ⟨q, q0, q'⟩
  · omega
  · omega
  · have t1 := h.sub _ _ q'
    have t2 : TL L[i] L[s] = true := by
      rcases Nat.lt_or_ge i (e - 1) with g | g
      · exact h.tr _ _ _ (seg_asc hb (by omega) g (by omega) (by omega)) t1
      · have : i = e - 1 := by omega
        subst this
        exact t1
    rcases Nat.lt_or_ge s j with g | g
    · exact h.tr _ _ _ t2 (seg_asc ha (by omega) g (by omega) (by omega))
    · have : j = s := by omega
      subst this
      exact t2
/-- THE MERGE IN PLACE: what the binary search finds parts both rows. -/
theorem merge_parts (h : Ord2 lt TL) {L : List α} {a m b s e mid : Nat} (h1 : a ≤ s) (h2 : s ≤ m) (h3 : m ≤ e) (h4 : e ≤ b) (h5 : b ≤ L.length) (hmid : mid - a = (s - a) + (e - m)) (hmid2 : a ≤ mid)
    (ha : AscT TL (seg a m L)) (hb : AscT TL (seg m b L)) (hx : Cross lt TL (seg a m L) (seg m b L))
    (q1 : s = a ∨ e = b ∨ ∃ (_ : 0 < s) (he : e < L.length), lt L[e] (L[s - 1]'(by omega)) = false)
    (q2 : s = m ∨ e = m ∨ ∃ (hs : s < L.length) (_ : 0 < e), lt (L[e - 1]'(by omega)) L[s] = true) :
    rangeS TL mid b (rangeS TL a mid (rotR s m e L)) = rangeS TL a b L ∧ AscT TL (seg a s (rotR s m e L)) ∧ AscT TL (seg s mid (rotR s m e L)) ∧ Cross lt TL (seg a s (rotR s m e L)) (seg s mid (rotR s m e L)) ∧
    AscT TL (seg mid e (rangeS TL a mid (rotR s m e L))) ∧ AscT TL (seg e b (rangeS TL a mid (rotR s m e L))) ∧ Cross lt TL (seg mid e (rangeS TL a mid (rotR s m e L))) (seg e b (rangeS TL a mid (rotR s m e L))) := by
  have lP : (L.take a).length = a := by rw [List.length_take]; omega
  have lA1 := seg_length (L := L) h1 (show s ≤ L.length by omega)
  have lA2 := seg_length (L := L) h2 (show m ≤ L.length by omega)
  have lB1 := seg_length (L := L) h3 (show e ≤ L.length by omega)
  have lB2 := seg_length (L := L) h4 h5
  have eA : seg a m L = seg a s L ++ seg s m L := seg_add h1 h2
  have eB : seg m b L = seg m e L ++ seg e b L := seg_add h3 h4
  have eL : L = L.take a ++ (seg a s L ++ seg s m L ++ (seg m e L ++ seg e b L)) ++ L.drop b := by
    rw [← eA, ← eB, ← seg_add (by omega) (by omega), cut3 (by omega)]
  have k1 := parts_k1 h h1 h2 h3 h4 h5 ha hb hx q1
  have k2 := parts_k2 h h1 h2 h3 h4 h5 ha hb q2
  rw [eA] at ha hx
  rw [eB] at hb hx
  have eR : rotR s m e L = L.take a ++ (seg a s L ++ seg m e L) ++ ((seg s m L ++ seg e b L) ++ L.drop b) := by
    have eL2 : L = L.take a ++ seg a s L ++ seg s m L ++ seg m e L ++ (seg e b L ++ L.drop b) := eL.trans (by simp only [List.append_assoc])
    rw [rotR_app (P := L.take a ++ seg a s L) (U := seg s m L) (V := seg m e L) (Q := seg e b L ++ L.drop b) eL2 (by rw [List.length_append]; omega) (by rw [List.length_append]; omega) (by rw [List.length_append]; omega)]
    simp only [List.append_assoc]
  have eR1 : rangeS TL a mid (rotR s m e L) = L.take a ++ srtT TL (seg a s L ++ seg m e L) ++ ((seg s m L ++ seg e b L) ++ L.drop b) := rangeS_app eR (by omega) (by rw [List.length_append]; omega)
  obtain ⟨ha1, ha2, ha3⟩ := List.pairwise_append.1 ha
  obtain ⟨hb1, hb2, hb3⟩ := List.pairwise_append.1 hb
  have s1 : seg a s (rotR s m e L) = seg a s L := seg_app' (P := L.take a) (S := seg a s L) (Q := seg m e L ++ ((seg s m L ++ seg e b L) ++ L.drop b)) (by rw [eR]; simp) (by omega) (by omega)
  have s2 : seg s mid (rotR s m e L) = seg m e L := seg_app' (P := L.take a ++ seg a s L) (S := seg m e L) (Q := ((seg s m L ++ seg e b L) ++ L.drop b)) (by rw [eR]; simp) (by rw [List.length_append]; omega) (by rw [List.length_append]; omega)
  have lS : (srtT TL (seg a s L ++ seg m e L)).length = mid - a := by rw [srtT_length, List.length_append]; omega
  have s3 : seg mid e (rangeS TL a mid (rotR s m e L)) = seg s m L := seg_app' (P := L.take a ++ srtT TL (seg a s L ++ seg m e L)) (S := seg s m L) (Q := seg e b L ++ L.drop b) (by rw [eR1]; simp) (by rw [List.length_append]; omega) (by rw [List.length_append]; omega)
  have s4 : seg e b (rangeS TL a mid (rotR s m e L)) = seg e b L := seg_app' (P := L.take a ++ srtT TL (seg a s L ++ seg m e L) ++ seg s m L) (S := seg e b L) (Q := L.drop b) (by rw [eR1]; simp) (by rw [List.length_append, List.length_append]; omega) (by rw [List.length_append, List.length_append]; omega)
  rw [s1, s2, s3, s4]
  refine ⟨?_, ha1, hb1, fun x p y q => hx x (List.mem_append_left _ p) y (List.mem_append_left _ q), ha2, hb2, fun x p y q => hx x (List.mem_append_right _ p) y (List.mem_append_right _ q)⟩
  rw [rangeS_app (P := L.take a ++ srtT TL (seg a s L ++ seg m e L)) (S := seg s m L ++ seg e b L) (Q := L.drop b) (by rw [eR1]; simp) (by rw [List.length_append]; omega) (by rw [List.length_append, List.length_append]; omega)]
  rw [rangeS_app (P := L.take a) (S := seg a s L ++ seg s m L ++ (seg m e L ++ seg e b L)) (Q := L.drop b) eL lP.symm (by simp only [List.length_append]; omega)]
  rw [srtT_split h ha hb hx k1 k2]
  simp
/-- one of the two rows is a part of its own: the search tells where the other one parts -/
theorem merge_left (h : Ord2 lt TL) {L : List α} {a m b e : Nat} (h0 : a ≤ m) (h3 : m ≤ e) (h4 : e ≤ b) (h5 : b ≤ L.length)
    (ha : AscT TL (seg a m L)) (hb : AscT TL (seg m b L)) (k1 : ∀ x ∈ seg a m L, ∀ y ∈ seg e b L, TL x y = true) (k2 : ∀ x ∈ seg m e L, ∀ y ∈ seg a m L, TL x y = true) :
    rangeS TL a b L = rotR a m e L := by
  have eB : seg m b L = seg m e L ++ seg e b L := seg_add h3 h4
  rw [eB] at hb
  obtain ⟨hb1, hb2, hb3⟩ := List.pairwise_append.1 hb
  have eS : srtT TL (seg a b L) = seg m e L ++ seg a m L ++ seg e b L := by
    rw [seg_add h0 (by omega : m ≤ b), eB]
    refine srtT_eq h ?_ (List.pairwise_append.2 ⟨List.pairwise_append.2 ⟨hb1, ha, k2⟩, hb2, fun x p y q => ?_⟩)
    · rw [← List.append_assoc]
      exact List.Perm.append_right _ List.perm_append_comm
    · rcases List.mem_append.1 p with p | p
      · exact hb3 x p y q
      · exact k1 x p y q
  unfold rangeS rotR
  rw [eS]
  have : seg e b L ++ L.drop b = L.drop e := by
    have := cut3 (a := e) (b := b) (L := L) h4
    have e2 : L.take e ++ L.drop e = L := List.take_append_drop e L
    rw [List.append_assoc] at this
    exact List.append_cancel_left (this.trans e2.symm)
  rw [← this]
  simp only [List.append_assoc]
theorem merge_right (h : Ord2 lt TL) {L : List α} {a m b s : Nat} (h1 : a ≤ s) (h2 : s ≤ m) (h4 : m ≤ b) (h5 : b ≤ L.length)
    (ha : AscT TL (seg a m L)) (hb : AscT TL (seg m b L)) (k1 : ∀ x ∈ seg a s L, ∀ y ∈ seg m b L, TL x y = true) (k2 : ∀ x ∈ seg m b L, ∀ y ∈ seg s m L, TL x y = true) :
    rangeS TL a b L = rotR s m b L := by
  have eA : seg a m L = seg a s L ++ seg s m L := seg_add h1 h2
  rw [eA] at ha
  obtain ⟨ha1, ha2, ha3⟩ := List.pairwise_append.1 ha
  have eS : srtT TL (seg a b L) = seg a s L ++ seg m b L ++ seg s m L := by
    rw [seg_add (by omega : a ≤ m) h4, eA]
    refine srtT_eq h ?_ (List.pairwise_append.2 ⟨List.pairwise_append.2 ⟨ha1, hb, k1⟩, ha2, fun x p y q => ?_⟩)
    · rw [List.append_assoc, List.append_assoc]
      exact List.Perm.append_left _ List.perm_append_comm
    · rcases List.mem_append.1 p with p | p
      · exact ha3 x p y q
      · exact k2 x p y q
  unfold rangeS rotR
  rw [eS]
  have : L.take a ++ seg a s L = L.take s := by
    have := cut3 (a := a) (b := s) (L := L) h1
    have e2 : L.take s ++ L.drop s = L := List.take_append_drop s L
    exact List.append_cancel_right (this.trans e2.symm)
  rw [← this]
  simp only [List.append_assoc]

/-! ### the code's steps -/
def swp (z : α) (L : List α) (i j : Nat) : List α := (L.set i (at' z L (j : Int))).set j (at' z L (i : Int))
theorem swp_length (z : α) (L : List α) (i j : Nat) : (swp z L i j).length = L.length := by simp [swp]
theorem at_app (z : α) (X : List α) (u : α) (Y : List α) : at' z (X ++ u :: Y) (X.length : Int) = u := by
  simp [at', List.getD_eq_getElem?_getD]
theorem at_app' {z : α} {X : List α} {u : α} {Y L : List α} {i : Nat} (hL : L = X ++ u :: Y) (hi : i = X.length) : at' z L (i : Int) = u := by
  subst hL hi
  exact at_app z X u Y
theorem set_app {X : List α} {u v : α} {Y L : List α} {i : Nat} (hL : L = X ++ u :: Y) (hi : i = X.length) : L.set i v = X ++ v :: Y := by
  subst hL hi
  rw [List.set_append_right _ _ (Nat.le_refl _), Nat.sub_self, List.set_cons_zero]
theorem swp_app {z : α} {X Y W L : List α} {u v : α} {i j : Nat} (hL : L = X ++ u :: (Y ++ v :: W)) (hi : i = X.length) (hj : j = X.length + 1 + Y.length) : swp z L i j = X ++ v :: (Y ++ u :: W) := by
  unfold swp
  rw [at_app' (z := z) hL hi, at_app' (z := z) (L := L) (i := j) (X := X ++ u :: Y) (u := v) (Y := W) (by rw [hL]; simp) (by simp; omega), set_app hL hi]
  rw [set_app (X := X ++ v :: Y) (u := v) (Y := W) (by simp) (by simp; omega)]
  simp
theorem swp_app2 {z : α} {X Y W L : List α} {u v : α} {i j : Nat} (hL : L = X ++ u :: (Y ++ v :: W)) (hj : j = X.length) (hi : i = X.length + 1 + Y.length) : swp z L i j = X ++ v :: (Y ++ u :: W) := by
  unfold swp
  rw [at_app' (z := z) hL hj, at_app' (z := z) (L := L) (i := i) (X := X ++ u :: Y) (u := v) (Y := W) (by rw [hL]; simp) (by simp; omega), set_app (L := L) (i := i) (X := X ++ u :: Y) (u := v) (Y := W) (by rw [hL]; simp) (by simp; omega)]
  rw [set_app (X := X) (u := u) (Y := Y ++ u :: W) (by simp) hj]
/-- the element at lo + n goes down as far as it goes -/
def insD (z : α) (lt : α → α → Bool) (lo : Nat) : Nat → List α → List α
  | 0, L => L
  | n + 1, L => bif lt (at' z L ((lo + n + 1 : Nat) : Int)) (at' z L ((lo + n : Nat) : Int)) then insD z lt lo n (swp z L (lo + n + 1) (lo + n)) else L
theorem insD_spec (z : α) (h : Ord2 lt TL) (P : List α) (x : α) : ∀ (n : Nat) (A B L : List α), L = P ++ A ++ x :: B → A.length = n → AscT TL A → (∀ y ∈ A, lt x y = true ∨ TL y x = true) → insD z lt P.length n L = P ++ srtT TL (A ++ [x]) ++ B
  | 0, A, B, L, hL, hn, _, _ => by
    obtain rfl := List.eq_nil_of_length_eq_zero hn
    rw [List.nil_append, srtT_self h (List.pairwise_singleton _ _), insD, hL]
    simp
  | n + 1, A, B, L, hL, hn, ha, hx => by
    obtain ⟨A', y, rfl⟩ : ∃ A' y, A = A' ++ [y] := by
      have hne : A ≠ [] := by intro e; rw [e] at hn; cases hn
      exact ⟨A.dropLast, A.getLast hne, (List.dropLast_concat_getLast hne).symm⟩
    simp only [List.length_append, List.length_cons, List.length_nil] at hn
    have hl : A'.length = n := by omega
    obtain ⟨ha1, _, ha3⟩ := List.pairwise_append.1 ha
    have e1 : at' z L ((P.length + n + 1 : Nat) : Int) = x := at_app' (X := P ++ (A' ++ [y])) (Y := B) hL (by simp; omega)
    have e2 : at' z L ((P.length + n : Nat) : Int) = y := at_app' (X := P ++ A') (Y := x :: B) (by rw [hL]; simp) (by simp; omega)
    simp only [insD, e1, e2]
    cases hxy : lt x y
    · rw [cond_false]
      have hyx : TL y x = true := by
        rcases hx y (by simp) with t | t
        · rw [t] at hxy; cases hxy
        · exact t
      have has : AscT TL (A' ++ [y] ++ [x]) := List.pairwise_append.2 ⟨ha, List.pairwise_singleton _ _, fun a p b q => by
        rw [List.mem_singleton.1 q]
        rcases List.mem_append.1 p with p | p
        · exact h.tr _ _ _ (ha3 a p y (by simp)) hyx
        · rw [List.mem_singleton.1 p]; exact hyx⟩
      rw [srtT_self h has, hL]
      simp
    · rw [cond_true]
      have eS : swp z L (P.length + n + 1) (P.length + n) = P ++ A' ++ x :: (y :: B) := by
        rw [swp_app2 (X := P ++ A') (Y := []) (u := y) (v := x) (W := B) (by rw [hL]; simp) (by simp; omega) (by simp; omega)]
        simp
      rw [insD_spec z h P x n A' (y :: B) _ eS hl ha1 (fun a p => hx a (List.mem_append_left _ p))]
      have e3 : srtT TL (A' ++ [y] ++ [x]) = srtT TL (A' ++ [x]) ++ [y] := by
        refine srtT_eq h ?_ (List.pairwise_append.2 ⟨srtT_asc h ?_, List.pairwise_singleton _ _, fun a p b q => ?_⟩)
        · refine ((srtT_perm _).append_right _).trans ?_
          rw [List.append_assoc, List.append_assoc]
          exact List.Perm.append_left _ List.perm_append_comm
        · exact List.pairwise_append.2 ⟨ha1.imp .inl, List.pairwise_singleton _ _, fun a p b q => by
            rw [List.mem_singleton.1 q]
            rcases hx a (List.mem_append_left _ p) with t | t
            · exact .inr (h.sub _ _ t)
            · exact .inl t⟩
        · rw [List.mem_singleton.1 q]
          rcases List.mem_append.1 ((srtT_perm _).mem_iff.1 p) with p | p
          · exact ha3 a p y (by simp)
          · rw [List.mem_singleton.1 p]; exact h.sub _ _ hxy
      rw [e3]
      simp
theorem PreT.part {a b c : Nat} {L : List α} (hp : PreT lt TL (seg a b L)) (h1 : a ≤ c) (h2 : c ≤ b) : PreT lt TL (seg a c L) := by
  rw [seg_add h1 h2] at hp
  exact (List.pairwise_append.1 hp).1
theorem rangeS_one (h : Ord2 lt TL) {a b : Nat} {L : List α} (h1 : a ≤ b) (h2 : b ≤ a + 1) : rangeS TL a b L = L := by
  refine rangeS_asc h h1 ?_
  rcases Nat.eq_or_lt_of_le h1 with e | e
  · subst e
    unfold seg
    simp
  · have : b = a + 1 := by omega
    subst this
    unfold seg
    rw [show a + 1 - a = 1 by omega]
    cases L.drop a <;> simp
theorem srtT_congr (h : Ord2 lt TL) {A B : List α} (hp : A.Perm B) (hc : B.Pairwise (fun x y => TL x y = true ∨ TL y x = true)) : srtT TL A = srtT TL B :=
  srtT_eq h ((srtT_perm B).trans hp.symm) (srtT_asc h hc)
theorem ins_step (z : α) (h : Ord2 lt TL) {a b x : Nat} {L : List α} (hp : PreT lt TL (seg a b L)) (h1 : a + x < b) (h2 : b ≤ L.length) : insD z lt a x (rangeS TL a (a + x) L) = rangeS TL a (a + x + 1) L := by
  have lP : (L.take a).length = a := by rw [List.length_take]; omega
  have hx : a + x < L.length := by omega
  have e1 : seg a (a + x + 1) L = seg a (a + x) L ++ [L[a + x]] := by
    rw [seg_add (m := a + x) (by omega) (by omega)]
    congr 1
    unfold seg
    rw [List.drop_eq_getElem_cons hx, show a + x + 1 - (a + x) = 1 by omega]
    simp only [List.take_succ_cons, List.take_zero]
  have hp2 := hp.part (c := a + x + 1) (by omega) (by omega)
  rw [e1] at hp2
  obtain ⟨p1, _, p3⟩ := List.pairwise_append.1 hp2
  have key := insD_spec z h (L.take a) L[a + x] x (srtT TL (seg a (a + x) L)) (L.drop (a + x + 1)) (rangeS TL a (a + x) L) (by unfold rangeS; rw [List.drop_eq_getElem_cons hx]) (by rw [srtT_length, seg_length (by omega) (by omega)]; omega) (srtT_asc h (PreT.comp h p1)) (fun y hy => p3 y ((srtT_perm _).mem_iff.1 hy) _ (by simp))
  rw [lP] at key
  rw [key]
  unfold rangeS
  rw [e1, srtT_congr h (A := srtT TL (seg a (a + x) L) ++ [L[a + x]]) (B := seg a (a + x) L ++ [L[a + x]]) ((srtT_perm _).append_right _) (PreT.comp h hp2)]

/-! two ranges change places -/
def swpR (z : α) (a b : Nat) : Nat → List α → List α
  | 0, L => L
  | n + 1, L => swp z (swpR z a b n L) (a + n) (b + n)
theorem swpR_length (z : α) (a b : Nat) (L : List α) : ∀ n, (swpR z a b n L).length = L.length
  | 0 => rfl
  | n + 1 => by rw [swpR, swp_length, swpR_length z a b L n]
theorem swpR_app (z : α) : ∀ (n : Nat) (P U M V Q L : List α) (a b : Nat), L = P ++ U ++ M ++ V ++ Q → U.length = n → V.length = n → a = P.length → b = P.length + n + M.length → swpR z a b n L = P ++ V ++ M ++ U ++ Q
  | 0, P, U, M, V, Q, L, a, b, hL, hu, hv, _, _ => by
    obtain rfl := List.eq_nil_of_length_eq_zero hu
    obtain rfl := List.eq_nil_of_length_eq_zero hv
    rw [swpR, hL]
  | n + 1, P, U, M, V, Q, L, a, b, hL, hu, hv, ha, hb => by
    obtain ⟨U', u, rfl⟩ : ∃ A' y, U = A' ++ [y] := by
      have hne : U ≠ [] := by intro e; rw [e] at hu; cases hu
      exact ⟨U.dropLast, U.getLast hne, (List.dropLast_concat_getLast hne).symm⟩
    obtain ⟨V', v, rfl⟩ : ∃ A' y, V = A' ++ [y] := by
      have hne : V ≠ [] := by intro e; rw [e] at hv; cases hv
      exact ⟨V.dropLast, V.getLast hne, (List.dropLast_concat_getLast hne).symm⟩
    simp only [List.length_append, List.length_cons, List.length_nil] at hu hv
    rw [swpR, swpR_app z n P U' (u :: M) V' (v :: Q) L a b (by rw [hL]; simp) (by omega) (by omega) ha (by rw [hb, List.length_cons]; omega)]
    rw [swp_app (X := P ++ V') (Y := M ++ U') (u := u) (v := v) (W := Q) (by simp) (by rw [List.length_append]; omega) (by rw [List.length_append, List.length_append]; omega)]
    simp
theorem rot_more {z : α} {m i j : Nat} {D : List α} (h1 : j < i) (h2 : i ≤ m) (h3 : m + j ≤ D.length) : rotR (m - (i - j)) m (m + j) (swpR z (m - i) m j D) = rotR (m - i) m (m + j) D := by
  have lP : (D.take (m - i)).length = m - i := by rw [List.length_take]; omega
  have l1 := seg_length (L := D) (a := m - i) (b := m - i + j) (by omega) (by omega)
  have l2 := seg_length (L := D) (a := m - i + j) (b := m) (by omega) (by omega)
  have l3 := seg_length (L := D) (a := m) (b := m + j) (by omega) (by omega)
  have eD : D = D.take (m - i) ++ seg (m - i) (m - i + j) D ++ seg (m - i + j) m D ++ seg m (m + j) D ++ D.drop (m + j) := by
    rw [List.append_assoc (D.take (m - i)), ← seg_add (by omega) (by omega), List.append_assoc (D.take (m - i)), ← seg_add (by omega) (by omega), cut3 (by omega)]
  rw [swpR_app z j _ _ _ _ _ D (m - i) m eD (by omega) (by omega) lP.symm (by omega)]
  rw [rotR_app (P := D.take (m - i)) (U := seg (m - i) (m - i + j) D ++ seg (m - i + j) m D) (V := seg m (m + j) D) (Q := D.drop (m + j)) (L := D) (by rw [← List.append_assoc]; exact eD) (by omega) (by rw [List.length_append]; omega) (by rw [List.length_append]; omega)]
  rw [rotR_app (P := D.take (m - i) ++ seg m (m + j) D) (U := seg (m - i + j) m D) (V := seg (m - i) (m - i + j) D) (Q := D.drop (m + j)) rfl (by rw [List.length_append]; omega) (by rw [List.length_append]; omega) (by rw [List.length_append]; omega)]
  simp only [List.append_assoc]
theorem rot_less {z : α} {m i j : Nat} {D : List α} (h1 : i < j) (h2 : i ≤ m) (h3 : m + j ≤ D.length) : rotR (m - i) m (m + (j - i)) (swpR z (m - i) (m + j - i) i D) = rotR (m - i) m (m + j) D := by
  have lP : (D.take (m - i)).length = m - i := by rw [List.length_take]; omega
  have l1 := seg_length (L := D) (a := m - i) (b := m) (by omega) (by omega)
  have l2 := seg_length (L := D) (a := m) (b := m + j - i) (by omega) (by omega)
  have l3 := seg_length (L := D) (a := m + j - i) (b := m + j) (by omega) (by omega)
  have eD : D = D.take (m - i) ++ seg (m - i) m D ++ seg m (m + j - i) D ++ seg (m + j - i) (m + j) D ++ D.drop (m + j) := by
    rw [List.append_assoc (D.take (m - i)), ← seg_add (by omega) (by omega), List.append_assoc (D.take (m - i)), ← seg_add (by omega) (by omega), cut3 (by omega)]
  rw [swpR_app z i _ _ _ _ _ D (m - i) (m + j - i) eD (by omega) (by omega) lP.symm (by omega)]
  rw [rotR_app (P := D.take (m - i)) (U := seg (m - i) m D) (V := seg m (m + j - i) D ++ seg (m + j - i) (m + j) D) (Q := D.drop (m + j)) (L := D) (by rw [← List.append_assoc]; exact eD) (by omega) (by omega) (by rw [List.length_append]; omega)]
  rw [rotR_app (P := D.take (m - i)) (U := seg (m + j - i) (m + j) D) (V := seg m (m + j - i) D) (Q := seg (m - i) m D ++ D.drop (m + j)) (by simp only [List.append_assoc]) (by omega) (by omega) (by omega)]
  simp only [List.append_assoc]
theorem rot_same {z : α} {m i : Nat} {D : List α} (h2 : i ≤ m) (h3 : m + i ≤ D.length) : swpR z (m - i) m i D = rotR (m - i) m (m + i) D := by
  have lP : (D.take (m - i)).length = m - i := by rw [List.length_take]; omega
  have l1 := seg_length (L := D) (a := m - i) (b := m) (by omega) (by omega)
  have l3 := seg_length (L := D) (a := m) (b := m + i) (by omega) (by omega)
  have eD : D = D.take (m - i) ++ seg (m - i) m D ++ [] ++ seg m (m + i) D ++ D.drop (m + i) := by
    rw [List.append_nil, List.append_assoc (D.take (m - i)), ← seg_add (by omega) (by omega), cut3 (by omega)]
  rw [swpR_app z i _ _ _ _ _ D (m - i) m eD (by omega) (by omega) lP.symm (by simp; omega)]
  rw [List.append_nil] at eD ⊢
  rw [rotR_app eD (by omega) (by omega) (by omega)]
/-- one goes up, or down, place by place -/
def bubU (z : α) (a : Nat) : Nat → List α → List α
  | 0, L => L
  | n + 1, L => swp z (bubU z a n L) (a + n) (a + n + 1)
def bubD (z : α) (m : Nat) : Nat → List α → List α
  | 0, L => L
  | n + 1, L => swp z (bubD z m n L) (m - n) (m - n - 1)
theorem bubU_length (z : α) (a : Nat) (L : List α) : ∀ n, (bubU z a n L).length = L.length
  | 0 => rfl
  | n + 1 => by rw [bubU, swp_length, bubU_length z a L n]
theorem bubD_length (z : α) (a : Nat) (L : List α) : ∀ n, (bubD z a n L).length = L.length
  | 0 => rfl
  | n + 1 => by rw [bubD, swp_length, bubD_length z a L n]
theorem bubU_app (z : α) : ∀ (n : Nat) (P B Q L : List α) (u : α) (a : Nat), L = P ++ u :: (B ++ Q) → B.length = n → a = P.length → bubU z a n L = P ++ B ++ u :: Q
  | 0, P, B, Q, L, u, a, hL, hn, _ => by
    obtain rfl := List.eq_nil_of_length_eq_zero hn
    rw [bubU, hL]
    simp
  | n + 1, P, B, Q, L, u, a, hL, hn, ha => by
    obtain ⟨B', y, rfl⟩ : ∃ A' y, B = A' ++ [y] := by
      have hne : B ≠ [] := by intro e; rw [e] at hn; cases hn
      exact ⟨B.dropLast, B.getLast hne, (List.dropLast_concat_getLast hne).symm⟩
    simp only [List.length_append, List.length_cons, List.length_nil] at hn
    rw [bubU, bubU_app z n P B' (y :: Q) L u a (by rw [hL]; simp) (by omega) ha]
    rw [swp_app (X := P ++ B') (Y := []) (u := u) (v := y) (W := Q) (by simp) (by rw [List.length_append]; omega) (by rw [List.length_append]; simp; omega)]
    simp
theorem bubD_app (z : α) : ∀ (n : Nat) (P B Q L : List α) (u : α) (m : Nat), L = P ++ B ++ u :: Q → B.length = n → m = P.length + n → bubD z m n L = P ++ u :: (B ++ Q)
  | 0, P, B, Q, L, u, m, hL, hn, _ => by
    obtain rfl := List.eq_nil_of_length_eq_zero hn
    rw [bubD, hL]
    simp
  | n + 1, P, B, Q, L, u, m, hL, hn, hm => by
    cases B with
    | nil => cases hn
    | cons y B' =>
      simp only [List.length_cons] at hn
      rw [bubD, bubD_app z n (P ++ [y]) B' Q L u m (by rw [hL]; simp) (by omega) (by rw [List.length_append]; simp; omega)]
      rw [swp_app2 (X := P) (Y := []) (u := y) (v := u) (W := B' ++ Q) (by simp) (by omega) (by simp; omega)]
      simp
theorem bubU_rot (z : α) {a e : Nat} {L : List α} (h1 : a + 1 ≤ e) (h2 : e ≤ L.length) : bubU z a (e - (a + 1)) L = rotR a (a + 1) e L := by
  have hx : a < L.length := by omega
  have e1 : seg a (a + 1) L = [L[a]] := by
    unfold seg
    rw [List.drop_eq_getElem_cons hx, show a + 1 - a = 1 by omega]
    simp only [List.take_succ_cons, List.take_zero]
  have eL : L = L.take a ++ L[a] :: (seg (a + 1) e L ++ L.drop e) := by
    have := cut3 (a := a) (b := e) (L := L) (by omega)
    rw [seg_add (m := a + 1) (by omega) h1, e1] at this
    refine this.symm.trans ?_
    simp only [List.append_assoc, List.cons_append, List.nil_append]
  rw [bubU_app z (e - (a + 1)) (L.take a) (seg (a + 1) e L) (L.drop e) L L[a] a eL (seg_length h1 h2) (by rw [List.length_take]; omega)]
  unfold rotR
  rw [e1]
  simp
theorem bubD_rot (z : α) {s m : Nat} {L : List α} (h1 : s ≤ m) (h2 : m + 1 ≤ L.length) : bubD z m (m - s) L = rotR s m (m + 1) L := by
  have hx : m < L.length := by omega
  have e1 : seg m (m + 1) L = [L[m]] := by
    unfold seg
    rw [List.drop_eq_getElem_cons hx, show m + 1 - m = 1 by omega]
    simp only [List.take_succ_cons, List.take_zero]
  have eL : L = L.take s ++ seg s m L ++ L[m] :: L.drop (m + 1) := by
    have := cut3 (a := s) (b := m + 1) (L := L) (by omega)
    rw [seg_add (m := m) h1 (by omega), e1] at this
    refine this.symm.trans ?_
    simp only [List.append_assoc, List.cons_append, List.nil_append]
  rw [bubD_app z (m - s) (L.take s) (seg s m L) (L.drop (m + 1)) L L[m] m eL (seg_length h1 (by omega)) (by rw [List.length_take]; omega)]
  unfold rotR
  rw [e1]
  simp

theorem half_mid {x y : Nat} (h : x + y ≤ 1099511627776) : IntKind.i64.wrap ((IntKind.u64.wrap (IntKind.i64.wrap ((x : Int) + (y : Int)))).fdiv ((2 : Int) ^ min (Int.toNat (1 : Int)) IntKind.u64.bits)) = (((x + y) / 2 : Nat) : Int) := by
  have e1 : IntKind.i64.wrap ((x : Int) + (y : Int)) = ((x + y : Nat) : Int) := by rw [wrap_id (by omega) (by omega)]; omega
  have e2 : IntKind.u64.wrap ((x + y : Nat) : Int) = ((x + y : Nat) : Int) := by
    show ((x + y : Nat) : Int) % 18446744073709551616 = _
    omega
  rw [e1, e2, show (2 : Int) ^ min (Int.toNat (1 : Int)) IntKind.u64.bits = 2 from rfl, Int.fdiv_eq_ediv_of_nonneg _ (by omega), wrap_id (by omega) (by omega)]
  omega
/-! ### blocks -/
/-- the first blocks, each in order -/
def preN (TL : α → α → Bool) (B : Nat) : Nat → List α → List α
  | 0, _ => []
  | k + 1, L => srtT TL (L.take B) ++ preN TL B k (L.drop B)
def blkA (TL : α → α → Bool) (B : Nat) (L : List α) : List α := preN TL B L.length L
theorem preN_length (B : Nat) : ∀ (k : Nat) (L : List α), (preN TL B k L).length = min (B * k) L.length
  | 0, L => by simp [preN]
  | k + 1, L => by
    rw [preN, List.length_append, srtT_length, preN_length B k, List.length_take, List.length_drop, Nat.mul_succ]
    omega
theorem srtT_nil : srtT TL ([] : List α) = [] := List.eq_nil_of_length_eq_zero (srtT_length _)
theorem preN_nil (B : Nat) : ∀ k, preN TL B k ([] : List α) = []
  | 0 => rfl
  | k + 1 => by rw [preN, List.take_nil, List.drop_nil, srtT_nil, preN_nil B k]; rfl
theorem preN_snoc (B : Nat) : ∀ (k : Nat) (L : List α), preN TL B (k + 1) L = preN TL B k L ++ srtT TL ((L.drop (B * k)).take B)
  | 0, L => by simp [preN]
  | k + 1, L => by
    rw [preN, preN_snoc B k (L.drop B), List.drop_drop, show B + B * k = B * (k + 1) by rw [Nat.mul_succ]; omega, preN, List.append_assoc]
theorem preN_more {B : Nat} (hB : 0 < B) : ∀ (k j : Nat) (L : List α), L.length ≤ B * k → L.length ≤ B * j → preN TL B k L = preN TL B j L
  | 0, j, L, h, _ => by
    have : L = [] := List.eq_nil_of_length_eq_zero (by omega)
    rw [this, preN_nil, preN_nil]
  | k + 1, 0, L, _, h => by
    have : L = [] := List.eq_nil_of_length_eq_zero (by omega)
    rw [this, preN_nil, preN_nil]
  | k + 1, j + 1, L, h1, h2 => by
    rw [Nat.mul_succ] at h1 h2
    rw [preN, preN, preN_more hB k j (L.drop B) (by rw [List.length_drop]; omega) (by rw [List.length_drop]; omega)]
theorem blkA_cut {B : Nat} (hB : 0 < B) (L : List α) : blkA TL B L = srtT TL (L.take B) ++ blkA TL B (L.drop B) := by
  unfold blkA
  rw [← preN, preN_more hB L.length ((L.drop B).length + 1) L (Nat.le_mul_of_pos_left _ hB) (by
    rw [List.length_drop]
    rw [Nat.mul_succ]
    have := Nat.le_mul_of_pos_left (L.length - B) hB
    omega)]
theorem blkA_one (h : Ord2 lt TL) {B : Nat} (hB : 0 < B) {L : List α} (hl : L.length ≤ B) : blkA TL B L = srtT TL L := by
  rw [blkA_cut hB, List.take_of_length_le hl, List.drop_of_length_le hl]
  unfold blkA
  rw [preN_nil, List.append_nil]
theorem blkA_pre {B k : Nat} (hB : 0 < B) {L : List α} (hl : L.length ≤ B * k) : preN TL B k L = blkA TL B L :=
  preN_more hB _ _ _ hl (Nat.le_mul_of_pos_left _ hB)
/-- blocks put in order so far; then those behind, as they are -/
def insS (TL : α → α → Bool) (x : Nat) (L : List α) : List α := preN TL 20 x L ++ L.drop (20 * x)
/-- blocks merged so far; then those behind, each in order -/
def mrgS (TL : α → α → Bool) (B x : Nat) (L : List α) : List α := preN TL (2 * B) x L ++ blkA TL B (L.drop (2 * B * x))
theorem insS_length (x : Nat) (L : List α) : (insS TL x L).length = L.length := by
  unfold insS
  rw [List.length_append, preN_length, List.length_drop]
  omega
theorem blkA_length (B : Nat) (hB : 0 < B) (L : List α) : (blkA TL B L).length = L.length := by
  unfold blkA
  rw [preN_length]
  have := Nat.le_mul_of_pos_left L.length hB
  omega
theorem mrgS_length (B x : Nat) (hB : 0 < B) (L : List α) : (mrgS TL B x L).length = L.length := by
  unfold mrgS
  rw [List.length_append, preN_length, blkA_length B hB, List.length_drop]
  omega
theorem PreT.seg {a b : Nat} {L : List α} (hp : PreT lt TL L) : PreT lt TL (seg a b L) := by
  unfold Sx.seg
  exact (hp.sublist (List.drop_sublist _ _)).sublist (List.take_sublist _ _)
theorem insS_step (h : Ord2 lt TL) {x c : Nat} {L : List α} (hp : PreT lt TL L) (hx : 20 * x ≤ L.length) (hc : c = min (20 * (x + 1)) L.length) : rangeS TL (20 * x) c (insS TL x L) = insS TL (x + 1) L ∧ PreT lt TL (Sx.seg (20 * x) c (insS TL x L)) := by
  have lP : (preN TL 20 x L).length = 20 * x := by rw [preN_length]; omega
  have eL : insS TL x L = preN TL 20 x L ++ (L.drop (20 * x)).take 20 ++ L.drop (20 * (x + 1)) := by
    unfold insS
    rw [List.append_assoc]
    congr 1
    have := (List.take_append_drop 20 (L.drop (20 * x))).symm
    rwa [List.drop_drop, show 20 * x + 20 = 20 * (x + 1) by omega] at this
  have hcl : c = (preN TL 20 x L).length + ((L.drop (20 * x)).take 20).length := by rw [lP, List.length_take, List.length_drop]; omega
  constructor
  · rw [rangeS_app eL lP.symm hcl]
    unfold insS
    rw [preN_snoc]
  · rw [seg_app' eL lP.symm hcl]
    exact (hp.sublist (List.drop_sublist _ _)).sublist (List.take_sublist _ _)
theorem mrgS_step (h : Ord2 lt TL) {B x c : Nat} {L : List α} (hB : 0 < B) (hp : PreT lt TL L) (hx : 2 * B * x + B < L.length) (hc : c = min (2 * B * (x + 1)) L.length) :
    rangeS TL (2 * B * x) c (mrgS TL B x L) = mrgS TL B (x + 1) L ∧ AscT TL (Sx.seg (2 * B * x) (2 * B * x + B) (mrgS TL B x L)) ∧ AscT TL (Sx.seg (2 * B * x + B) c (mrgS TL B x L)) ∧ Cross lt TL (Sx.seg (2 * B * x) (2 * B * x + B) (mrgS TL B x L)) (Sx.seg (2 * B * x + B) c (mrgS TL B x L)) := by
  rw [Nat.mul_succ] at hc
  have lP : (preN TL (2 * B) x L).length = 2 * B * x := by rw [preN_length]; omega
  have hb := blkA_cut (TL := TL) hB (L.drop (2 * B * x))
  have hb2 := blkA_cut (TL := TL) hB ((L.drop (2 * B * x)).drop B)
  have eL : mrgS TL B x L = preN TL (2 * B) x L ++ (srtT TL ((L.drop (2 * B * x)).take B) ++ srtT TL (((L.drop (2 * B * x)).drop B).take B)) ++ blkA TL B (((L.drop (2 * B * x)).drop B).drop B) := by
    unfold mrgS
    rw [hb, hb2]
    simp only [List.append_assoc]
  have l1 : (srtT TL ((L.drop (2 * B * x)).take B)).length = B := by rw [srtT_length, List.length_take, List.length_drop]; omega
  have l2 : (srtT TL (((L.drop (2 * B * x)).drop B).take B)).length = c - (2 * B * x + B) := by rw [srtT_length, List.length_take, List.length_drop, List.length_drop]; omega
  have hpd : PreT lt TL (L.drop (2 * B * x)) := hp.sublist (List.drop_sublist _ _)
  have hpp := hpd
  rw [← List.take_append_drop B (L.drop (2 * B * x))] at hpp
  obtain ⟨p1, p2, p3⟩ := List.pairwise_append.1 hpp
  have p4 : PreT lt TL (((L.drop (2 * B * x)).drop B).take B) := p2.sublist (List.take_sublist _ _)
  have s1 : Sx.seg (2 * B * x) (2 * B * x + B) (mrgS TL B x L) = srtT TL ((L.drop (2 * B * x)).take B) := seg_app' (P := preN TL (2 * B) x L) (Q := srtT TL (((L.drop (2 * B * x)).drop B).take B) ++ blkA TL B (((L.drop (2 * B * x)).drop B).drop B)) (by rw [eL]; simp only [List.append_assoc]) lP.symm (by omega)
  have s2 : Sx.seg (2 * B * x + B) c (mrgS TL B x L) = srtT TL (((L.drop (2 * B * x)).drop B).take B) := seg_app' (P := preN TL (2 * B) x L ++ srtT TL ((L.drop (2 * B * x)).take B)) (Q := blkA TL B (((L.drop (2 * B * x)).drop B).drop B)) (by rw [eL]; simp only [List.append_assoc]) (by rw [List.length_append]; omega) (by rw [List.length_append]; omega)
  rw [s1, s2]
  refine ⟨?_, srtT_asc h (PreT.comp h p1), srtT_asc h (PreT.comp h p4), fun a ha b hb => p3 a ((srtT_perm _).mem_iff.1 ha) b (List.mem_of_mem_take ((srtT_perm _).mem_iff.1 hb))⟩
  rw [rangeS_app eL lP.symm (by rw [List.length_append]; omega)]
  unfold mrgS
  rw [preN_snoc]
  have e2 : (L.drop (2 * B * x)).take (2 * B) = (L.drop (2 * B * x)).take B ++ ((L.drop (2 * B * x)).drop B).take B := by
    rw [show 2 * B = B + B by omega, List.take_add]
  have e3 : srtT TL (srtT TL ((L.drop (2 * B * x)).take B) ++ srtT TL (((L.drop (2 * B * x)).drop B).take B)) = srtT TL ((L.drop (2 * B * x)).take (2 * B)) := by
    rw [e2]
    refine srtT_congr h ((srtT_perm _).append (srtT_perm _)) ?_
    rw [← e2]
    exact PreT.comp h (hpd.sublist (List.take_sublist _ _))
  rw [e3, List.drop_drop, List.drop_drop, show 2 * B * x + (B + B) = 2 * B * (x + 1) by rw [Nat.mul_succ]; omega]
theorem insS_end {x : Nat} {L : List α} (h : L.length ≤ 20 * x) : insS TL x L = blkA TL 20 L := by
  unfold insS
  rw [List.drop_of_length_le h, List.append_nil]
  exact blkA_pre (by omega) h
/-- no block is left to merge -/
theorem mrgS_end (h : Ord2 lt TL) {B x : Nat} {L : List α} (hB : 0 < B) (h2 : L.length ≤ 2 * B * x + B) : mrgS TL B x L = blkA TL (2 * B) L := by
  have e : mrgS TL B x L = preN TL (2 * B) (x + 1) L := by
    unfold mrgS
    rw [preN_snoc, blkA_one h hB (by rw [List.length_drop]; omega), List.take_of_length_le (by rw [List.length_drop]; omega)]
  rw [e, blkA_pre (by omega) (by rw [Nat.mul_succ]; omega)]
theorem mrgS_all {B x : Nat} {L : List α} (hB : 0 < B) (h2 : L.length ≤ 2 * B * x) : mrgS TL B x L = blkA TL (2 * B) L := by
  unfold mrgS
  rw [List.drop_of_length_le h2]
  unfold blkA
  rw [preN_nil, List.append_nil]
  exact blkA_pre (by omega) h2
end
end Go.Sx
