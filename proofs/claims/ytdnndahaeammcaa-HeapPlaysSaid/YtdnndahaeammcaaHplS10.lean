/-
  Part of a proof over the seat Ytdnndahaeammcaa: printed by a small program or typed by hand.
-/
import Derived.Test.YtdnndahaeammcaaHplS9
import Derived.KernelRfl
namespace Go.Proofs.Ytdnndahaeammcaa
open Go.Sx Go.Proofs Classical

theorem HOk.perm' {s : HS} {C D : List Thing} (h : HOk s C) (hp : C.Perm D) : HOk s D := ⟨h.heap, h.map, h.perm.trans hp⟩
/-- the heap and the document's are one -/
structure PlayOk (i : Nat) (s : HS) (R : List RThing) : Prop where
  ok : HOk s (R.map th)
  small : ∀ t ∈ R, 0 ≤ t.ID ∧ t.ID ≤ 31
  len : R.length ≤ i
theorem PlayOk.start : PlayOk 0 (noThings, noPlaces) [] := ⟨HOk.new, fun e h => (by cases h), Nat.le_refl _⟩
theorem PlayOk.size {i : Nat} {s : HS} {R : List RThing} (h : PlayOk i s R) : s.1.length = R.length := by rw [h.ok.len, List.length_map]
theorem PlayOk.mono {i j : Nat} {s : HS} {R : List RThing} (h : PlayOk i s R) (hj : i ≤ j) : PlayOk j s R := ⟨h.ok, h.small, Nat.le_trans h.len hj⟩
theorem atR_cases (R : List RThing) (id : Int) : (atR R id = -1 ∧ ∀ t ∈ R, t.ID ≠ id) ∨ ∃ n : Nat, ∃ h : n < R.length, atR R id = n ∧ R[n].ID = id := by
  rcases firstI_cases (isID id) R 0 with ⟨h, h2⟩ | ⟨n, hn, h, hp, _⟩
  · refine .inl ⟨h, fun t ht e => ?_⟩
    have := h2 t ht
    rw [isID, e, beq_self_eq_true] at this
    cases this
  · exact .inr ⟨n, hn, by rw [atR, h]; omega, by simpa [isID] using hp⟩
theorem PlayOk.there {i : Nat} {s : HS} {R : List RThing} (h : PlayOk i s R) (id : Int) : thereB id s.2 = decide (0 ≤ atR R id) := by
  rw [Bool.eq_iff_iff, decide_eq_true_iff, h.ok.there]
  rcases atR_cases R id with ⟨e, h2⟩ | ⟨n, hn, e, h2⟩
  · rw [e]
    constructor
    · rintro ⟨a, ha, hid⟩
      obtain ⟨t, ht, rfl⟩ := List.mem_map.1 ha
      exact absurd hid (h2 t ht)
    · intro h3; omega
  · rw [e]
    exact ⟨fun _ => by omega, fun _ => ⟨th R[n], List.mem_map.2 ⟨R[n], List.getElem_mem _, rfl⟩, h2⟩⟩
theorem PlayOk.push {i : Nat} {s : HS} {R : List RThing} (h : PlayOk i s R) {id x : Int} (hid : 0 ≤ id ∧ id ≤ 31) (ht : thereB id s.2 = false) : PlayOk (i + 1) (pushH s id x) (R ++ [⟨id, x⟩]) := by
  refine ⟨(h.ok.push ht).perm' ?_, ?_, ?_⟩
  · rw [List.map_append]
    exact (List.perm_append_comm (l₁ := [⟨id, x⟩]) (l₂ := R.map th))
  · intro t ht
    rcases List.mem_append.1 ht with ht | ht
    · exact h.small t ht
    · rw [List.mem_singleton.1 ht]; exact hid
  · have := h.len
    simp; omega
/-- one and the same is taken -/
theorem PlayOk.take {i : Nat} {s : HS} {R : List RThing} (h : PlayOk i s R) {w n : Nat} (hw : w < s.1.length) (hn : n < R.length) (he : gN s.1 w = th R[n]) : PlayOk i (takeH s w) (R.eraseIdx n) := by
  obtain ⟨C', k1, k2⟩ := h.ok.take hw
  have hp : (R.map th).Perm (th R[n] :: (R.eraseIdx n).map th) := by
    have : R.Perm (R[n] :: R.eraseIdx n) := by
      rw [List.eraseIdx_eq_take_drop_succ]
      have e := List.take_append_drop n R
      rw [List.drop_eq_getElem_cons hn] at e
      exact (List.Perm.of_eq e.symm).trans List.perm_middle
    exact this.map th
  rw [he] at k1
  refine ⟨k2.perm' ((k1.symm.trans hp).cons_inv), fun t ht => h.small t (List.mem_of_mem_eraseIdx ht), ?_⟩
  have := h.len
  exact Nat.le_trans (List.length_eraseIdx_le _ _) this
theorem PlayOk.found {i : Nat} {s : HS} {R : List RThing} (h : PlayOk i s R) {id : Int} (ht : thereB id s.2 = true) :
    ∃ (n w : Nat) (p : RThing), atR R id = (n : Int) ∧ n < R.length ∧ at' rz R (n : Int) = p ∧ whereI id s.2 = (w : Int) ∧ w < s.1.length ∧ at' tz s.1 (w : Int) = th p ∧ PlayOk i (takeH s w) (R.eraseIdx n) := by
  obtain ⟨w, w1, w2, w3, w4⟩ := h.ok.where ht
  have h0 := h.there id
  rw [ht] at h0
  rcases atR_cases R id with ⟨e, _⟩ | ⟨n, hn, e, h2⟩
  · rw [e] at h0; cases h0
  · have he : gN s.1 w = th R[n] := h.ok.one w4 (List.mem_map.2 ⟨R[n], List.getElem_mem _, rfl⟩) (by rw [w3]; exact h2.symm)
    exact ⟨n, w, R[n], e, hn, at_nat hn, w2, w1, he, h.take w1 hn he⟩
theorem minN_le {R : List RThing} : ∀ x, x ≤ R.length → ∀ j : Nat, minN R x = j → j < x ∧ ∀ (k : Nat) (_ : k < x), le' (th (at' rz R (j : Int))) (th (at' rz R (k : Int)))
  | 0, _, j, h => by
    have h : (-1 : Int) = j := h
    omega
  | x + 1, hx, j, h => by
    rw [minN] at h
    rcases minN_range R x with ⟨e, rfl⟩ | ⟨m, hm, e⟩
    · rw [e, show decide ((-1 : Int) < 0) = true from rfl, cond_true] at h
      obtain rfl : j = 0 := by omega
      refine ⟨by omega, fun k hk => ?_⟩
      obtain rfl : k = 0 := by omega
      exact le_refl' _
    · obtain ⟨_, hall⟩ := minN_le x (by omega) m e
      rw [e, show decide ((m : Int) < 0) = false from decide_eq_false (by omega), cond_false] at h
      cases ha : aheadB (th (at' rz R (x : Int))) (th (at' rz R (m : Int)))
      · rw [ha, cond_false] at h
        obtain rfl : m = j := by omega
        refine ⟨by omega, fun k hk => ?_⟩
        rcases Nat.lt_or_ge k x with hlt | hge
        · exact hall k hlt
        · obtain rfl : k = x := by omega
          exact (ahead_false _ _).1 ha
      · rw [ha, cond_true] at h
        obtain rfl : x = j := by omega
        have h1 := (ahead_iff _ _).1 ha
        have h2 : le' (th (at' rz R (x : Int))) (th (at' rz R (m : Int))) := (le_total' _ _).resolve_right h1
        refine ⟨by omega, fun k hk => ?_⟩
        rcases Nat.lt_or_ge k x with hlt | hge
        · exact le_trans' h2 (hall k hlt)
        · obtain rfl : k = x := by omega
          exact le_refl' _
theorem le_antisymm' {a b : Thing} (h : le' a b) (h' : le' b a) : a.Id = b.Id := by unfold le' at *; omega
theorem PlayOk.least {i : Nat} {s : HS} {R : List RThing} (h : PlayOk i s R) (h0 : 0 < R.length) : ∃ (n : Nat) (p : RThing), minN R R.length = (n : Int) ∧ n < R.length ∧ at' rz R (n : Int) = p ∧ at' tz s.1 (0 : Int) = th p ∧ PlayOk i (takeH s 0) (R.eraseIdx n) := by
  rcases minN_range R R.length with ⟨_, e⟩ | ⟨j, hj, e⟩
  · omega
  · obtain ⟨_, hall⟩ := minN_le R.length (Nat.le_refl _) j e
    have hs : 0 < s.1.length := by rw [h.size]; exact h0
    obtain ⟨m1, m2⟩ := h.ok.min hs
    have hj' : at' rz R (j : Int) = R[j] := at_nat hj
    have he : gN s.1 0 = th R[j] := by
      refine h.ok.one m1 (List.mem_map.2 ⟨R[j], List.getElem_mem _, rfl⟩) (le_antisymm' (m2 _ (List.mem_map.2 ⟨R[j], List.getElem_mem _, rfl⟩)) ?_)
      obtain ⟨t, ht, e2⟩ := List.mem_map.1 m1
      obtain ⟨k, hk, rfl⟩ := List.getElem_of_mem ht
      have := hall k hk
      rw [hj', show at' rz R (k : Int) = R[k] from at_nat hk, e2] at this
      exact this
    exact ⟨j, R[j], e, hj, hj', he, h.take hs hj he⟩

/-! ### the numbers in order -/
theorem insZ_perm (x : Int) : ∀ l : List Int, (insZ x l).Perm (x :: l)
  | [] => List.Perm.refl _
  | y :: l => by
    simp only [insZ]
    cases decide (x < y)
    · rw [cond_false]
      exact ((insZ_perm x l).cons y).trans (List.Perm.swap x y l)
    · rw [cond_true]
theorem srtZ_perm (L : List Int) : (srtZ L).Perm L := by
  have : ∀ (L acc : List Int), (L.foldl (fun acc x => insZ x acc) acc).Perm (acc ++ L) := by
    intro L
    induction L with
    | nil => intro acc; simp
    | cons a L ih =>
      intro acc
      refine (ih _).trans ?_
      refine ((insZ_perm a acc).append_right L).trans ?_
      exact List.perm_middle.symm
  simpa [srtZ] using this L []
theorem insZ_sorted {x : Int} : ∀ {l : List Int}, l.Pairwise (· ≤ ·) → (insZ x l).Pairwise (· ≤ ·)
  | [], _ => by simp [insZ]
  | y :: l, h => by
    obtain ⟨h1, h2⟩ := List.pairwise_cons.1 h
    simp only [insZ]
    by_cases hp : x < y
    · rw [decide_eq_true hp, cond_true]
      refine List.pairwise_cons.2 ⟨?_, h⟩
      intro b hb
      rcases List.mem_cons.1 hb with rfl | hb
      · omega
      · have := h1 b hb; omega
    · rw [decide_eq_false hp, cond_false]
      refine List.pairwise_cons.2 ⟨?_, insZ_sorted h2⟩
      intro b hb
      rcases List.mem_cons.1 ((insZ_perm x l).mem_iff.1 hb) with rfl | hb
      · omega
      · exact h1 b hb
theorem srtZ_sorted (L : List Int) : (srtZ L).Pairwise (· ≤ ·) := by
  have : ∀ (L acc : List Int), acc.Pairwise (· ≤ ·) → (L.foldl (fun acc x => insZ x acc) acc).Pairwise (· ≤ ·) := by
    intro L
    induction L with
    | nil => intro acc h; exact h
    | cons a L ih => intro acc h; exact ih _ (insZ_sorted h)
  exact this L [] List.Pairwise.nil
theorem sort_srtZ {K L : List Int} (h : K.Perm L) : K.mergeSort (fun x y => decide (x ≤ y)) = srtZ L := by
  have tr : ∀ a b c : Int, decide (a ≤ b) = true → decide (b ≤ c) = true → decide (a ≤ c) = true := fun a b c h1 h2 => by simp only [decide_eq_true_eq] at *; omega
  have to : ∀ a b : Int, (decide (a ≤ b) || decide (b ≤ a)) = true := fun a b => by simp only [Bool.or_eq_true, decide_eq_true_eq]; omega
  refine List.Perm.eq_of_pairwise (le := fun a b : Int => a ≤ b) (fun a b _ _ h1 h2 => by omega) ((List.pairwise_mergeSort tr to K).imp fun {a b} h => by simpa using h) (srtZ_sorted L) ?_
  exact ((List.mergeSort_perm K _).trans h).trans (srtZ_perm L).symm
theorem MOk.keys {L : List Thing} {M : List (Int × Int)} (h : MOk L M) : (M.map (·.1)).Perm (L.map (·.Id)) := by
  have hnd : (L.map (·.Id)).Nodup := by
    rw [List.Nodup, List.pairwise_map, List.pairwise_iff_getElem]
    intro i j hi hj hij e
    have := h.inj hi hj (by rw [gN_at hi, gN_at hj]; exact e)
    omega
  refine (List.perm_ext_iff_of_nodup h.2.2 hnd).2 fun x => ?_
  constructor
  · intro hx
    cases hm : mget x M with
    | none => exact absurd hx (mget_none.1 hm)
    | some v =>
      obtain ⟨i, hi, _, e⟩ := h.2.1 x v hm
      rw [gN_at hi] at e
      exact List.mem_map.2 ⟨L[i], List.getElem_mem _, e⟩
  · intro hx
    obtain ⟨t, ht, e⟩ := List.mem_map.1 hx
    obtain ⟨i, hi, rfl⟩ := List.getElem_of_mem ht
    have := h.1 i hi
    rw [gN_at hi, e] at this
    rcases Classical.em (x ∈ M.map (·.1)) with h2 | h2
    · exact h2
    · rw [mget_none.2 h2] at this; cases this
theorem PlayOk.keys {i : Nat} {s : HS} {R : List RThing} (h : PlayOk i s R) : (s.2.map (·.1)).Perm (R.map (·.ID)) := by
  refine h.ok.map.keys.trans ?_
  have := h.ok.perm.map (·.Id)
  rw [List.map_map] at this
  exact this
theorem PlayOk.ids {i : Nat} {s : HS} {R : List RThing} (h : PlayOk i s R) : keysS s.2 = idsR R := sort_srtZ h.keys
theorem PlayOk.keysOk {i : Nat} {s : HS} {R : List RThing} (h : PlayOk i s R) (hi : i ≤ 1000) : keysOk s.2 = true := by
  have hk := h.keys
  have hl : s.2.length = R.length := by simpa using hk.length_eq
  unfold Ytdnndahaeammcaa.keysOk
  rw [Bool.and_eq_true, decide_eq_true_iff, List.all_eq_true]
  refine ⟨by rw [hl]; exact Nat.le_trans h.len hi, fun p hp => ?_⟩
  obtain ⟨t, ht, e⟩ := List.mem_map.1 (hk.mem_iff.1 (List.mem_map.2 ⟨p, hp, rfl⟩))
  have := h.small t ht
  rw [Bool.and_eq_true, decide_eq_true_iff, decide_eq_true_iff]
  omega
theorem sameZ_refl (A : List Int) : sameZ A A = true := decide_eq_true rfl

/-! ### (*regatta/regattaref07.Heap).Push -/
def pushRText (R : List RThing) (id x : Int) : Prop := (match (decide (R.length ≤ (1000 : Nat))) with | true => (match (decide (atR R id ≥ (0 : Int))) with | true => (match (decide ((0 : Int) ≤ atR R id)) with | true => (((false = false) ∧ True) ∧ ((True ∧ True) ∧ ((R = R) ∧ True))) | false => (((true = false) ∧ True) ∧ ((True ∧ True) ∧ ((R ++ [RThing.mk id x] = R) ∧ True)))) | false => (match (roomy (R.length + (1 : Nat)) (nat_lit 16)) with | true => (match (decide ((0 : Int) ≤ atR R id)) with | true => (((false = true) ∧ True) ∧ ((False ∧ True) ∧ (False ∧ True))) | false => (((true = true) ∧ True) ∧ ((True ∧ True) ∧ ((R ++ [RThing.mk id x] = R ++ [RThing.mk id x]) ∧ True)))) | false => False)) | false => False)
theorem pushRVc (R : List RThing) (id x : Int) : fnX X9 (noAnn) Try.f21 [.ptr 0 0, .raw (.int .i64 id), .raw (.int .i64 x)] [.cells [.own 1] 41, .vec 3 R 45] (endsIf (decide (0 ≤ atR R id)) [.cells [.own 1] 41, .vec 3 R 45] ⟨some (.raw (.bool false)), [(1, some (.vec 3 R 45))]⟩ ⟨some (.raw (.bool true)), [(0, some (.cells [.own 2] 41)), (1, none), (2, some (.vec 3 (R ++ [RThing.mk id x]) 45))]⟩) = pushRText R id x := by kernel_rfl
theorem pushRHolds (R : List RThing) (id x : Int) (hp : R.length ≤ 1000) : pushRText R id x := by
  unfold pushRText
  rw [decide_eq_true hp, room16 _ (by omega : R.length ≤ 1001)]
  rcases atR_cases R id with ⟨e, _⟩ | ⟨n, hn, e, _⟩
  · rw [e]
    repeat' first | trivial | rfl | apply And.intro
  · rw [e, show decide (0 ≤ (n : Int)) = true from decide_eq_true (by omega)]
    repeat' first | trivial | rfl | apply And.intro
noncomputable def pushRCon : Con T O := fun args cs => match args, cs with
  | [.ptr 0 0, .raw (.int .i64 id), .raw (.int .i64 x)], [.cells [.own 1] 41, .vec 3 R 45] => chk (decide (R.length ≤ 1000)) (.ite (decide (0 ≤ atR R id)) (.ret ⟨some (.raw (.bool false)), [(1, some (.vec 3 R 45))]⟩) (.ret ⟨some (.raw (.bool true)), [(0, some (.cells [.own 2] 41)), (1, none), (2, some (.vec 3 (R ++ [RThing.mk id x]) 45))]⟩))
  | _, _ => .fail
theorem pushROk : ConOk R Try.prog 21 pushRCon := con_of_fn R (X9) (TabOk.con R X9Ok) mixed Try.call21 Try.func21 pushRCon (by
  intro args cs K h
  unfold pushRCon at h
  split at h
  · rename_i id x R
    rw [Tree.holds_chk] at h
    obtain ⟨hp, h⟩ := h
    refine ⟨noAnn, _, fun v S hv => holds_if h v S hv, ?_⟩
    rw [pushRVc R id x]
    exact pushRHolds R id x (of_decide_eq_true hp)
  · exact h.elim)
/-! ### (*regatta/regattaref07.Heap).Remove -/
def removeRText (R : List RThing) (id : Int) : Prop := (match (decide (R.length ≤ (1000 : Nat))) with | true => (match (decide (atR R id < (0 : Int))) with | true => (match (decide (atR R id < (0 : Int))) with | true => (((((0 : Int) = (0 : Int)) ∧ ((false = false) ∧ True)) ∧ True) ∧ ((True ∧ True) ∧ ((R = R) ∧ True))) | false => (((((at' rz R (atR R id)).X = (0 : Int)) ∧ ((true = false) ∧ True)) ∧ True) ∧ ((True ∧ True) ∧ ((R.eraseIdx (atR R id).toNat = R) ∧ True)))) | false => (match (inb (atR R id) R.length) with | true => (match (inb (atR R id) R.length) with | true => (match (decide (R.length ≤ (1000 : Nat) ∧ (0 : Int) ≤ atR R id ∧ atR R id < (↑R.length : Int))) with | true => (match (decide (atR R id < (0 : Int))) with | true => (((((0 : Int) = (at' rThingE.zero R (atR R id)).X) ∧ ((false = true) ∧ True)) ∧ True) ∧ ((False ∧ True) ∧ (False ∧ True))) | false => (((((at' rz R (atR R id)).X = (at' rThingE.zero R (atR R id)).X) ∧ ((true = true) ∧ True)) ∧ True) ∧ ((True ∧ True) ∧ ((R.eraseIdx (atR R id).toNat = R.eraseIdx (atR R id).toNat) ∧ True)))) | false => False) | false => False) | false => False)) | false => False)
theorem removeRVc (R : List RThing) (id : Int) : fnX X9 (noAnn) Try.f18 [.ptr 0 0, .raw (.int .i64 id)] [.cells [.own 1] 41, .vec 3 R 45] (endsIf (decide (atR R id < 0)) [.cells [.own 1] 41, .vec 3 R 45] ⟨some (.tup [.raw (.int .i64 0), .raw (.bool false)]), [(1, some (.vec 3 R 45))]⟩ ⟨some (.tup [.raw (.int .i64 (at' rz R (atR R id)).X), .raw (.bool true)]), [(0, some (.cells [.own 2] 41)), (1, none), (2, some (.vec 3 (R.eraseIdx (atR R id).toNat) 45))]⟩) = removeRText R id := by kernel_rfl
theorem removeRHolds (R : List RThing) (id : Int) (hp : R.length ≤ 1000) : removeRText R id := by
  unfold removeRText
  rw [decide_eq_true hp]
  rcases atR_cases R id with ⟨e, _⟩ | ⟨n, hn, e, _⟩
  · rw [e]
    repeat' first | trivial | rfl | apply And.intro
  · rw [e, show decide ((n : Int) < 0) = false from decide_eq_false (by omega), inb_nat hn, show decide (R.length ≤ 1000 ∧ 0 ≤ (n : Int) ∧ (n : Int) < (R.length : Int)) = true from decide_eq_true ⟨hp, by omega, by omega⟩]
    repeat' first | trivial | rfl | apply And.intro
noncomputable def removeRCon : Con T O := fun args cs => match args, cs with
  | [.ptr 0 0, .raw (.int .i64 id)], [.cells [.own 1] 41, .vec 3 R 45] => chk (decide (R.length ≤ 1000)) (.ite (decide (atR R id < 0)) (.ret ⟨some (.tup [.raw (.int .i64 0), .raw (.bool false)]), [(1, some (.vec 3 R 45))]⟩) (.ret ⟨some (.tup [.raw (.int .i64 (at' rz R (atR R id)).X), .raw (.bool true)]), [(0, some (.cells [.own 2] 41)), (1, none), (2, some (.vec 3 (R.eraseIdx (atR R id).toNat) 45))]⟩))
  | _, _ => .fail
theorem removeROk : ConOk R Try.prog 18 removeRCon := con_of_fn R (X9) (TabOk.con R X9Ok) mixed Try.call18 Try.func18 removeRCon (by
  intro args cs K h
  unfold removeRCon at h
  split at h
  · rename_i id R
    rw [Tree.holds_chk] at h
    obtain ⟨hp, h⟩ := h
    refine ⟨noAnn, _, fun v S hv => holds_if h v S hv, ?_⟩
    rw [removeRVc R id]
    exact removeRHolds R id (of_decide_eq_true hp)
  · exact h.elim)
/-! ### (*regatta/regattaref07.Heap).Pop -/
def popRText (R : List RThing) : Prop := (match (decide (R.length ≤ (1000 : Nat))) with | true => (match (decide (minN R R.length < (0 : Int))) with | true => (match (decide (minN R R.length < (0 : Int))) with | true => ((((((0 : Int) = (0 : Int)) ∧ (((0 : Int) = (0 : Int)) ∧ True)) ∧ ((false = false) ∧ True)) ∧ True) ∧ ((True ∧ True) ∧ ((R = R) ∧ True))) | false => ((((((at' rz R (minN R R.length)).ID = (0 : Int)) ∧ (((at' rz R (minN R R.length)).X = (0 : Int)) ∧ True)) ∧ ((true = false) ∧ True)) ∧ True) ∧ ((True ∧ True) ∧ ((R.eraseIdx (minN R R.length).toNat = R) ∧ True)))) | false => (match (inb (minN R R.length) R.length) with | true => (match (inb (minN R R.length) R.length) with | true => (match (decide (R.length ≤ (1000 : Nat) ∧ (0 : Int) ≤ minN R R.length ∧ minN R R.length < (↑R.length : Int))) with | true => (match (decide (minN R R.length < (0 : Int))) with | true => ((((((0 : Int) = (at' rThingE.zero R (minN R R.length)).ID) ∧ (((0 : Int) = (at' rThingE.zero R (minN R R.length)).X) ∧ True)) ∧ ((false = true) ∧ True)) ∧ True) ∧ ((False ∧ True) ∧ (False ∧ True))) | false => ((((((at' rz R (minN R R.length)).ID = (at' rThingE.zero R (minN R R.length)).ID) ∧ (((at' rz R (minN R R.length)).X = (at' rThingE.zero R (minN R R.length)).X) ∧ True)) ∧ ((true = true) ∧ True)) ∧ True) ∧ ((True ∧ True) ∧ ((R.eraseIdx (minN R R.length).toNat = R.eraseIdx (minN R R.length).toNat) ∧ True)))) | false => False) | false => False) | false => False)) | false => False)
theorem popRVc (R : List RThing) : fnX X9 (noAnn) Try.f17 [.ptr 0 0] [.cells [.own 1] 41, .vec 3 R 45] (endsIf (decide (minN R R.length < 0)) [.cells [.own 1] 41, .vec 3 R 45] ⟨some (.tup [.agg [.raw (.int .i64 0), .raw (.int .i64 0)], .raw (.bool false)]), [(1, some (.vec 3 R 45))]⟩ ⟨some (.tup [.agg [.raw (.int .i64 (at' rz R (minN R R.length)).ID), .raw (.int .i64 (at' rz R (minN R R.length)).X)], .raw (.bool true)]), [(0, some (.cells [.own 2] 41)), (1, none), (2, some (.vec 3 (R.eraseIdx (minN R R.length).toNat) 45))]⟩) = popRText R := by kernel_rfl
theorem popRHolds (R : List RThing) (hp : R.length ≤ 1000) : popRText R := by
  unfold popRText
  rw [decide_eq_true hp]
  rcases minN_range R R.length with ⟨e, _⟩ | ⟨n, hn, e⟩
  · rw [e]
    repeat' first | trivial | rfl | apply And.intro
  · rw [e, show decide ((n : Int) < 0) = false from decide_eq_false (by omega), inb_nat hn, show decide (R.length ≤ 1000 ∧ 0 ≤ (n : Int) ∧ (n : Int) < (R.length : Int)) = true from decide_eq_true ⟨hp, by omega, by omega⟩]
    repeat' first | trivial | rfl | apply And.intro
noncomputable def popRCon : Con T O := fun args cs => match args, cs with
  | [.ptr 0 0], [.cells [.own 1] 41, .vec 3 R 45] => chk (decide (R.length ≤ 1000)) (.ite (decide (minN R R.length < 0)) (.ret ⟨some (.tup [.agg [.raw (.int .i64 0), .raw (.int .i64 0)], .raw (.bool false)]), [(1, some (.vec 3 R 45))]⟩) (.ret ⟨some (.tup [.agg [.raw (.int .i64 (at' rz R (minN R R.length)).ID), .raw (.int .i64 (at' rz R (minN R R.length)).X)], .raw (.bool true)]), [(0, some (.cells [.own 2] 41)), (1, none), (2, some (.vec 3 (R.eraseIdx (minN R R.length).toNat) 45))]⟩))
  | _, _ => .fail
theorem popROk : ConOk R Try.prog 17 popRCon := con_of_fn R (X9) (TabOk.con R X9Ok) mixed Try.call17 Try.func17 popRCon (by
  intro args cs K h
  unfold popRCon at h
  split at h
  · rename_i R
    rw [Tree.holds_chk] at h
    obtain ⟨hp, h⟩ := h
    refine ⟨noAnn, _, fun v S hv => holds_if h v S hv, ?_⟩
    rw [popRVc R]
    exact popRHolds R (of_decide_eq_true hp)
  · exact h.elim)
noncomputable def tab10 : Tab T O := (21, pushRCon) :: (18, removeRCon) :: (17, popRCon) :: tab9
theorem tabOk10 : TabOk R Try.prog tab10 := TabOk.cons R pushROk <| TabOk.cons R removeROk <| TabOk.cons R popROk <| tabOk9
noncomputable def X10 : Ctx T O := { X0 with con := conOf tab10 }
theorem X10Ok : TabOk R X10.P tab10 := tabOk10
end Go.Proofs.Ytdnndahaeammcaa
