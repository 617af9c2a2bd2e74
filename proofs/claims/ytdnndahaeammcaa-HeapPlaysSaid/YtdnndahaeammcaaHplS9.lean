/-
  Part of a proof over the seat Ytdnndahaeammcaa: printed by a small program or typed by hand.
-/
import Derived.Test.YtdnndahaeammcaaHplS8
import Derived.KernelRfl
namespace Go.Proofs.Ytdnndahaeammcaa
open Go.Sx Go.Proofs Classical

abbrev rz : RThing := rThingE.zero
def isID (id : Int) (t : RThing) : Bool := t.ID == id
/-- the first place where something is so -/
def firstI {α : Type} (p : α → Bool) : List α → Int → Int
  | [], _ => -1
  | a :: l, i => bif p a then i else firstI p l (i + 1)
theorem firstI_cases {α : Type} (p : α → Bool) : ∀ (L : List α) (i : Int), (firstI p L i = -1 ∧ ∀ a ∈ L, p a = false) ∨ ∃ n : Nat, ∃ h : n < L.length, firstI p L i = i + n ∧ p L[n] = true ∧ ∀ k (hk : k < n), p (L[k]'(by omega)) = false
  | [], _ => .inl ⟨rfl, fun _ h => by cases h⟩
  | a :: l, i => by
    simp only [firstI]
    cases hp : p a
    · rw [cond_false]
      rcases firstI_cases p l (i + 1) with ⟨h, h2⟩ | ⟨n, hn, h, h2, h3⟩
      · refine .inl ⟨h, fun b hb => ?_⟩
        rcases List.mem_cons.1 hb with rfl | hb
        · exact hp
        · exact h2 b hb
      · refine .inr ⟨n + 1, by simp; omega, by rw [h]; omega, by simpa using h2, fun k hk => ?_⟩
        cases k with
        | zero => simpa using hp
        | succ k => simpa using h3 k (by omega)
    · exact .inr ⟨0, by simp, by simp, by simpa using hp, fun k hk => by omega⟩
/-- the place of a number -/
def atR (R : List RThing) (id : Int) : Int := firstI (isID id) R 0
def th (t : RThing) : Thing := ⟨t.ID, t.X⟩
/-- the least one's place, of the first x -/
def minN (R : List RThing) : Nat → Int
  | 0 => -1
  | x + 1 => bif decide (minN R x < 0) then x else (bif aheadB (th (at' rz R (x : Int))) (th (at' rz R (minN R x))) then (x : Int) else minN R x)
theorem minN_range (R : List RThing) : ∀ x, minN R x = -1 ∧ x = 0 ∨ ∃ j : Nat, j < x ∧ minN R x = j
  | 0 => .inl ⟨rfl, rfl⟩
  | x + 1 => by
    rw [minN]
    rcases minN_range R x with ⟨h, rfl⟩ | ⟨j, hj, h⟩
    · rw [h]
      exact .inr ⟨0, by omega, rfl⟩
    · rw [h, show decide ((j : Int) < 0) = false from decide_eq_false (by omega), cond_false]
      cases aheadB (th (at' rz R (x : Int))) (th (at' rz R (j : Int)))
      · exact .inr ⟨j, by omega, rfl⟩
      · exact .inr ⟨x, by omega, rfl⟩
/-- without the one at a place, as far as it has come -/
def outN (R : List RThing) (k : Nat) (x : Nat) : List RThing := (R.take x).eraseIdx k
theorem outN_step {R : List RThing} {k x : Nat} (h : x < R.length) : outN R k (x + 1) = bif x == k then outN R k x else outN R k x ++ [R[x]] := by
  unfold outN
  rw [(List.take_append_getElem h).symm]
  have hl : (R.take x).length = x := by rw [List.length_take]; omega
  by_cases hk : x = k
  · subst hk
    have e1 : (R.take x).eraseIdx x = R.take x := List.eraseIdx_of_length_le (by omega)
    rw [List.eraseIdx_append_of_length_le (by omega), hl, e1]
    simp
  · rw [show (x == k) = false by simpa using hk, cond_false]
    rcases Nat.lt_or_ge k x with hlt | hge
    · rw [List.eraseIdx_append_of_lt_length (by omega)]
    · rw [List.eraseIdx_append_of_length_le (by omega), hl, List.eraseIdx_of_length_le (by simp; omega), List.eraseIdx_of_length_le (by omega)]
theorem outN_all (R : List RThing) (k : Nat) : outN R k R.length = R.eraseIdx k := by unfold outN; rw [List.take_length]
theorem outN_len (R : List RThing) (k x : Nat) : (outN R k x).length ≤ x := by
  unfold outN
  exact Nat.le_trans (List.length_eraseIdx_le _ _) (by rw [List.length_take]; omega)

/-- put in ahead of the first one that is greater -/
def insZ (x : Int) : List Int → List Int
  | [] => [x]
  | y :: l => bif decide (x < y) then x :: y :: l else y :: insZ x l
def hasZ (x : Int) (l : List Int) : Bool := l.any fun y => decide (x < y)
def srtZ (L : List Int) : List Int := L.foldl (fun acc x => insZ x acc) []
theorem insZ_length (x : Int) : ∀ l : List Int, (insZ x l).length = l.length + 1
  | [] => rfl
  | y :: l => by
    simp only [insZ]
    cases decide (x < y)
    · simp [insZ_length x l]
    · simp
theorem srtZ_snoc (L : List Int) (x : Int) : srtZ (L ++ [x]) = insZ x (srtZ L) := by simp [srtZ]
theorem srtZ_length (L : List Int) : (srtZ L).length = L.length := by
  have : ∀ (L acc : List Int), (L.foldl (fun acc x => insZ x acc) acc).length = acc.length + L.length := by
    intro L
    induction L with
    | nil => intro acc; simp
    | cons a L ih => intro acc; simp only [List.foldl_cons, ih, insZ_length, List.length_cons]; omega
  simpa [srtZ] using this L []
theorem insZ_no {x : Int} : ∀ {l : List Int}, hasZ x l = false → insZ x l = l ++ [x]
  | [], _ => rfl
  | y :: l, h => by
    simp only [hasZ, List.any_cons, Bool.or_eq_false_iff] at h
    simp only [insZ, h.1, cond_false, insZ_no (l := l) h.2, List.cons_append]
theorem insZ_snoc_has {x y : Int} : ∀ {l : List Int}, hasZ x l = true → insZ x (l ++ [y]) = insZ x l ++ [y]
  | [], h => by simp [hasZ] at h
  | z :: l, h => by
    simp only [hasZ, List.any_cons, Bool.or_eq_true] at h
    simp only [insZ, List.cons_append]
    cases hz : decide (x < z)
    · rw [hz] at h
      simp only [Bool.false_eq_true, false_or] at h
      simp only [cond_false, insZ_snoc_has (l := l) h, List.cons_append]
    · simp
theorem insZ_snoc_lt {x y : Int} (h : decide (x < y) = true) : ∀ l : List Int, insZ x (l ++ [y]) = insZ x l ++ [y]
  | [] => by simp only [insZ, List.nil_append, h, cond_true, List.cons_append]
  | z :: l => by
    simp only [insZ, List.cons_append]
    cases decide (x < z)
    · simp only [cond_false, insZ_snoc_lt h l, List.cons_append]
    · simp
theorem hasZ_snoc (x y : Int) (l : List Int) : hasZ x (l ++ [y]) = (hasZ x l || decide (x < y)) := by simp [hasZ]
/-- as far as it has come -/
def nextZ (e : Int) (l : List Int) : List Int := bif hasZ e l then insZ e l else l
theorem nextZ_len (e : Int) (l : List Int) : (nextZ e l).length ≤ l.length + 1 := by
  unfold nextZ
  cases hasZ e l
  · simp
  · simp [insZ_length]
theorem nextZ_has {e y : Int} {l : List Int} (h : hasZ e l = true) : nextZ e (l ++ [y]) = nextZ e l ++ [y] ∧ hasZ e (l ++ [y]) = true := by
  have h2 : hasZ e (l ++ [y]) = true := by rw [hasZ_snoc, h]; rfl
  unfold nextZ
  rw [h, h2, cond_true, cond_true, insZ_snoc_has h]
  exact ⟨rfl, rfl⟩
theorem nextZ_lt {e y : Int} {l : List Int} (h : hasZ e l = false) (hy : decide (e < y) = true) : nextZ e (l ++ [y]) = nextZ e l ++ [e] ++ [y] ∧ hasZ e (l ++ [y]) = true := by
  have h2 : hasZ e (l ++ [y]) = true := by rw [hasZ_snoc, h, hy]; rfl
  unfold nextZ
  rw [h, h2, cond_true, cond_false, insZ_snoc_lt hy, insZ_no h]
  exact ⟨rfl, rfl⟩
theorem nextZ_no {e y : Int} {l : List Int} (h : hasZ e l = false) (hy : decide (e < y) = false) : nextZ e (l ++ [y]) = nextZ e l ++ [y] ∧ hasZ e (l ++ [y]) = false := by
  have h2 : hasZ e (l ++ [y]) = false := by rw [hasZ_snoc, h, hy]; rfl
  unfold nextZ
  rw [h, h2, cond_false, cond_false]
  exact ⟨rfl, rfl⟩
theorem nextZ_end {e : Int} {l : List Int} : (hasZ e l = true → nextZ e l = insZ e l) ∧ (hasZ e l = false → nextZ e l ++ [e] = insZ e l) := by
  unfold nextZ
  constructor
  · intro h; rw [h, cond_true]
  · intro h; rw [h, cond_false, insZ_no h]
theorem room8 (l : List Int) (h : l.length ≤ 1001) : roomy (l.length + 1) 8 = true := decide_eq_true (by omega)
theorem room16 (l : List RThing) (h : l.length ≤ 1001) : roomy (l.length + 1) 16 = true := decide_eq_true (by omega)
theorem take_snoc {α : Type} {l : List α} {k : Nat} (h : k < l.length) : l.take (k + 1) = l.take k ++ [l[k]] := (List.take_append_getElem h).symm
def idsR (R : List RThing) : List Int := srtZ (R.map (·.ID))
theorem idsR_snoc {R : List RThing} {x : Nat} (h : x < R.length) : idsR (R.take (x + 1)) = insZ R[x].ID (idsR (R.take x)) := by
  rw [take_snoc h]
  unfold idsR
  rw [List.map_append, List.map_cons, List.map_nil, srtZ_snoc]
def sameZ (A B : List Int) : Bool := decide (A = B)

/-! ### (*regatta/heap.Heap[int]).IDs -/
def idsHText (L : List Thing) (M : List (Int × Int)) : Prop := (match (decide ((36 : FuncId) = (36 : FuncId)) && decide ((52 : TypeId) = (52 : TypeId)) && keysOk M) with | true => ((True ∧ True) ∧ ((True ∧ (True ∧ (True ∧ True))) ∧ ((L = L) ∧ ((M = M) ∧ ((keysS M = keysS M) ∧ True))))) | false => False)
theorem idsHVc (L : List Thing) (M : List (Int × Int)) : fnX X8 (noAnn) Try.f23 [.ptr 0 0] [.cells [.fn 10 [], .own 1, .own 2] 54, .vec 2 L 57, .map 0 M] (ends [.cells [.fn 10 [], .own 1, .own 2] 54, .vec 2 L 57, .map 0 M] ⟨some (.own 3), [(1, some (.vec 2 (L) 57)), (2, some (.map 0 (M))), (3, some (.vec 0 (keysS M) 3))]⟩) = idsHText L M := by kernel_rfl
theorem idsHHolds (L : List Thing) (M : List (Int × Int)) (hp : keysOk M = true) : idsHText L M := by
  unfold idsHText
  simp only [hp, decide_true, Bool.and_self]
  repeat' first | trivial | rfl | apply And.intro
noncomputable def idsHCon : Con T O := fun args cs => match args, cs with
  | [.ptr 0 0], [.cells [.fn 10 [], .own 1, .own 2] 54, .vec 2 L 57, .map 0 M] => chk (decide (keysOk M = true)) (.ret ⟨some (.own 3), [(1, some (.vec 2 (L) 57)), (2, some (.map 0 (M))), (3, some (.vec 0 (keysS M) 3))]⟩)
  | _, _ => .fail
theorem idsHOk : ConOk R Try.prog 23 idsHCon := con_of_fn R (X8) (TabOk.con R X8Ok) mixed Try.call23 Try.func23 idsHCon (by
  intro args cs K h
  unfold idsHCon at h
  split at h
  · rename_i L M
    rw [Tree.holds_chk] at h
    obtain ⟨hp, h⟩ := h
    refine ⟨noAnn, _, fun v S hv => ⟨_, h, hv⟩, ?_⟩
    rw [idsHVc L M]
    exact idsHHolds L M (of_decide_eq_true hp)
  · exact h.elim)
/-! ### (*regatta/regattaref07.Heap).At -/
def atCText (R : List RThing) (id : Int) : Prop := ((∃ x : Nat, (((x ≤ R.length) ∧ (atR R id = firstI (isID id) (List.drop x R) (↑x : Int))) ∧ ((True ∧ ((id = id) ∧ (((↑x : Int) = (0 : Int)) ∧ True))) ∧ ((True ∧ True) ∧ ((R = R) ∧ True))))) ∧ (∀ x : Nat, (((x ≤ R.length) ∧ (atR R id = firstI (isID id) (List.drop x R) (↑x : Int))) → (match (decide ((↑x : Int) < (↑R.length : Int))) with | true => (match (inb (↑x : Int) R.length) with | true => (match (inb (↑x : Int) R.length) with | true => (match ((at' rThingE.zero R (↑x : Int)).ID == id) with | true => (((atR R id = (↑x : Int)) ∧ True) ∧ ((True ∧ True) ∧ ((R = R) ∧ True))) | false => (∃ x' : Nat, (((x' ≤ R.length) ∧ (atR R id = firstI (isID id) (List.drop x' R) (↑x' : Int))) ∧ ((R.length - x' < R.length - x) ∧ ((True ∧ ((id = id) ∧ (((↑x' : Int) = IntKind.i64.wrap ((↑x : Int) + (1 : Int))) ∧ True))) ∧ ((True ∧ True) ∧ ((R = R) ∧ True))))))) | false => False) | false => False) | false => (((atR R id = (-1 : Int)) ∧ True) ∧ ((True ∧ True) ∧ ((R = R) ∧ True)))))))
theorem atCVc (R : List RThing) (id : Int) : fnX X8 (oneLoop 2 { σ := Nat, st := fun S x => (S.keep [0, 1]).int 5 x, inv := fun _ x => x ≤ R.length ∧ atR R id = firstI (isID id) (R.drop x) x, m := fun x => R.length - x }) Try.f19 [.ptr 0 0, .raw (.int .i64 id)] [.cells [.own 1] 41, .vec 3 R 45] (ends [.cells [.own 1] 41, .vec 3 R 45] ⟨some (.raw (.int .i64 (atR R id))), [(1, some (.vec 3 R 45))]⟩) = atCText R id := by kernel_rfl
theorem atCHolds (R : List RThing) (id : Int) (hp : R.length ≤ 1000) : atCText R id := by
  unfold atCText
  refine ⟨⟨0, ⟨by omega, rfl⟩, by repeat' first | trivial | rfl | apply And.intro⟩, ?_⟩
  rintro x ⟨hx, hs⟩
  by_cases h : x < R.length
  · have hwx := wrap_succ h (show R.length ≤ 140737488355328 by omega)
    rw [dec_lt h, inb_nat h, at_nat h]
    rw [drop_at h] at hs
    simp only [firstI] at hs
    cases hp : R[x].ID == id
    · rw [show isID id R[x] = false from hp, cond_false] at hs
      refine ⟨x + 1, ⟨h, by simpa using hs⟩, by omega, ?_⟩
      repeat' first | exact hwx.symm | trivial | rfl | apply And.intro
    · rw [show isID id R[x] = true from hp, cond_true] at hs
      repeat' first | exact hs | trivial | rfl | apply And.intro
  · rw [dec_ge (by omega)]
    rw [List.drop_of_length_le (by omega)] at hs
    repeat' first | exact hs | trivial | rfl | apply And.intro
noncomputable def atCCon : Con T O := fun args cs => match args, cs with
  | [.ptr 0 0, .raw (.int .i64 id)], [.cells [.own 1] 41, .vec 3 R 45] => chk (decide (R.length ≤ 1000)) (.ret ⟨some (.raw (.int .i64 (atR R id))), [(1, some (.vec 3 R 45))]⟩)
  | _, _ => .fail
theorem atCOk : ConOk R Try.prog 19 atCCon := con_of_fn R (X8) (TabOk.con R X8Ok) mixed Try.call19 Try.func19 atCCon (by
  intro args cs K h
  unfold atCCon at h
  split at h
  · rename_i id R
    rw [Tree.holds_chk] at h
    obtain ⟨hp, h⟩ := h
    refine ⟨oneLoop 2 { σ := Nat, st := fun S x => (S.keep [0, 1]).int 5 x, inv := fun _ x => x ≤ R.length ∧ atR R id = firstI (isID id) (R.drop x) x, m := fun x => R.length - x }, _, fun v S hv => ⟨_, h, hv⟩, ?_⟩
    rw [atCVc R id]
    exact atCHolds R id (of_decide_eq_true hp)
  · exact h.elim)
/-! ### regatta/regattaref07.Same -/
def sameIText (A B : List Int) : Prop := (match ((↑A.length : Int) != (↑B.length : Int)) with | true => (((sameZ A B = false) ∧ True) ∧ ((A = A) ∧ ((B = B) ∧ True))) | false => ((∃ x : Nat, (((x ≤ A.length) ∧ (List.take x A = List.take x B)) ∧ ((True ∧ (True ∧ (((↑x : Int) = (0 : Int)) ∧ True))) ∧ ((A = A) ∧ ((B = B) ∧ True))))) ∧ (∀ x : Nat, (((x ≤ A.length) ∧ (List.take x A = List.take x B)) → (match (decide ((↑x : Int) < (↑A.length : Int))) with | true => (match (inb (↑x : Int) A.length) with | true => (match (inb (↑x : Int) A.length) with | true => (match (inb (↑x : Int) B.length) with | true => (match (inb (↑x : Int) B.length) with | true => (match (at' (0 : Int) A (↑x : Int) != at' (0 : Int) B (↑x : Int)) with | true => (((sameZ A B = false) ∧ True) ∧ ((A = A) ∧ ((B = B) ∧ True))) | false => (∃ x' : Nat, (((x' ≤ A.length) ∧ (List.take x' A = List.take x' B)) ∧ ((A.length - x' < A.length - x) ∧ ((True ∧ (True ∧ (((↑x' : Int) = IntKind.i64.wrap ((↑x : Int) + (1 : Int))) ∧ True))) ∧ ((A = A) ∧ ((B = B) ∧ True))))))) | false => False) | false => False) | false => False) | false => False) | false => (((sameZ A B = true) ∧ True) ∧ ((A = A) ∧ ((B = B) ∧ True))))))))
theorem sameIVc (A B : List Int) : fnX X8 (oneLoop 4 { σ := Nat, st := fun S x => (S.keep [0, 1]).int 5 x, inv := fun _ x => x ≤ A.length ∧ A.take x = B.take x, m := fun x => A.length - x }) Try.f22 [.own 0, .own 1] [.vec 0 A 3, .vec 0 B 3] (ends [.vec 0 A 3, .vec 0 B 3] ⟨some (.raw (.bool (sameZ A B))), [(0, some (.vec 0 A 3)), (1, some (.vec 0 B 3))]⟩) = sameIText A B := by kernel_rfl
theorem sameIHolds (A B : List Int) (hp : A.length ≤ 1000) : sameIText A B := by
  unfold sameIText
  by_cases hl : A.length = B.length
  · rw [show ((A.length : Int) != (B.length : Int)) = false by simp [hl]]
    refine ⟨⟨0, ⟨Nat.zero_le _, rfl⟩, by repeat' first | trivial | rfl | apply And.intro⟩, ?_⟩
    rintro x ⟨hx, hs⟩
    by_cases h : x < A.length
    · have hB : x < B.length := by omega
      have hwx := wrap_succ h (show A.length ≤ 140737488355328 by omega)
      rw [dec_lt h, inb_nat h, inb_nat hB, at_nat h, at_nat hB]
      by_cases he : A[x] = B[x]
      · rw [show (A[x] != B[x]) = false by rw [he]; simp]
        refine ⟨x + 1, ⟨h, ?_⟩, by omega, ?_⟩
        · rw [take_snoc h, take_snoc hB, hs, he]
        · repeat' first | exact hwx.symm | trivial | rfl | apply And.intro
      · rw [show (A[x] != B[x]) = true from bne_iff_ne.2 he]
        have hne : A ≠ B := fun e => he (by subst e; rfl)
        exact ⟨⟨decide_eq_false hne, trivial⟩, rfl, rfl, trivial⟩
    · rw [dec_ge (by omega)]
      have he : A = B := by
        have e1 : A.take x = A := List.take_of_length_le (by omega)
        have e2 : B.take x = B := List.take_of_length_le (by omega)
        rw [← e1, ← e2, hs]
      exact ⟨⟨decide_eq_true he, trivial⟩, rfl, rfl, trivial⟩
  · rw [show ((A.length : Int) != (B.length : Int)) = true by rw [bne_iff_ne]; omega]
    have hne : A ≠ B := fun e => hl (by rw [e])
    exact ⟨⟨decide_eq_false hne, trivial⟩, rfl, rfl, trivial⟩
noncomputable def sameICon : Con T O := fun args cs => match args, cs with
  | [.own 0, .own 1], [.vec 0 A 3, .vec 0 B 3] => chk (decide (A.length ≤ 1000)) (.ret ⟨some (.raw (.bool (sameZ A B))), [(0, some (.vec 0 A 3)), (1, some (.vec 0 B 3))]⟩)
  | _, _ => .fail
theorem sameIOk : ConOk R Try.prog 22 sameICon := con_of_fn R (X8) (TabOk.con R X8Ok) mixed Try.call22 Try.func22 sameICon (by
  intro args cs K h
  unfold sameICon at h
  split at h
  · rename_i A B
    rw [Tree.holds_chk] at h
    obtain ⟨hp, h⟩ := h
    refine ⟨oneLoop 4 { σ := Nat, st := fun S x => (S.keep [0, 1]).int 5 x, inv := fun _ x => x ≤ A.length ∧ A.take x = B.take x, m := fun x => A.length - x }, _, fun v S hv => ⟨_, h, hv⟩, ?_⟩
    rw [sameIVc A B]
    exact sameIHolds A B (of_decide_eq_true hp)
  · exact h.elim)
/-! ### (*regatta/regattaref07.Heap).take -/
def takeRText (R : List RThing) (k : Int) : Prop := ((∃ x : Nat, ((x.le R.length) ∧ ((True ∧ ((k = k) ∧ (True ∧ (((↑x : Int) = (0 : Int)) ∧ True)))) ∧ ((True ∧ True) ∧ ((R = R) ∧ ((outN R k.toNat x = []) ∧ True)))))) ∧ (∀ x : Nat, ((x.le R.length) → (match (decide ((↑x : Int) < (↑R.length : Int))) with | true => (match ((↑x : Int) != k) with | true => (match (inb (↑x : Int) R.length) with | true => (match (inb (↑x : Int) R.length) with | true => (match (roomy ((outN R k.toNat x).length + (1 : Nat)) (nat_lit 16)) with | true => (∃ x' : Nat, ((x'.le R.length) ∧ ((R.length - x' < R.length - x) ∧ ((True ∧ ((k = k) ∧ (True ∧ (((↑x' : Int) = IntKind.i64.wrap ((↑x : Int) + (1 : Int))) ∧ True)))) ∧ ((True ∧ True) ∧ ((R = R) ∧ ((outN R k.toNat x' = outN R k.toNat x ++ [at' rThingE.zero R (↑x : Int)]) ∧ True))))))) | false => False) | false => False) | false => False) | false => (∃ x' : Nat, ((x'.le R.length) ∧ ((R.length - x' < R.length - x) ∧ ((True ∧ ((k = k) ∧ (True ∧ (((↑x' : Int) = IntKind.i64.wrap ((↑x : Int) + (1 : Int))) ∧ True)))) ∧ ((True ∧ True) ∧ ((R = R) ∧ ((outN R k.toNat x' = outN R k.toNat x) ∧ True)))))))) | false => ((True ∧ True) ∧ ((True ∧ True) ∧ ((R.eraseIdx k.toNat = outN R k.toNat x) ∧ True)))))))
theorem takeRVc (R : List RThing) (k : Int) : fnX X8 (oneLoop 2 { σ := Nat, st := fun S x => ((S.keep [0, 1]).int 5 x).new 4 (.vec 3 (outN R k.toNat x) 45), inv := fun _ x => x ≤ R.length, m := fun x => R.length - x }) Try.f28 [.ptr 0 0, .raw (.int .i64 k)] [.cells [.own 1] 41, .vec 3 R 45] (ends [.cells [.own 1] 41, .vec 3 R 45] ⟨some (.tup []), [(0, some (.cells [.own 2] 41)), (1, none), (2, some (.vec 3 (R.eraseIdx k.toNat) 45))]⟩) = takeRText R k := by kernel_rfl
theorem takeRHolds (R : List RThing) (k : Int) (hp : R.length ≤ 1000 ∧ 0 ≤ k ∧ k < R.length) : takeRText R k := by
  unfold takeRText
  obtain ⟨hp, k0, k1⟩ := hp
  obtain ⟨n, rfl⟩ := Int.eq_ofNat_of_zero_le k0
  rw [Int.toNat_natCast]
  refine ⟨⟨0, Nat.zero_le _, by repeat' first | trivial | rfl | apply And.intro⟩, ?_⟩
  rintro x hx
  by_cases h : x < R.length
  · have hwx := wrap_succ h (show R.length ≤ 140737488355328 by omega)
    have hst := outN_step (k := n) h
    have hol := outN_len R n x
    rw [dec_lt h, inb_nat h, at_nat h, room16 _ (by omega : (outN R n x).length ≤ 1001)]
    by_cases e : x = n
    · rw [show ((x : Int) != (n : Int)) = false by rw [e]; simp]
      rw [show (x == n) = true by simpa using e, cond_true] at hst
      refine ⟨x + 1, h, by omega, ?_⟩
      repeat' first | exact hwx.symm | exact hst | trivial | rfl | apply And.intro
    · rw [show ((x : Int) != (n : Int)) = true by rw [bne_iff_ne]; omega]
      rw [show (x == n) = false by simpa using e, cond_false] at hst
      refine ⟨x + 1, h, by omega, ?_⟩
      repeat' first | exact hwx.symm | exact hst | trivial | rfl | apply And.intro
  · obtain rfl : x = R.length := Nat.le_antisymm hx (by omega)
    rw [dec_ge (Nat.le_refl _), outN_all]
    repeat' first | trivial | rfl | apply And.intro
noncomputable def takeRCon : Con T O := fun args cs => match args, cs with
  | [.ptr 0 0, .raw (.int .i64 k)], [.cells [.own 1] 41, .vec 3 R 45] => chk (decide (R.length ≤ 1000 ∧ 0 ≤ k ∧ k < R.length)) (.ret ⟨some (.tup []), [(0, some (.cells [.own 2] 41)), (1, none), (2, some (.vec 3 (R.eraseIdx k.toNat) 45))]⟩)
  | _, _ => .fail
theorem takeROk : ConOk R Try.prog 28 takeRCon := con_of_fn R (X8) (TabOk.con R X8Ok) mixed Try.call28 Try.func28 takeRCon (by
  intro args cs K h
  unfold takeRCon at h
  split at h
  · rename_i k R
    rw [Tree.holds_chk] at h
    obtain ⟨hp, h⟩ := h
    refine ⟨oneLoop 2 { σ := Nat, st := fun S x => ((S.keep [0, 1]).int 5 x).new 4 (.vec 3 (outN R k.toNat x) 45), inv := fun _ x => x ≤ R.length, m := fun x => R.length - x }, _, fun v S hv => ⟨_, h, hv⟩, ?_⟩
    rw [takeRVc R k]
    exact takeRHolds R k (of_decide_eq_true hp)
  · exact h.elim)
/-! ### (*regatta/regattaref07.Heap).Min -/
def minRText (R : List RThing) : Prop := ((∃ x : Nat, ((x.le R.length) ∧ ((True ∧ ((minN R x = (-1 : Int)) ∧ (((↑x : Int) = (0 : Int)) ∧ True))) ∧ ((True ∧ True) ∧ ((R = R) ∧ True))))) ∧ (∀ x : Nat, ((x.le R.length) → (match (decide ((↑x : Int) < (↑R.length : Int))) with | true => (match (decide (minN R x < (0 : Int))) with | true => (∃ x' : Nat, ((x'.le R.length) ∧ ((R.length - x' < R.length - x) ∧ ((True ∧ ((minN R x' = (↑x : Int)) ∧ (((↑x' : Int) = IntKind.i64.wrap ((↑x : Int) + (1 : Int))) ∧ True))) ∧ ((True ∧ True) ∧ ((R = R) ∧ True)))))) | false => (match (inb (↑x : Int) R.length) with | true => (match (inb (↑x : Int) R.length) with | true => (match (inb (minN R x) R.length) with | true => (match (inb (minN R x) R.length) with | true => (match (ref07Less (at' rThingE.zero R (↑x : Int)).X (at' rThingE.zero R (minN R x)).X) with | true => (∃ x' : Nat, ((x'.le R.length) ∧ ((R.length - x' < R.length - x) ∧ ((True ∧ ((minN R x' = (↑x : Int)) ∧ (((↑x' : Int) = IntKind.i64.wrap ((↑x : Int) + (1 : Int))) ∧ True))) ∧ ((True ∧ True) ∧ ((R = R) ∧ True)))))) | false => (match (!ref07Less (at' rThingE.zero R (minN R x)).X (at' rThingE.zero R (↑x : Int)).X) with | true => (match (decide ((at' rThingE.zero R (↑x : Int)).ID < (at' rThingE.zero R (minN R x)).ID)) with | true => (∃ x' : Nat, ((x'.le R.length) ∧ ((R.length - x' < R.length - x) ∧ ((True ∧ ((minN R x' = (↑x : Int)) ∧ (((↑x' : Int) = IntKind.i64.wrap ((↑x : Int) + (1 : Int))) ∧ True))) ∧ ((True ∧ True) ∧ ((R = R) ∧ True)))))) | false => (∃ x' : Nat, ((x'.le R.length) ∧ ((R.length - x' < R.length - x) ∧ ((True ∧ ((minN R x' = minN R x) ∧ (((↑x' : Int) = IntKind.i64.wrap ((↑x : Int) + (1 : Int))) ∧ True))) ∧ ((True ∧ True) ∧ ((R = R) ∧ True))))))) | false => (∃ x' : Nat, ((x'.le R.length) ∧ ((R.length - x' < R.length - x) ∧ ((True ∧ ((minN R x' = minN R x) ∧ (((↑x' : Int) = IntKind.i64.wrap ((↑x : Int) + (1 : Int))) ∧ True))) ∧ ((True ∧ True) ∧ ((R = R) ∧ True)))))))) | false => False) | false => False) | false => False) | false => False)) | false => (((minN R R.length = minN R x) ∧ True) ∧ ((True ∧ True) ∧ ((R = R) ∧ True)))))))
theorem minRVc (R : List RThing) : fnX X8 (oneLoop 3 { σ := Nat, st := fun S x => ((S.keep [0]).int 4 x).int 3 (minN R x), inv := fun _ x => x ≤ R.length, m := fun x => R.length - x }) Try.f20 [.ptr 0 0] [.cells [.own 1] 41, .vec 3 R 45] (ends [.cells [.own 1] 41, .vec 3 R 45] ⟨some (.raw (.int .i64 (minN R R.length))), [(1, some (.vec 3 R 45))]⟩) = minRText R := by kernel_rfl
theorem minRHolds (R : List RThing) (hp : R.length ≤ 1000) : minRText R := by
  unfold minRText
  refine ⟨⟨0, Nat.zero_le _, by repeat' first | trivial | rfl | apply And.intro⟩, ?_⟩
  rintro x hx
  by_cases h : x < R.length
  · have hwx := wrap_succ h (show R.length ≤ 140737488355328 by omega)
    rw [dec_lt h]
    rcases minN_range R x with ⟨e, rfl⟩ | ⟨j, hj, e⟩
    · rw [e, show decide ((-1 : Int) < 0) = true from rfl]
      refine ⟨1, h, by omega, ?_⟩
      repeat' first | exact hwx.symm | trivial | rfl | apply And.intro
    · have hst : minN R (x + 1) = bif aheadB (th (at' rz R (x : Int))) (th (at' rz R (j : Int))) then (x : Int) else (j : Int) := by
        rw [minN, e, show decide ((j : Int) < 0) = false from decide_eq_false (by omega), cond_false]
      rw [e, show decide ((j : Int) < 0) = false from decide_eq_false (by omega), inb_nat h, inb_nat (show j < R.length by omega)]
      unfold aheadB th at hst
      dsimp only at hst ⊢
      cases c1 : ref07Less (at' rThingE.zero R (x : Int)).X (at' rThingE.zero R (j : Int)).X
      · rw [c1] at hst
        cases c2 : ref07Less (at' rThingE.zero R (j : Int)).X (at' rThingE.zero R (x : Int)).X
        · rw [c2] at hst
          cases c3 : decide ((at' rThingE.zero R (x : Int)).ID < (at' rThingE.zero R (j : Int)).ID)
          · rw [c3] at hst
            have hst : minN R (x + 1) = (j : Int) := hst
            refine ⟨x + 1, h, by omega, ?_⟩
            repeat' first | exact hwx.symm | exact hst | trivial | rfl | apply And.intro
          · rw [c3] at hst
            have hst : minN R (x + 1) = (x : Int) := hst
            refine ⟨x + 1, h, by omega, ?_⟩
            repeat' first | exact hwx.symm | exact hst | trivial | rfl | apply And.intro
        · rw [c2] at hst
          have hst : minN R (x + 1) = (j : Int) := hst
          refine ⟨x + 1, h, by omega, ?_⟩
          repeat' first | exact hwx.symm | exact hst | trivial | rfl | apply And.intro
      · rw [c1] at hst
        have hst : minN R (x + 1) = (x : Int) := hst
        refine ⟨x + 1, h, by omega, ?_⟩
        repeat' first | exact hwx.symm | exact hst | trivial | rfl | apply And.intro
  · obtain rfl : x = R.length := Nat.le_antisymm hx (by omega)
    rw [dec_ge (Nat.le_refl _)]
    repeat' first | trivial | rfl | apply And.intro
noncomputable def minRCon : Con T O := fun args cs => match args, cs with
  | [.ptr 0 0], [.cells [.own 1] 41, .vec 3 R 45] => chk (decide (R.length ≤ 1000)) (.ret ⟨some (.raw (.int .i64 (minN R R.length))), [(1, some (.vec 3 R 45))]⟩)
  | _, _ => .fail
theorem minROk : ConOk R Try.prog 20 minRCon := con_of_fn R (X8) (TabOk.con R X8Ok) mixed Try.call20 Try.func20 minRCon (by
  intro args cs K h
  unfold minRCon at h
  split at h
  · rename_i R
    rw [Tree.holds_chk] at h
    obtain ⟨hp, h⟩ := h
    refine ⟨oneLoop 3 { σ := Nat, st := fun S x => ((S.keep [0]).int 4 x).int 3 (minN R x), inv := fun _ x => x ≤ R.length, m := fun x => R.length - x }, _, fun v S hv => ⟨_, h, hv⟩, ?_⟩
    rw [minRVc R]
    exact minRHolds R (of_decide_eq_true hp)
  · exact h.elim)
/-! ### (*regatta/regattaref07.Heap).IDs -/
def idsCText (R : List RThing) : Prop := ((∃ x : Nat, ((x.le R.length) ∧ ((True ∧ (True ∧ (((↑x : Int) = (0 : Int)) ∧ True))) ∧ ((True ∧ True) ∧ ((R = R) ∧ ((idsR (List.take x R) = []) ∧ True)))))) ∧ (∀ x : Nat, ((x.le R.length) → (match (decide ((↑x : Int) < (↑R.length : Int))) with | true => ((∃ x1 : Nat, ((x1.le (idsR (List.take x R)).length) ∧ ((True ∧ (True ∧ (((↑x : Int) = (↑x : Int)) ∧ (True ∧ ((hasZ (at' rz R (↑x : Int)).ID (List.take x1 (idsR (List.take x R))) = false) ∧ (((↑x1 : Int) = (0 : Int)) ∧ True)))))) ∧ ((True ∧ True) ∧ ((R = R) ∧ ((idsR (List.take x R) = idsR (List.take x R)) ∧ ((nextZ (at' rz R (↑x : Int)).ID (List.take x1 (idsR (List.take x R))) = []) ∧ True))))))) ∧ (∀ x1 : Nat, ((x1.le (idsR (List.take x R)).length) → (match (decide ((↑x1 : Int) < (↑(idsR (List.take x R)).length : Int))) with | true => (match (!hasZ (at' rz R (↑x : Int)).ID (List.take x1 (idsR (List.take x R)))) with | true => (match (inb (↑x : Int) R.length) with | true => (match (inb (↑x : Int) R.length) with | true => (match (inb (↑x1 : Int) (idsR (List.take x R)).length) with | true => (match (inb (↑x1 : Int) (idsR (List.take x R)).length) with | true => (match (decide ((at' rThingE.zero R (↑x : Int)).ID < at' (0 : Int) (idsR (List.take x R)) (↑x1 : Int))) with | true => (match (inb (↑x : Int) R.length) with | true => (match (inb (↑x : Int) R.length) with | true => (match (roomy ((nextZ (at' rz R (↑x : Int)).ID (List.take x1 (idsR (List.take x R)))).length + (1 : Nat)) (nat_lit 8)) with | true => (match (inb (↑x1 : Int) (idsR (List.take x R)).length) with | true => (match (inb (↑x1 : Int) (idsR (List.take x R)).length) with | true => (match (roomy ((nextZ (at' rz R (↑x : Int)).ID (List.take x1 (idsR (List.take x R))) ++ [(at' rThingE.zero R (↑x : Int)).ID]).length + (1 : Nat)) (nat_lit 8)) with | true => (∃ x' : Nat, ((x'.le (idsR (List.take x R)).length) ∧ (((1000 : Nat) - x' < (1000 : Nat) - x1) ∧ ((True ∧ (True ∧ (((↑x : Int) = (↑x : Int)) ∧ (True ∧ ((hasZ (at' rz R (↑x : Int)).ID (List.take x' (idsR (List.take x R))) = true) ∧ (((↑x' : Int) = IntKind.i64.wrap ((↑x1 : Int) + (1 : Int))) ∧ True)))))) ∧ ((True ∧ True) ∧ ((R = R) ∧ ((idsR (List.take x R) = idsR (List.take x R)) ∧ ((nextZ (at' rz R (↑x : Int)).ID (List.take x' (idsR (List.take x R))) = nextZ (at' rz R (↑x : Int)).ID (List.take x1 (idsR (List.take x R))) ++ [(at' rThingE.zero R (↑x : Int)).ID] ++ [at' (0 : Int) (idsR (List.take x R)) (↑x1 : Int)]) ∧ True)))))))) | false => False) | false => False) | false => False) | false => False) | false => False) | false => False) | false => (match (inb (↑x1 : Int) (idsR (List.take x R)).length) with | true => (match (inb (↑x1 : Int) (idsR (List.take x R)).length) with | true => (match (roomy ((nextZ (at' rz R (↑x : Int)).ID (List.take x1 (idsR (List.take x R)))).length + (1 : Nat)) (nat_lit 8)) with | true => (∃ x' : Nat, ((x'.le (idsR (List.take x R)).length) ∧ (((1000 : Nat) - x' < (1000 : Nat) - x1) ∧ ((True ∧ (True ∧ (((↑x : Int) = (↑x : Int)) ∧ (True ∧ ((hasZ (at' rz R (↑x : Int)).ID (List.take x' (idsR (List.take x R))) = hasZ (at' rz R (↑x : Int)).ID (List.take x1 (idsR (List.take x R)))) ∧ (((↑x' : Int) = IntKind.i64.wrap ((↑x1 : Int) + (1 : Int))) ∧ True)))))) ∧ ((True ∧ True) ∧ ((R = R) ∧ ((idsR (List.take x R) = idsR (List.take x R)) ∧ ((nextZ (at' rz R (↑x : Int)).ID (List.take x' (idsR (List.take x R))) = nextZ (at' rz R (↑x : Int)).ID (List.take x1 (idsR (List.take x R))) ++ [at' (0 : Int) (idsR (List.take x R)) (↑x1 : Int)]) ∧ True)))))))) | false => False) | false => False) | false => False)) | false => False) | false => False) | false => False) | false => False) | false => (match (inb (↑x1 : Int) (idsR (List.take x R)).length) with | true => (match (inb (↑x1 : Int) (idsR (List.take x R)).length) with | true => (match (roomy ((nextZ (at' rz R (↑x : Int)).ID (List.take x1 (idsR (List.take x R)))).length + (1 : Nat)) (nat_lit 8)) with | true => (∃ x' : Nat, ((x'.le (idsR (List.take x R)).length) ∧ (((1000 : Nat) - x' < (1000 : Nat) - x1) ∧ ((True ∧ (True ∧ (((↑x : Int) = (↑x : Int)) ∧ (True ∧ ((hasZ (at' rz R (↑x : Int)).ID (List.take x' (idsR (List.take x R))) = hasZ (at' rz R (↑x : Int)).ID (List.take x1 (idsR (List.take x R)))) ∧ (((↑x' : Int) = IntKind.i64.wrap ((↑x1 : Int) + (1 : Int))) ∧ True)))))) ∧ ((True ∧ True) ∧ ((R = R) ∧ ((idsR (List.take x R) = idsR (List.take x R)) ∧ ((nextZ (at' rz R (↑x : Int)).ID (List.take x' (idsR (List.take x R))) = nextZ (at' rz R (↑x : Int)).ID (List.take x1 (idsR (List.take x R))) ++ [at' (0 : Int) (idsR (List.take x R)) (↑x1 : Int)]) ∧ True)))))))) | false => False) | false => False) | false => False)) | false => (match (!hasZ (at' rz R (↑x : Int)).ID (List.take x1 (idsR (List.take x R)))) with | true => (match (inb (↑x : Int) R.length) with | true => (match (inb (↑x : Int) R.length) with | true => (match (roomy ((nextZ (at' rz R (↑x : Int)).ID (List.take x1 (idsR (List.take x R)))).length + (1 : Nat)) (nat_lit 8)) with | true => (∃ x' : Nat, ((x'.le R.length) ∧ ((R.length - x' < R.length - x) ∧ ((True ∧ (True ∧ (((↑x' : Int) = IntKind.i64.wrap ((↑x : Int) + (1 : Int))) ∧ True))) ∧ ((True ∧ True) ∧ ((R = R) ∧ ((idsR (List.take x' R) = nextZ (at' rz R (↑x : Int)).ID (List.take x1 (idsR (List.take x R))) ++ [(at' rThingE.zero R (↑x : Int)).ID]) ∧ True))))))) | false => False) | false => False) | false => False) | false => (∃ x' : Nat, ((x'.le R.length) ∧ ((R.length - x' < R.length - x) ∧ ((True ∧ (True ∧ (((↑x' : Int) = IntKind.i64.wrap ((↑x : Int) + (1 : Int))) ∧ True))) ∧ ((True ∧ True) ∧ ((R = R) ∧ ((idsR (List.take x' R) = nextZ (at' rz R (↑x : Int)).ID (List.take x1 (idsR (List.take x R)))) ∧ True)))))))))))) | false => ((True ∧ True) ∧ ((True ∧ True) ∧ ((R = R) ∧ ((idsR R = idsR (List.take x R)) ∧ True))))))))
theorem idsCVc (R : List RThing) : fnX X8 (annOf [(3, { σ := Nat, st := fun S x => ((S.keep [0]).int 4 x).new 3 (.vec 0 (idsR (R.take x)) 3), inv := fun _ x => x ≤ R.length, m := fun x => R.length - x }), (8, { σ := Nat, st := fun S x => (((S.keep [0, 3, 4]).int 7 x).bool 6 (hasZ (at' rz R (S.gi 4)).ID ((S.gv 3 0).take x))).new 5 (.vec 0 (nextZ (at' rz R (S.gi 4)).ID ((S.gv 3 0).take x)) 3), inv := fun S x => x ≤ (S.gv 3 0).length, m := fun x => 1000 - x })] []) Try.f24 [.ptr 0 0] [.cells [.own 1] 41, .vec 3 R 45] (ends [.cells [.own 1] 41, .vec 3 R 45] ⟨some (.own 2), [(1, some (.vec 3 R 45)), (2, some (.vec 0 (idsR R) 3))]⟩) = idsCText R := by kernel_rfl
theorem idsCHolds (R : List RThing) (hp : R.length ≤ 1000) : idsCText R := by
  unfold idsCText
  refine ⟨⟨0, Nat.zero_le _, by repeat' first | trivial | rfl | apply And.intro⟩, ?_⟩
  rintro x hx
  by_cases h : x < R.length
  · have hwx := wrap_succ h (show R.length ≤ 140737488355328 by omega)
    rw [dec_lt h, inb_nat h]
    have hsn : idsR (R.take (x + 1)) = insZ (at' rz R (x : Int)).ID (idsR (R.take x)) := by
      rw [idsR_snoc h, at_nat h]
    have hSl : (idsR (R.take x)).length ≤ 1000 := by unfold idsR; rw [srtZ_length, List.length_map, List.length_take]; omega
    generalize idsR (R.take x) = S at hsn hSl ⊢
    generalize (at' rz R (x : Int)).ID = e at hsn ⊢
    refine ⟨⟨0, Nat.zero_le _, by repeat' first | trivial | rfl | apply And.intro⟩, ?_⟩
    rintro k hk
    by_cases g : k < S.length
    · have hwk := wrap_succ g (show S.length ≤ 140737488355328 by omega)
      have hT : (S.take k).length ≤ 999 := by rw [List.length_take]; omega
      have hn := nextZ_len e (S.take k)
      have ht := take_snoc g
      rw [dec_lt g, inb_nat g, show at' 0 S (k : Int) = S[k] from at_nat g]
      generalize S.take k = l at ht hT hn ⊢
      generalize S[k] = y at ht ⊢
      rw [room8 _ (by omega : (nextZ e l).length ≤ 1001)]
      rw [room8 _ (by simp; omega : (nextZ e l ++ [e]).length ≤ 1001)]
      cases hh : hasZ e l
      · cases hy : decide (e < y)
        · obtain ⟨n1, n2⟩ := nextZ_no hh hy
          refine ⟨k + 1, g, by omega, ?_⟩
          rw [ht, n1, n2]
          repeat' first | exact hwk.symm | trivial | rfl | apply And.intro
        · obtain ⟨n1, n2⟩ := nextZ_lt hh hy
          refine ⟨k + 1, g, by omega, ?_⟩
          rw [ht, n1, n2]
          repeat' first | exact hwk.symm | trivial | rfl | apply And.intro
      · obtain ⟨n1, n2⟩ := nextZ_has (y := y) hh
        refine ⟨k + 1, g, by omega, ?_⟩
        rw [ht, n1, n2]
        repeat' first | exact hwk.symm | trivial | rfl | apply And.intro
    · rw [dec_ge (by omega)]
      rw [List.take_of_length_le (by omega)]
      obtain ⟨n1, n2⟩ := @nextZ_end e S
      have hn := nextZ_len e S
      rw [room8 _ (by omega : (nextZ e S).length ≤ 1001)]
      cases hh : hasZ e S
      · refine ⟨x + 1, h, by omega, ?_⟩
        rw [hsn, ← n2 hh]
        repeat' first | exact hwx.symm | trivial | rfl | apply And.intro
      · refine ⟨x + 1, h, by omega, ?_⟩
        rw [hsn, ← n1 hh]
        repeat' first | exact hwx.symm | trivial | rfl | apply And.intro
  · rw [dec_ge (by omega)]
    rw [List.take_of_length_le (by omega)]
    repeat' first | trivial | rfl | apply And.intro
noncomputable def idsCCon : Con T O := fun args cs => match args, cs with
  | [.ptr 0 0], [.cells [.own 1] 41, .vec 3 R 45] => chk (decide (R.length ≤ 1000)) (.ret ⟨some (.own 2), [(1, some (.vec 3 R 45)), (2, some (.vec 0 (idsR R) 3))]⟩)
  | _, _ => .fail
theorem idsCOk : ConOk R Try.prog 24 idsCCon := con_of_fn R (X8) (TabOk.con R X8Ok) mixed Try.call24 Try.func24 idsCCon (by
  intro args cs K h
  unfold idsCCon at h
  split at h
  · rename_i R
    rw [Tree.holds_chk] at h
    obtain ⟨hp, h⟩ := h
    refine ⟨annOf [(3, { σ := Nat, st := fun S x => ((S.keep [0]).int 4 x).new 3 (.vec 0 (idsR (R.take x)) 3), inv := fun _ x => x ≤ R.length, m := fun x => R.length - x }), (8, { σ := Nat, st := fun S x => (((S.keep [0, 3, 4]).int 7 x).bool 6 (hasZ (at' rz R (S.gi 4)).ID ((S.gv 3 0).take x))).new 5 (.vec 0 (nextZ (at' rz R (S.gi 4)).ID ((S.gv 3 0).take x)) 3), inv := fun S x => x ≤ (S.gv 3 0).length, m := fun x => 1000 - x })] [], _, fun v S hv => ⟨_, h, hv⟩, ?_⟩
    rw [idsCVc R]
    exact idsCHolds R (of_decide_eq_true hp)
  · exact h.elim)
noncomputable def tab9 : Tab T O := (23, idsHCon) :: (19, atCCon) :: (22, sameICon) :: (28, takeRCon) :: (20, minRCon) :: (24, idsCCon) :: tab8
theorem tabOk9 : TabOk R Try.prog tab9 := TabOk.cons R idsHOk <| TabOk.cons R atCOk <| TabOk.cons R sameIOk <| TabOk.cons R takeROk <| TabOk.cons R minROk <| TabOk.cons R idsCOk <| tabOk8
noncomputable def X9 : Ctx T O := { X0 with con := conOf tab9 }
theorem X9Ok : TabOk R X9.P tab9 := tabOk9
end Go.Proofs.Ytdnndahaeammcaa
