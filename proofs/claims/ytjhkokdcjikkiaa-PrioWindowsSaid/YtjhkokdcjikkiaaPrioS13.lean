/-
  Part of a proof over the seat Ytjhkokdcjikkiaa: printed by a small program or typed by hand.
-/
import Derived.Test.YtjhkokdcjikkiaaPrioS12
import Derived.KernelRfl
namespace Go.Proofs.Ytjhkokdcjikkiaa
open Go.Sx Go.Proofs Classical

/-- put in ahead of the first one that it goes ahead of -/
def insL (x : Ent) : List Ent → List Ent
  | [] => [x]
  | y :: l => bif prioLess x y then x :: y :: l else y :: insL x l
def hasL (x : Ent) (l : List Ent) : Bool := l.any (prioLess x)
def srt (L : List Ent) : List Ent := L.foldl (fun acc x => insL x acc) []
theorem insL_length (x : Ent) : ∀ l : List Ent, (insL x l).length = l.length + 1
  | [] => rfl
  | y :: l => by
    simp only [insL]
    cases prioLess x y
    · simp [insL_length x l]
    · simp
theorem srt_snoc (L : List Ent) (x : Ent) : srt (L ++ [x]) = insL x (srt L) := by simp [srt]
theorem srt_length (L : List Ent) : (srt L).length = L.length := by
  have : ∀ (L acc : List Ent), (L.foldl (fun acc x => insL x acc) acc).length = acc.length + L.length := by
    intro L
    induction L with
    | nil => intro acc; simp
    | cons a L ih => intro acc; simp only [List.foldl_cons, ih, insL_length, List.length_cons]; omega
  simpa [srt] using this L []
theorem insL_no {x : Ent} : ∀ {l : List Ent}, hasL x l = false → insL x l = l ++ [x]
  | [], _ => rfl
  | y :: l, h => by
    simp only [hasL, List.any_cons, Bool.or_eq_false_iff] at h
    simp only [insL, h.1, cond_false, insL_no (l := l) h.2, List.cons_append]
theorem insL_snoc_has {x y : Ent} : ∀ {l : List Ent}, hasL x l = true → insL x (l ++ [y]) = insL x l ++ [y]
  | [], h => by simp [hasL] at h
  | z :: l, h => by
    simp only [hasL, List.any_cons, Bool.or_eq_true] at h
    simp only [insL, List.cons_append]
    cases hz : prioLess x z
    · rw [hz] at h
      simp only [Bool.false_eq_true, false_or] at h
      simp only [cond_false, insL_snoc_has (l := l) h, List.cons_append]
    · simp
theorem insL_snoc_lt {x y : Ent} (h : prioLess x y = true) : ∀ l : List Ent, insL x (l ++ [y]) = insL x l ++ [y]
  | [] => by simp [insL, h]
  | z :: l => by
    simp only [insL, List.cons_append]
    cases prioLess x z
    · simp only [cond_false, insL_snoc_lt h l, List.cons_append]
    · simp
theorem hasL_snoc (x y : Ent) (l : List Ent) : hasL x (l ++ [y]) = (hasL x l || prioLess x y) := by simp [hasL]

/-! ### the two sorts are one -/
def Sorted (l : List Ent) : Prop := l.Pairwise (fun a b => ¬ lt6 b a)
theorem insL_sorted {x : Ent} : ∀ {l : List Ent}, Sorted l → Sorted (insL x l)
  | [], _ => by simp [insL, Sorted]
  | y :: l, h => by
    obtain ⟨h1, h2⟩ := List.pairwise_cons.1 h
    simp only [insL]
    cases hp : prioLess x y
    · rw [cond_false]
      have hxy : ¬ lt6 x y := fun e => by rw [(less_iff x y).2 e] at hp; cases hp
      refine List.pairwise_cons.2 ⟨?_, insL_sorted h2⟩
      have mem : ∀ (l : List Ent) b, b ∈ insL x l → b = x ∨ b ∈ l := by
        intro l
        induction l with
        | nil => intro b hb; simpa [insL] using hb
        | cons z l ih =>
          intro b hb
          simp only [insL] at hb
          cases hz : prioLess x z
          · rw [hz, cond_false] at hb
            rcases List.mem_cons.1 hb with rfl | hb
            · simp
            · rcases ih b hb with e | e
              · exact .inl e
              · exact .inr (List.mem_cons_of_mem _ e)
          · rw [hz, cond_true] at hb
            simpa using hb
      intro b hb
      rcases mem l b hb with rfl | hb
      · exact hxy
      · exact h1 b hb
    · rw [cond_true]
      have hxy : lt6 x y := (less_iff x y).1 hp
      refine List.pairwise_cons.2 ⟨?_, h⟩
      intro b hb
      rcases List.mem_cons.1 hb with rfl | hb
      · exact lt6_asymm hxy
      · exact lt6_neg (lt6_asymm hxy) (h1 b hb)
theorem srt_sorted (L : List Ent) : Sorted (srt L) := by
  have : ∀ (L acc : List Ent), Sorted acc → Sorted (L.foldl (fun acc x => insL x acc) acc) := by
    intro L
    induction L with
    | nil => intro acc h; exact h
    | cons a L ih => intro acc h; exact ih _ (insL_sorted h)
  exact this L [] List.Pairwise.nil
theorem at_mid (A : List Ent) (x : Ent) (B : List Ent) : at' ez (A ++ x :: B) (A.length : Int) = x := by
  simp [at', List.getD_eq_getElem?_getD]
theorem insI_ins (x : Ent) : ∀ (A : List Ent) (B : List Ent) (n : Nat), A.length = n → Sorted A → insI (A ++ x :: B) n = insL x A ++ B := by
  intro A B n
  induction n generalizing A B with
  | zero =>
    intro hn _
    obtain rfl := List.eq_nil_of_length_eq_zero hn
    rfl
  | succ n ih =>
    intro hn hs
    obtain ⟨A', y, rfl⟩ : ∃ A' y, A = A' ++ [y] := by
      have hne : A ≠ [] := by intro e; rw [e] at hn; cases hn
      exact ⟨A.dropLast, A.getLast hne, (List.dropLast_concat_getLast hne).symm⟩
    simp only [List.length_append, List.length_cons, List.length_nil] at hn
    have hl : A'.length = n := by omega
    simp only [insI]
    have e1 : at' ez (A' ++ [y] ++ x :: B) ((n + 1 : Nat) : Int) = x := by
      have := at_mid (A' ++ [y]) x B
      rwa [show (A' ++ [y]).length = n + 1 by simp [hl]] at this
    have e2 : at' ez (A' ++ [y] ++ x :: B) (n : Int) = y := by
      have := at_mid A' y (x :: B)
      rw [hl] at this
      simpa using this
    rw [e1, e2]
    have hs' : Sorted A' := (List.pairwise_append.1 hs).1
    cases hp : decide (prioOrder x y < 0)
    · rw [cond_false]
      have hxy : ¬ lt6 x y := fun e => by
        have := (less_iff x y).2 e
        rw [show prioLess x y = false from hp] at this
        cases this
      have hno : hasL x (A' ++ [y]) = false := by
        rw [Bool.eq_false_iff]
        intro hh
        obtain ⟨b, hb, hb'⟩ := List.any_eq_true.1 hh
        rcases List.mem_append.1 hb with hb | hb
        · have h3 := (List.pairwise_append.1 hs).2.2 b hb y (by simp)
          exact lt6_neg h3 hxy ((less_iff x b).1 hb')
        · simp at hb
          subst hb
          exact hxy ((less_iff x b).1 hb')
      rw [insL_no hno]
      simp
    · rw [cond_true]
      have e3 : ((A' ++ [y] ++ x :: B).set (n + 1) y).set n x = A' ++ x :: (y :: B) := by
        subst hl
        simp
      rw [e3, ih A' (y :: B) hl hs', insL_snoc_lt hp]
      simp
theorem isortN_srt (L : List Ent) : ∀ k, k ≤ L.length → isortN L k = srt (L.take k) ++ L.drop k := by
  intro k
  induction k with
  | zero => intro _; simp [isortN, srt]
  | succ k ih =>
    intro hk
    have hlt : k < L.length := by omega
    rw [isortN, ih (by omega), List.drop_eq_getElem_cons hlt, insI_ins _ _ _ k (by rw [srt_length]; simp; omega) (srt_sorted _)]
    rw [show L.take (k + 1) = L.take k ++ [L[k]] from (List.take_append_getElem hlt).symm, srt_snoc]
theorem isortN_all (L : List Ent) : isortN L L.length = srt L := by
  rw [isortN_srt L L.length (Nat.le_refl _)]
  simp

/-- as far as it has come -/
def nextL (e : Ent) (l : List Ent) : List Ent := bif hasL e l then insL e l else l
theorem nextL_len (e : Ent) (l : List Ent) : (nextL e l).length ≤ l.length + 1 := by
  unfold nextL
  cases hasL e l
  · simp
  · simp [insL_length]
theorem next_has {e y : Ent} {l : List Ent} (h : hasL e l = true) : nextL e (l ++ [y]) = nextL e l ++ [y] ∧ hasL e (l ++ [y]) = true := by
  have h2 : hasL e (l ++ [y]) = true := by rw [hasL_snoc, h]; rfl
  unfold nextL
  rw [h, h2, cond_true, cond_true, insL_snoc_has h]
  exact ⟨rfl, rfl⟩
theorem next_lt {e y : Ent} {l : List Ent} (h : hasL e l = false) (hy : prioLess e y = true) : nextL e (l ++ [y]) = nextL e l ++ [e] ++ [y] ∧ hasL e (l ++ [y]) = true := by
  have h2 : hasL e (l ++ [y]) = true := by rw [hasL_snoc, h, hy]; rfl
  unfold nextL
  rw [h, h2, cond_true, cond_false, insL_snoc_lt hy, insL_no h]
  exact ⟨rfl, rfl⟩
theorem next_no {e y : Ent} {l : List Ent} (h : hasL e l = false) (hy : prioLess e y = false) : nextL e (l ++ [y]) = nextL e l ++ [y] ∧ hasL e (l ++ [y]) = false := by
  have h2 : hasL e (l ++ [y]) = false := by rw [hasL_snoc, h, hy]; rfl
  unfold nextL
  rw [h, h2, cond_false, cond_false]
  exact ⟨rfl, rfl⟩
theorem next_nil (e : Ent) : nextL e [] = [] := rfl
theorem next_end {e : Ent} {l : List Ent} : (hasL e l = true → nextL e l = insL e l) ∧ (hasL e l = false → nextL e l ++ [e] = insL e l) := by
  unfold nextL
  constructor
  · intro h; rw [h, cond_true]
  · intro h; rw [h, cond_false, insL_no h]
theorem room48 (l : List Ent) (h : l.length ≤ 1001) : roomy (l.length + 1) 48 = true := decide_eq_true (by omega)
theorem take_snoc {l : List Ent} {k : Nat} (h : k < l.length) : l.take (k + 1) = l.take k ++ [l[k]] := (List.take_append_getElem h).symm
def sameB (A B : List Ent) : Bool := decide (A = B)
theorem entEq (a b : Ent) : (a.ID == b.ID && ((a.SubIndex == b.SubIndex && (a.SubRelease == b.SubRelease && (a.SubDeadline == b.SubDeadline && (a.SubBit == b.SubBit && (a.SubGroup == b.SubGroup && true))))) && true)) = decide (a = b) := by
  obtain ⟨a1, a2, a3, a4, a5, a6⟩ := a
  obtain ⟨b1, b2, b3, b4, b5, b6⟩ := b
  rw [Bool.eq_iff_iff, decide_eq_true_iff]
  simp
theorem sameB_ne {A B : List Ent} (h : A ≠ B) : sameB A B = false := decide_eq_false h
theorem sameB_eq {A B : List Ent} (h : A = B) : sameB A B = true := decide_eq_true h

/-! ### regatta/regattaref04.Release -/
def ref04Release (a0E : Int) (a0P : Int) (a1 : Int) : Int := (match (!ref04Number a0E a0P a1) with | true => ((0 : Int)) | false => (match (a0E != (0 : Int)) with | true => (IntKind.i64.wrap ((IntKind.i64.wrap (IntKind.i64.wrap (a1 - (1 : Int)) * a0P)).tdiv a0E)) | false => 0))
def ref04ReleasePre (a0E : Int) (a0P : Int) (a1 : Int) : Bool := (match (!ref04Number a0E a0P a1) with | true => true | false => (match (a0E != (0 : Int)) with | true => true | false => false))
noncomputable def ref04ReleaseCon : Con T O := fun args cs => match args, cs with
  | [.agg [.raw (.int .i64 a0E), .raw (.int .i64 a0P)], .raw (.int .i64 a1)], [] => chk (ref04ReleasePre a0E a0P a1) (retv (.raw (.int .i64 (ref04Release a0E a0P a1))))
  | _, _ => .fail
theorem ref04ReleaseVc (a0E : Int) (a0P : Int) (a1 : Int) : fnX X12 noAnn Try.f26 [.agg [.raw (.int .i64 a0E), .raw (.int .i64 a0P)], .raw (.int .i64 a1)] [] (ends [] ⟨some (.raw (.int .i64 (ref04Release a0E a0P a1))), []⟩) = ((match (!ref04Number a0E a0P a1) with | true => ((ref04Release a0E a0P a1 = ((0 : Int))) ∧ True) ∧ True | false => (match (a0E != (0 : Int)) with | true => ((ref04Release a0E a0P a1 = (IntKind.i64.wrap ((IntKind.i64.wrap (IntKind.i64.wrap (a1 - (1 : Int)) * a0P)).tdiv a0E))) ∧ True) ∧ True | false => False))) := by kernel_rfl
theorem ref04ReleaseOk : ConOk R Try.prog 26 ref04ReleaseCon := con_of_fn R X12 (TabOk.con R X12Ok) mixed Try.call26 Try.func26 ref04ReleaseCon (by
  intro args cs K h
  unfold ref04ReleaseCon at h
  split at h
  · rename_i a0E a0P a1
    rw [Tree.holds_chk] at h
    obtain ⟨hp, h⟩ := h
    refine ⟨noAnn, _, fun v S hv => ⟨_, h, hv⟩, ?_⟩
    rw [ref04ReleaseVc a0E a0P a1]
    revert hp
    unfold ref04Release ref04ReleasePre
    cases (!ref04Number a0E a0P a1)
    ·
      cases (a0E != (0 : Int))
      ·
        intro hp; cases hp
      ·
        intro _; exact ⟨⟨rfl, trivial⟩, trivial⟩
    ·
      intro _; exact ⟨⟨rfl, trivial⟩, trivial⟩
  · exact h.elim)
/-! ### regatta/regattaref04.Deadline -/
def ref04Deadline (a0E : Int) (a0P : Int) (a1 : Int) : Int := (match (!ref04Number a0E a0P a1) with | true => ((0 : Int)) | false => (match (ref04UpPre (IntKind.i64.wrap (a1 * a0P)) a0E) with | true => (ref04Up (IntKind.i64.wrap (a1 * a0P)) a0E) | false => 0))
def ref04DeadlinePre (a0E : Int) (a0P : Int) (a1 : Int) : Bool := (match (!ref04Number a0E a0P a1) with | true => true | false => (match (ref04UpPre (IntKind.i64.wrap (a1 * a0P)) a0E) with | true => true | false => false))
noncomputable def ref04DeadlineCon : Con T O := fun args cs => match args, cs with
  | [.agg [.raw (.int .i64 a0E), .raw (.int .i64 a0P)], .raw (.int .i64 a1)], [] => chk (ref04DeadlinePre a0E a0P a1) (retv (.raw (.int .i64 (ref04Deadline a0E a0P a1))))
  | _, _ => .fail
theorem ref04DeadlineVc (a0E : Int) (a0P : Int) (a1 : Int) : fnX X12 noAnn Try.f25 [.agg [.raw (.int .i64 a0E), .raw (.int .i64 a0P)], .raw (.int .i64 a1)] [] (ends [] ⟨some (.raw (.int .i64 (ref04Deadline a0E a0P a1))), []⟩) = ((match (!ref04Number a0E a0P a1) with | true => ((ref04Deadline a0E a0P a1 = ((0 : Int))) ∧ True) ∧ True | false => (match (ref04UpPre (IntKind.i64.wrap (a1 * a0P)) a0E) with | true => ((ref04Deadline a0E a0P a1 = (ref04Up (IntKind.i64.wrap (a1 * a0P)) a0E)) ∧ True) ∧ True | false => False))) := by kernel_rfl
theorem ref04DeadlineOk : ConOk R Try.prog 25 ref04DeadlineCon := con_of_fn R X12 (TabOk.con R X12Ok) mixed Try.call25 Try.func25 ref04DeadlineCon (by
  intro args cs K h
  unfold ref04DeadlineCon at h
  split at h
  · rename_i a0E a0P a1
    rw [Tree.holds_chk] at h
    obtain ⟨hp, h⟩ := h
    refine ⟨noAnn, _, fun v S hv => ⟨_, h, hv⟩, ?_⟩
    rw [ref04DeadlineVc a0E a0P a1]
    revert hp
    unfold ref04Deadline ref04DeadlinePre
    cases (!ref04Number a0E a0P a1)
    ·
      cases (ref04UpPre (IntKind.i64.wrap (a1 * a0P)) a0E)
      ·
        intro hp; cases hp
      ·
        intro _; exact ⟨⟨rfl, trivial⟩, trivial⟩
    ·
      intro _; exact ⟨⟨rfl, trivial⟩, trivial⟩
  · exact h.elim)
/-! ### regatta/regattaref04.Bit -/
def ref04Bit (a0E : Int) (a0P : Int) (a1 : Int) : Int := (match (!ref04Number a0E a0P a1) with | true => ((0 : Int)) | false => (match (a0E != (0 : Int)) with | true => (match ((IntKind.i64.wrap (a1 * a0P)).tmod a0E == (0 : Int)) with | true => ((0 : Int)) | false => ((1 : Int))) | false => 0))
def ref04BitPre (a0E : Int) (a0P : Int) (a1 : Int) : Bool := (match (!ref04Number a0E a0P a1) with | true => true | false => (match (a0E != (0 : Int)) with | true => (match ((IntKind.i64.wrap (a1 * a0P)).tmod a0E == (0 : Int)) with | true => true | false => true) | false => false))
noncomputable def ref04BitCon : Con T O := fun args cs => match args, cs with
  | [.agg [.raw (.int .i64 a0E), .raw (.int .i64 a0P)], .raw (.int .i64 a1)], [] => chk (ref04BitPre a0E a0P a1) (retv (.raw (.int .i64 (ref04Bit a0E a0P a1))))
  | _, _ => .fail
theorem ref04BitVc (a0E : Int) (a0P : Int) (a1 : Int) : fnX X12 noAnn Try.f27 [.agg [.raw (.int .i64 a0E), .raw (.int .i64 a0P)], .raw (.int .i64 a1)] [] (ends [] ⟨some (.raw (.int .i64 (ref04Bit a0E a0P a1))), []⟩) = ((match (!ref04Number a0E a0P a1) with | true => ((ref04Bit a0E a0P a1 = ((0 : Int))) ∧ True) ∧ True | false => (match (a0E != (0 : Int)) with | true => (match ((IntKind.i64.wrap (a1 * a0P)).tmod a0E == (0 : Int)) with | true => ((ref04Bit a0E a0P a1 = ((0 : Int))) ∧ True) ∧ True | false => ((ref04Bit a0E a0P a1 = ((1 : Int))) ∧ True) ∧ True) | false => False))) := by kernel_rfl
theorem ref04BitOk : ConOk R Try.prog 27 ref04BitCon := con_of_fn R X12 (TabOk.con R X12Ok) mixed Try.call27 Try.func27 ref04BitCon (by
  intro args cs K h
  unfold ref04BitCon at h
  split at h
  · rename_i a0E a0P a1
    rw [Tree.holds_chk] at h
    obtain ⟨hp, h⟩ := h
    refine ⟨noAnn, _, fun v S hv => ⟨_, h, hv⟩, ?_⟩
    rw [ref04BitVc a0E a0P a1]
    revert hp
    unfold ref04Bit ref04BitPre
    cases (!ref04Number a0E a0P a1)
    ·
      cases (a0E != (0 : Int))
      ·
        intro hp; cases hp
      ·
        cases ((IntKind.i64.wrap (a1 * a0P)).tmod a0E == (0 : Int))
        ·
          intro _; exact ⟨⟨rfl, trivial⟩, trivial⟩
        ·
          intro _; exact ⟨⟨rfl, trivial⟩, trivial⟩
    ·
      intro _; exact ⟨⟨rfl, trivial⟩, trivial⟩
  · exact h.elim)
/-! ### regatta/regattaref06.Same -/
def sameText (A B : List Ent) : Prop := (match ((↑A.length : Int) != (↑B.length : Int)) with | true => (((sameB A B = false) ∧ True) ∧ ((A = A) ∧ ((B = B) ∧ True))) | false => ((∃ x : Nat, (((x ≤ A.length) ∧ (List.take x A = List.take x B)) ∧ ((True ∧ (True ∧ (((↑x : Int) = (0 : Int)) ∧ True))) ∧ ((A = A) ∧ ((B = B) ∧ True))))) ∧ (∀ x : Nat, (((x ≤ A.length) ∧ (List.take x A = List.take x B)) → (match (decide ((↑x : Int) < (↑A.length : Int))) with | true => (match (inb (↑x : Int) A.length) with | true => (match (inb (↑x : Int) A.length) with | true => (match (inb (↑x : Int) B.length) with | true => (match (inb (↑x : Int) B.length) with | true => (match (!((at' entE.zero A (↑x : Int)).ID == (at' entE.zero B (↑x : Int)).ID && ((at' entE.zero A (↑x : Int)).SubIndex == (at' entE.zero B (↑x : Int)).SubIndex && ((at' entE.zero A (↑x : Int)).SubRelease == (at' entE.zero B (↑x : Int)).SubRelease && ((at' entE.zero A (↑x : Int)).SubDeadline == (at' entE.zero B (↑x : Int)).SubDeadline && ((at' entE.zero A (↑x : Int)).SubBit == (at' entE.zero B (↑x : Int)).SubBit && ((at' entE.zero A (↑x : Int)).SubGroup == (at' entE.zero B (↑x : Int)).SubGroup && true)))) && true))) with | true => (((sameB A B = false) ∧ True) ∧ ((A = A) ∧ ((B = B) ∧ True))) | false => (∃ x' : Nat, (((x' ≤ A.length) ∧ (List.take x' A = List.take x' B)) ∧ ((A.length - x' < A.length - x) ∧ ((True ∧ (True ∧ (((↑x' : Int) = IntKind.i64.wrap ((↑x : Int) + (1 : Int))) ∧ True))) ∧ ((A = A) ∧ ((B = B) ∧ True))))))) | false => False) | false => False) | false => False) | false => False) | false => (((sameB A B = true) ∧ True) ∧ ((A = A) ∧ ((B = B) ∧ True))))))))
theorem sameVc (A B : List Ent) : fnX X12 (oneLoop 4 { σ := Nat, st := fun S x => (S.keep [0, 1]).int 5 x, inv := fun _ x => x ≤ A.length ∧ A.take x = B.take x, m := fun x => A.length - x }) Try.f16 [.own 0, .own 1] [.vec 2 A 25, .vec 2 B 25] (ends [.vec 2 A 25, .vec 2 B 25] ⟨some (.raw (.bool (sameB A B))), [(0, some (.vec 2 A 25)), (1, some (.vec 2 B 25))]⟩) = sameText A B := by kernel_rfl
theorem sameHolds (A B : List Ent) (hp : A.length ≤ 1000) : sameText A B := by
  unfold sameText
  by_cases hl : A.length = B.length
  · rw [show ((A.length : Int) != (B.length : Int)) = false by simp [hl]]
    refine ⟨⟨0, ⟨Nat.zero_le _, rfl⟩, by repeat' first | trivial | rfl | apply And.intro⟩, ?_⟩
    rintro x ⟨hx, hs⟩
    by_cases h : x < A.length
    · have hB : x < B.length := by omega
      have hwx := wrap_succ h (show A.length ≤ 140737488355328 by omega)
      rw [dec_lt h, inb_nat h, inb_nat hB, entEq, at_nat h, at_nat hB]
      by_cases he : A[x] = B[x]
      · rw [decide_eq_true he]
        refine ⟨x + 1, ⟨h, ?_⟩, by omega, ?_⟩
        · rw [take_snoc h, take_snoc hB, hs, he]
        · repeat' first | exact hwx.symm | trivial | rfl | apply And.intro
      · rw [decide_eq_false he]
        have hne : A ≠ B := fun e => he (by subst e; rfl)
        exact ⟨⟨sameB_ne hne, trivial⟩, rfl, rfl, trivial⟩
    · rw [dec_ge (by omega)]
      have he : A = B := by
        have e1 : A.take x = A := List.take_of_length_le (by omega)
        have e2 : B.take x = B := List.take_of_length_le (by omega)
        rw [← e1, ← e2, hs]
      exact ⟨⟨sameB_eq he, trivial⟩, rfl, rfl, trivial⟩
  · rw [show ((A.length : Int) != (B.length : Int)) = true by rw [bne_iff_ne]; omega]
    have hne : A ≠ B := fun e => hl (by rw [e])
    exact ⟨⟨sameB_ne hne, trivial⟩, rfl, rfl, trivial⟩
noncomputable def sameCon : Con T O := fun args cs => match args, cs with
  | [.own 0, .own 1], [.vec 2 A 25, .vec 2 B 25] => chk (decide (A.length ≤ 1000)) (.ret ⟨some (.raw (.bool (sameB A B))), [(0, some (.vec 2 A 25)), (1, some (.vec 2 B 25))]⟩)
  | _, _ => .fail
theorem sameOk : ConOk R Try.prog 16 sameCon := con_of_fn R (X12) (TabOk.con R X12Ok) mixed Try.call16 Try.func16 sameCon (by
  intro args cs K h
  unfold sameCon at h
  split at h
  · rename_i A B
    rw [Tree.holds_chk] at h
    obtain ⟨hp, h⟩ := h
    refine ⟨oneLoop 4 { σ := Nat, st := fun S x => (S.keep [0, 1]).int 5 x, inv := fun _ x => x ≤ A.length ∧ A.take x = B.take x, m := fun x => A.length - x }, _, fun v S hv => ⟨_, h, hv⟩, ?_⟩
    rw [sameVc A B]
    exact sameHolds A B (of_decide_eq_true hp)
  · exact h.elim)
/-! ### regatta/regattaref06.Sort -/
def rSortText (L : List Ent) : Prop := ((∃ x : Nat, ((x.le L.length) ∧ ((True ∧ (True ∧ (((↑x : Int) = (0 : Int)) ∧ True))) ∧ ((L = L) ∧ ((srt (List.take x L) = []) ∧ True))))) ∧ (∀ x : Nat, ((x.le L.length) → (match (decide ((↑x : Int) < (↑L.length : Int))) with | true => ((∃ x1 : Nat, ((x1.le (srt (List.take x L)).length) ∧ ((True ∧ (True ∧ (((↑x : Int) = (↑x : Int)) ∧ (True ∧ ((hasL (at' ez L (↑x : Int)) (List.take x1 (srt (List.take x L))) = false) ∧ (((↑x1 : Int) = (0 : Int)) ∧ True)))))) ∧ ((L = L) ∧ ((srt (List.take x L) = srt (List.take x L)) ∧ ((nextL (at' ez L (↑x : Int)) (List.take x1 (srt (List.take x L))) = []) ∧ True)))))) ∧ (∀ x1 : Nat, ((x1.le (srt (List.take x L)).length) → (match (decide ((↑x1 : Int) < (↑(srt (List.take x L)).length : Int))) with | true => (match (inb (↑x : Int) L.length) with | true => (match (inb (↑x : Int) L.length) with | true => (match (inb (↑x1 : Int) (srt (List.take x L)).length) with | true => (match (inb (↑x1 : Int) (srt (List.take x L)).length) with | true => (match (!hasL (at' ez L (↑x : Int)) (List.take x1 (srt (List.take x L)))) with | true => (match (ref06Less (at' entE.zero L (↑x : Int)) (at' entE.zero (srt (List.take x L)) (↑x1 : Int))) with | true => (match (inb (↑x : Int) L.length) with | true => (match (inb (↑x : Int) L.length) with | true => (match (roomy ((nextL (at' ez L (↑x : Int)) (List.take x1 (srt (List.take x L)))).length + (1 : Nat)) (nat_lit 48)) with | true => (match (inb (↑x1 : Int) (srt (List.take x L)).length) with | true => (match (inb (↑x1 : Int) (srt (List.take x L)).length) with | true => (match (roomy ((nextL (at' ez L (↑x : Int)) (List.take x1 (srt (List.take x L))) ++ [at' entE.zero L (↑x : Int)]).length + (1 : Nat)) (nat_lit 48)) with | true => (∃ x' : Nat, ((x'.le (srt (List.take x L)).length) ∧ (((1000 : Nat) - x' < (1000 : Nat) - x1) ∧ ((True ∧ (True ∧ (((↑x : Int) = (↑x : Int)) ∧ (True ∧ ((hasL (at' ez L (↑x : Int)) (List.take x' (srt (List.take x L))) = true) ∧ (((↑x' : Int) = IntKind.i64.wrap ((↑x1 : Int) + (1 : Int))) ∧ True)))))) ∧ ((L = L) ∧ ((srt (List.take x L) = srt (List.take x L)) ∧ ((nextL (at' ez L (↑x : Int)) (List.take x' (srt (List.take x L))) = nextL (at' ez L (↑x : Int)) (List.take x1 (srt (List.take x L))) ++ [at' entE.zero L (↑x : Int)] ++ [at' entE.zero (srt (List.take x L)) (↑x1 : Int)]) ∧ True))))))) | false => False) | false => False) | false => False) | false => False) | false => False) | false => False) | false => (match (inb (↑x1 : Int) (srt (List.take x L)).length) with | true => (match (inb (↑x1 : Int) (srt (List.take x L)).length) with | true => (match (roomy ((nextL (at' ez L (↑x : Int)) (List.take x1 (srt (List.take x L)))).length + (1 : Nat)) (nat_lit 48)) with | true => (∃ x' : Nat, ((x'.le (srt (List.take x L)).length) ∧ (((1000 : Nat) - x' < (1000 : Nat) - x1) ∧ ((True ∧ (True ∧ (((↑x : Int) = (↑x : Int)) ∧ (True ∧ ((hasL (at' ez L (↑x : Int)) (List.take x' (srt (List.take x L))) = hasL (at' ez L (↑x : Int)) (List.take x1 (srt (List.take x L)))) ∧ (((↑x' : Int) = IntKind.i64.wrap ((↑x1 : Int) + (1 : Int))) ∧ True)))))) ∧ ((L = L) ∧ ((srt (List.take x L) = srt (List.take x L)) ∧ ((nextL (at' ez L (↑x : Int)) (List.take x' (srt (List.take x L))) = nextL (at' ez L (↑x : Int)) (List.take x1 (srt (List.take x L))) ++ [at' entE.zero (srt (List.take x L)) (↑x1 : Int)]) ∧ True))))))) | false => False) | false => False) | false => False)) | false => (match (inb (↑x1 : Int) (srt (List.take x L)).length) with | true => (match (inb (↑x1 : Int) (srt (List.take x L)).length) with | true => (match (roomy ((nextL (at' ez L (↑x : Int)) (List.take x1 (srt (List.take x L)))).length + (1 : Nat)) (nat_lit 48)) with | true => (∃ x' : Nat, ((x'.le (srt (List.take x L)).length) ∧ (((1000 : Nat) - x' < (1000 : Nat) - x1) ∧ ((True ∧ (True ∧ (((↑x : Int) = (↑x : Int)) ∧ (True ∧ ((hasL (at' ez L (↑x : Int)) (List.take x' (srt (List.take x L))) = hasL (at' ez L (↑x : Int)) (List.take x1 (srt (List.take x L)))) ∧ (((↑x' : Int) = IntKind.i64.wrap ((↑x1 : Int) + (1 : Int))) ∧ True)))))) ∧ ((L = L) ∧ ((srt (List.take x L) = srt (List.take x L)) ∧ ((nextL (at' ez L (↑x : Int)) (List.take x' (srt (List.take x L))) = nextL (at' ez L (↑x : Int)) (List.take x1 (srt (List.take x L))) ++ [at' entE.zero (srt (List.take x L)) (↑x1 : Int)]) ∧ True))))))) | false => False) | false => False) | false => False)) | false => False) | false => False) | false => False) | false => False) | false => (match (!hasL (at' ez L (↑x : Int)) (List.take x1 (srt (List.take x L)))) with | true => (match (inb (↑x : Int) L.length) with | true => (match (inb (↑x : Int) L.length) with | true => (match (roomy ((nextL (at' ez L (↑x : Int)) (List.take x1 (srt (List.take x L)))).length + (1 : Nat)) (nat_lit 48)) with | true => (∃ x' : Nat, ((x'.le L.length) ∧ ((L.length - x' < L.length - x) ∧ ((True ∧ (True ∧ (((↑x' : Int) = IntKind.i64.wrap ((↑x : Int) + (1 : Int))) ∧ True))) ∧ ((L = L) ∧ ((srt (List.take x' L) = nextL (at' ez L (↑x : Int)) (List.take x1 (srt (List.take x L))) ++ [at' entE.zero L (↑x : Int)]) ∧ True)))))) | false => False) | false => False) | false => False) | false => (∃ x' : Nat, ((x'.le L.length) ∧ ((L.length - x' < L.length - x) ∧ ((True ∧ (True ∧ (((↑x' : Int) = IntKind.i64.wrap ((↑x : Int) + (1 : Int))) ∧ True))) ∧ ((L = L) ∧ ((srt (List.take x' L) = nextL (at' ez L (↑x : Int)) (List.take x1 (srt (List.take x L)))) ∧ True))))))))))) | false => ((True ∧ True) ∧ ((L = L) ∧ ((srt L = srt (List.take x L)) ∧ True)))))))
theorem rSortVc (L : List Ent) : fnX X12 (annOf [(3, { σ := Nat, st := fun S x => ((S.keep [0]).int 4 x).new 3 (.vec 2 (srt (L.take x)) 25), inv := fun _ x => x ≤ L.length, m := fun x => L.length - x }), (8, { σ := Nat, st := fun S x => (((S.keep [0, 3, 4]).int 7 x).bool 6 (hasL (at' ez L (S.gi 4)) ((S.gv 3 2).take x))).new 5 (.vec 2 (nextL (at' ez L (S.gi 4)) ((S.gv 3 2).take x)) 25), inv := fun S x => x ≤ (S.gv 3 2).length, m := fun x => 1000 - x })] []) Try.f17 [.own 0] [.ro 2 L] (ends [.ro 2 L] ⟨some (.own 1), [(1, some (.vec 2 (srt L) 25))]⟩) = rSortText L := by kernel_rfl
theorem rSortHolds (L : List Ent) (hp : L.length ≤ 1000) : rSortText L := by
  unfold rSortText
  simp only [refLess_eq]
  refine ⟨⟨0, Nat.zero_le _, by repeat' first | trivial | rfl | apply And.intro⟩, ?_⟩
  rintro x hx
  by_cases h : x < L.length
  · have hwx := wrap_succ h (show L.length ≤ 140737488355328 by omega)
    rw [dec_lt h, inb_nat h]
    have hsn : srt (L.take (x + 1)) = insL (at' ez L (x : Int)) (srt (L.take x)) := by
      rw [take_snoc h, srt_snoc, at_nat h]
    have hSl : (srt (L.take x)).length ≤ 1000 := by rw [srt_length, List.length_take]; omega
    generalize srt (L.take x) = S at hsn hSl ⊢
    generalize at' ez L (x : Int) = e at hsn ⊢
    refine ⟨⟨0, Nat.zero_le _, by repeat' first | trivial | rfl | apply And.intro⟩, ?_⟩
    rintro k hk
    by_cases g : k < S.length
    · have hwk := wrap_succ g (show S.length ≤ 140737488355328 by omega)
      have hT : (S.take k).length ≤ 999 := by rw [List.length_take]; omega
      have hn := nextL_len e (S.take k)
      have ht := take_snoc g
      rw [dec_lt g, inb_nat g, show at' ez S (k : Int) = S[k] from at_nat g]
      generalize S.take k = l at ht hT hn ⊢
      generalize S[k] = y at ht ⊢
      rw [room48 _ (by omega : (nextL e l).length ≤ 1001)]
      rw [room48 _ (by simp; omega : (nextL e l ++ [e]).length ≤ 1001)]
      cases hh : hasL e l
      · cases hy : prioLess e y
        · obtain ⟨n1, n2⟩ := next_no hh hy
          refine ⟨k + 1, g, by omega, ?_⟩
          rw [ht, n1, n2]
          repeat' first | exact hwk.symm | trivial | rfl | apply And.intro
        · obtain ⟨n1, n2⟩ := next_lt hh hy
          refine ⟨k + 1, g, by omega, ?_⟩
          rw [ht, n1, n2]
          repeat' first | exact hwk.symm | trivial | rfl | apply And.intro
      · obtain ⟨n1, n2⟩ := next_has (y := y) hh
        refine ⟨k + 1, g, by omega, ?_⟩
        rw [ht, n1, n2]
        repeat' first | exact hwk.symm | trivial | rfl | apply And.intro
    · rw [dec_ge (by omega)]
      rw [List.take_of_length_le (by omega)]
      obtain ⟨n1, n2⟩ := @next_end e S
      have hn := nextL_len e S
      rw [room48 _ (by omega : (nextL e S).length ≤ 1001)]
      cases hh : hasL e S
      · refine ⟨x + 1, h, by omega, ?_⟩
        rw [hsn, ← n2 hh]
        repeat' first | exact hwx.symm | trivial | rfl | apply And.intro
      · refine ⟨x + 1, h, by omega, ?_⟩
        rw [hsn, ← n1 hh]
        repeat' first | exact hwx.symm | trivial | rfl | apply And.intro
  · rw [dec_ge (by omega)]
    rw [List.take_of_length_le (by omega)]
    repeat' first | trivial | rfl | apply And.intro
noncomputable def rSortCon : Con T O := fun args cs => match args, cs with
  | [.own 0], [.ro 2 L] => chk (decide (L.length ≤ 1000)) (.ret ⟨some (.own 1), [(1, some (.vec 2 (srt L) 25))]⟩)
  | _, _ => .fail
theorem rSortOk : ConOk R Try.prog 17 rSortCon := con_of_fn R (X12) (TabOk.con R X12Ok) mixed Try.call17 Try.func17 rSortCon (by
  intro args cs K h
  unfold rSortCon at h
  split at h
  · rename_i L
    rw [Tree.holds_chk] at h
    obtain ⟨hp, h⟩ := h
    refine ⟨annOf [(3, { σ := Nat, st := fun S x => ((S.keep [0]).int 4 x).new 3 (.vec 2 (srt (L.take x)) 25), inv := fun _ x => x ≤ L.length, m := fun x => L.length - x }), (8, { σ := Nat, st := fun S x => (((S.keep [0, 3, 4]).int 7 x).bool 6 (hasL (at' ez L (S.gi 4)) ((S.gv 3 2).take x))).new 5 (.vec 2 (nextL (at' ez L (S.gi 4)) ((S.gv 3 2).take x)) 25), inv := fun S x => x ≤ (S.gv 3 2).length, m := fun x => 1000 - x })] [], _, fun v S hv => ⟨_, h, hv⟩, ?_⟩
    rw [rSortVc L]
    exact rSortHolds L (of_decide_eq_true hp)
  · exact h.elim)
noncomputable def tab13 : Tab T O := (26, ref04ReleaseCon) :: (25, ref04DeadlineCon) :: (27, ref04BitCon) :: (16, sameCon) :: (17, rSortCon) :: tab12
theorem tabOk13 : TabOk R Try.prog tab13 := TabOk.cons R ref04ReleaseOk <| TabOk.cons R ref04DeadlineOk <| TabOk.cons R ref04BitOk <| TabOk.cons R sameOk <| TabOk.cons R rSortOk <| tabOk12
noncomputable def X13 : Ctx T O := { X0 with con := conOf tab13 }
theorem X13Ok : TabOk R X13.P tab13 := tabOk13
end Go.Proofs.Ytjhkokdcjikkiaa
