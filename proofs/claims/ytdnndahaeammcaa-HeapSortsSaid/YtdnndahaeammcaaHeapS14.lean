/-
  Part of a proof over the seat Ytdnndahaeammcaa: printed by a small program or typed by hand.
-/
import Derived.Test.YtdnndahaeammcaaHeapS13
import Derived.KernelRfl
namespace Go.Proofs.Ytdnndahaeammcaa
open Go.Sx Go.Proofs Classical

structure FillOk (L : List Int) (no n i : Nat) (U : List Bool) (s : HS) : Prop where
  ex : ∃ C, HOk s C ∧ C.length = U.countP id ∧ U.length = 40 ∧ (∀ a, a ∈ C ↔ ∃ k : Nat, k < n ∧ a = ⟨k, at' 0 L (k : Int)⟩ ∧ at' false U (k : Int) = true) ∧ ∀ k, k < n → no + k < i → at' false U (k : Int) = true
structure SortOk (L : List Int) (n : Nat) (last at_ : Int) (s g : HS) : Prop where
  ex : ∃ C, HOk s C ∧ HOk g C ∧ ∀ a ∈ C, (∃ k : Nat, k < n ∧ a = ⟨k, at' 0 L (k : Int)⟩) ∧ (last < a.X % 16 ∨ last = a.X % 16 ∧ at_ < a.Id)
def used0 : List Bool := List.replicate 40 false
theorem used0_at (k : Nat) : at' false used0 (k : Int) = false := by
  unfold at' used0
  rw [Int.toNat_natCast, List.getD_eq_getElem?_getD, List.getElem?_replicate]
  split <;> rfl
theorem FillOk.start (L : List Int) (no n : Nat) : FillOk L no n 0 used0 (noThings, noPlaces) :=
  ⟨[], HOk.new, by decide, by decide, fun a => ⟨fun h => (by cases h), fun ⟨k, _, _, h⟩ => (by rw [used0_at] at h; cases h)⟩, fun k _ h => (by omega)⟩
theorem FillOk.next {L : List Int} {no n i : Nat} {U : List Bool} {s : HS} (h : FillOk L no n i U s) (hk : ∀ k, k < n → no + k = i → at' false U (k : Int) = true) : FillOk L no n (i + 1) U s := by
  obtain ⟨C, h1, h2, h3, h4, h5⟩ := h.ex
  refine ⟨C, h1, h2, h3, h4, fun k a b => ?_⟩
  by_cases e : no + k = i
  · exact hk k a e
  · exact h5 k a (by omega)
theorem FillOk.small {L : List Int} {no n i : Nat} {U : List Bool} {s : HS} (h : FillOk L no n i U s) : s.1.length ≤ 40 ∧ U.length = 40 := by
  obtain ⟨C, h1, h2, h3, _, _⟩ := h.ex
  have h6 := h1.len
  have h7 : U.countP id ≤ U.length := List.countP_le_length
  exact ⟨by omega, h3⟩
theorem at_set (U : List Bool) (k j : Nat) (hk : k < U.length) : at' false (U.set k true) (j : Int) = if j = k then true else at' false U (j : Int) := by
  unfold at'
  rw [Int.toNat_natCast, List.getD_eq_getElem?_getD, List.getD_eq_getElem?_getD, List.getElem?_set]
  by_cases e : k = j
  · subst e; rw [if_pos rfl, if_pos rfl, if_pos hk]; rfl
  · rw [if_neg e, if_neg (show ¬ j = k from fun h => e h.symm)]
theorem FillOk.add {L : List Int} {no n i : Nat} {U : List Bool} {s : HS} (h : FillOk L no n i U s) {k : Nat} (hk : k < n) (hn : n ≤ 40) (hu : at' false U (k : Int) = false) : thereB (k : Int) s.2 = false ∧ FillOk L no n i (U.set k true) (pushH s k (at' 0 L (k : Int))) := by
  obtain ⟨C, h1, h2, h3, h4, h5⟩ := h.ex
  have hkl : k < U.length := by omega
  have hno : thereB (k : Int) s.2 = false := h1.notThere fun a ha e => by
    obtain ⟨j, _, rfl, hj⟩ := (h4 a).1 ha
    have e : j = k := by dsimp only at e; omega
    subst e
    rw [hu] at hj
    cases hj
  have hg : U[k] = false := by
    have := hu
    rw [at_nat hkl] at this
    exact this
  refine ⟨hno, ⟨_, h1.push hno, ?_, by rw [List.length_set]; exact h3, fun a => ?_, fun j a b => ?_⟩⟩
  · rw [List.countP_set hkl, hg, List.length_cons, h2]
    simp
  · rw [List.mem_cons, h4 a]
    constructor
    · rintro (rfl | ⟨j, hj, rfl, hj2⟩)
      · exact ⟨k, hk, rfl, by rw [at_set U k k hkl, if_pos rfl]⟩
      · exact ⟨j, hj, rfl, by rw [at_set U k j hkl]; split <;> first | rfl | exact hj2⟩
    · rintro ⟨j, hj, rfl, hj2⟩
      rw [at_set U k j hkl] at hj2
      by_cases e : j = k
      · subst e; exact .inl rfl
      · rw [if_neg e] at hj2; exact .inr ⟨j, hj, rfl, hj2⟩
  · rw [at_set U k j hkl]
    split
    · rfl
    · exact h5 j a b
theorem same_perm {s g : HS} {C D : List Thing} (h : HOk s C) (h2 : HOk g D) (e : ∀ a, a ∈ C ↔ a ∈ D) : HOk g C :=
  ⟨h2.heap, h2.map, h2.perm.trans ((List.perm_ext_iff_of_nodup h.nodup h2.nodup).2 e).symm⟩
theorem le_both {a b : Thing} (h1 : le' a b) (h2 : le' b a) : a.Id = b.Id := by unfold le' at *; omega

/-! ### regatta/regattalaw07.HeapSorts -/
def law07HeapSortsText (L R : List Int) : Prop := ((match (decide ((↑L.length : Int) > (40 : Int))) with | true => (∃ x : Nat, (((x ≤ (40 : Nat)) ∧ (x ≤ L.length)) ∧ ((True ∧ (True ∧ ((true = true) ∧ (True ∧ (True ∧ (((↑x : Int) = (40 : Int)) ∧ True)))))) ∧ ((L = L) ∧ ((R = R) ∧ ((True ∧ (True ∧ (True ∧ True))) ∧ ((noThings = noThings) ∧ ((noPlaces = noPlaces) ∧ ((True ∧ (True ∧ (True ∧ True))) ∧ ((noThings = noThings) ∧ ((noPlaces = noPlaces) ∧ True))))))))))) | false => (∃ x : Nat, (((x ≤ (40 : Nat)) ∧ (x ≤ L.length)) ∧ ((True ∧ (True ∧ ((true = true) ∧ (True ∧ (True ∧ (((↑x : Int) = (↑L.length : Int)) ∧ True)))))) ∧ ((L = L) ∧ ((R = R) ∧ ((True ∧ (True ∧ (True ∧ True))) ∧ ((noThings = noThings) ∧ ((noPlaces = noPlaces) ∧ ((True ∧ (True ∧ (True ∧ True))) ∧ ((noThings = noThings) ∧ ((noPlaces = noPlaces) ∧ True)))))))))))) ∧ (∀ x : Nat, (((x ≤ (40 : Nat)) ∧ (x ≤ L.length)) → ((∃ x1 : Nat × List Bool × HS, (((x1.fst ≤ R.length + (↑x : Int).toNat) ∧ (FillOk L R.length (↑x : Int).toNat x1.fst x1.snd.fst x1.snd.snd)) ∧ ((True ∧ (True ∧ ((true = true) ∧ (True ∧ (True ∧ (((↑x : Int) = (↑x : Int)) ∧ (True ∧ (((↑x1.fst : Int) = (0 : Int)) ∧ True)))))))) ∧ ((L = L) ∧ ((R = R) ∧ ((True ∧ (True ∧ (True ∧ True))) ∧ ((noThings = noThings) ∧ ((noPlaces = noPlaces) ∧ ((True ∧ (True ∧ (True ∧ True))) ∧ ((x1.snd.snd.fst = noThings) ∧ ((x1.snd.snd.snd = noPlaces) ∧ ((x1.snd.fst = [false, false, false, false, false, false, false, false, false, false, false, false, false, false, false, false, false, false, false, false, false, false, false, false, false, false, false, false, false, false, false, false, false, false, false, false, false, false, false, false]) ∧ True)))))))))))) ∧ (∀ x1 : Nat × List Bool × HS, (((x1.fst ≤ R.length + (↑x : Int).toNat) ∧ (FillOk L R.length (↑x : Int).toNat x1.fst x1.snd.fst x1.snd.snd)) → (match (decide ((↑x1.fst : Int) < IntKind.i64.wrap ((↑R.length : Int) + (↑x : Int)))) with | true => (match (decide ((↑x1.fst : Int) < (↑R.length : Int))) with | true => (match (decide ((↑x : Int) > (0 : Int))) with | true => (match (inb (↑x1.fst : Int) R.length) with | true => (match (inb (↑x1.fst : Int) R.length) with | true => (match ((↑x : Int) != (0 : Int)) with | true => (match ((↑x : Int) != (0 : Int)) with | true => (match (decide ((IntKind.i64.wrap (Int.tmod (at' (0 : Int) R (↑x1.fst : Int)) (↑x : Int) + (↑x : Int))).tmod (↑x : Int) ≥ (0 : Int))) with | true => (match (x1.snd.fst.length == (40 : Nat)) with | true => (match (inb ((IntKind.i64.wrap (Int.tmod (at' (0 : Int) R (↑x1.fst : Int)) (↑x : Int) + (↑x : Int))).tmod (↑x : Int)) (40 : Nat)) with | true => (match (inb ((IntKind.i64.wrap (Int.tmod (at' (0 : Int) R (↑x1.fst : Int)) (↑x : Int) + (↑x : Int))).tmod (↑x : Int)) x1.snd.fst.length) with | true => (match (!at' false x1.snd.fst ((IntKind.i64.wrap (Int.tmod (at' (0 : Int) R (↑x1.fst : Int)) (↑x : Int) + (↑x : Int))).tmod (↑x : Int))) with | true => (match (x1.snd.fst.length == (40 : Nat)) with | true => (match (inb ((IntKind.i64.wrap (Int.tmod (at' (0 : Int) R (↑x1.fst : Int)) (↑x : Int) + (↑x : Int))).tmod (↑x : Int)) (40 : Nat)) with | true => (match (inb ((IntKind.i64.wrap (Int.tmod (at' (0 : Int) R (↑x1.fst : Int)) (↑x : Int) + (↑x : Int))).tmod (↑x : Int)) x1.snd.fst.length) with | true => (match (inb ((IntKind.i64.wrap (Int.tmod (at' (0 : Int) R (↑x1.fst : Int)) (↑x : Int) + (↑x : Int))).tmod (↑x : Int)) L.length) with | true => (match (inb ((IntKind.i64.wrap (Int.tmod (at' (0 : Int) R (↑x1.fst : Int)) (↑x : Int) + (↑x : Int))).tmod (↑x : Int)) L.length) with | true => (match (decide (x1.snd.snd.fst.length ≤ (1000 : Nat))) with | true => (match (thereB ((IntKind.i64.wrap (Int.tmod (at' (0 : Int) R (↑x1.fst : Int)) (↑x : Int) + (↑x : Int))).tmod (↑x : Int)) x1.snd.snd.snd) with | true => (∃ x' : Nat × List Bool × HS, (((x'.fst ≤ R.length + (↑x : Int).toNat) ∧ (FillOk L R.length (↑x : Int).toNat x'.fst x'.snd.fst x'.snd.snd)) ∧ ((R.length + (40 : Nat) - x'.fst < R.length + (40 : Nat) - x1.fst) ∧ ((True ∧ (True ∧ ((true = true) ∧ (True ∧ (True ∧ (((↑x : Int) = (↑x : Int)) ∧ (True ∧ (((↑x'.fst : Int) = IntKind.i64.wrap ((↑x1.fst : Int) + (1 : Int))) ∧ True)))))))) ∧ ((L = L) ∧ ((R = R) ∧ ((True ∧ (True ∧ (True ∧ True))) ∧ ((noThings = noThings) ∧ ((noPlaces = noPlaces) ∧ ((True ∧ (True ∧ (True ∧ True))) ∧ ((x'.snd.snd.fst = x1.snd.snd.fst) ∧ ((x'.snd.snd.snd = x1.snd.snd.snd) ∧ ((x'.snd.fst = x1.snd.fst.set ((IntKind.i64.wrap (Int.tmod (at' (0 : Int) R (↑x1.fst : Int)) (↑x : Int) + (↑x : Int))).tmod (↑x : Int)).toNat true) ∧ True))))))))))))) | false => (∃ x' : Nat × List Bool × HS, (((x'.fst ≤ R.length + (↑x : Int).toNat) ∧ (FillOk L R.length (↑x : Int).toNat x'.fst x'.snd.fst x'.snd.snd)) ∧ ((R.length + (40 : Nat) - x'.fst < R.length + (40 : Nat) - x1.fst) ∧ ((True ∧ (True ∧ ((true = true) ∧ (True ∧ (True ∧ (((↑x : Int) = (↑x : Int)) ∧ (True ∧ (((↑x'.fst : Int) = IntKind.i64.wrap ((↑x1.fst : Int) + (1 : Int))) ∧ True)))))))) ∧ ((L = L) ∧ ((R = R) ∧ ((True ∧ (True ∧ (True ∧ True))) ∧ ((noThings = noThings) ∧ ((noPlaces = noPlaces) ∧ ((True ∧ (True ∧ (True ∧ True))) ∧ ((x'.snd.snd.fst = (pushH x1.snd.snd ((IntKind.i64.wrap (Int.tmod (at' (0 : Int) R (↑x1.fst : Int)) (↑x : Int) + (↑x : Int))).tmod (↑x : Int)) (at' (0 : Int) L ((IntKind.i64.wrap (Int.tmod (at' (0 : Int) R (↑x1.fst : Int)) (↑x : Int) + (↑x : Int))).tmod (↑x : Int)))).fst) ∧ ((x'.snd.snd.snd = (pushH x1.snd.snd ((IntKind.i64.wrap (Int.tmod (at' (0 : Int) R (↑x1.fst : Int)) (↑x : Int) + (↑x : Int))).tmod (↑x : Int)) (at' (0 : Int) L ((IntKind.i64.wrap (Int.tmod (at' (0 : Int) R (↑x1.fst : Int)) (↑x : Int) + (↑x : Int))).tmod (↑x : Int)))).snd) ∧ ((x'.snd.fst = x1.snd.fst.set ((IntKind.i64.wrap (Int.tmod (at' (0 : Int) R (↑x1.fst : Int)) (↑x : Int) + (↑x : Int))).tmod (↑x : Int)).toNat true) ∧ True)))))))))))))) | false => False) | false => False) | false => False) | false => False) | false => False) | false => False) | false => (∃ x' : Nat × List Bool × HS, (((x'.fst ≤ R.length + (↑x : Int).toNat) ∧ (FillOk L R.length (↑x : Int).toNat x'.fst x'.snd.fst x'.snd.snd)) ∧ ((R.length + (40 : Nat) - x'.fst < R.length + (40 : Nat) - x1.fst) ∧ ((True ∧ (True ∧ ((true = true) ∧ (True ∧ (True ∧ (((↑x : Int) = (↑x : Int)) ∧ (True ∧ (((↑x'.fst : Int) = IntKind.i64.wrap ((↑x1.fst : Int) + (1 : Int))) ∧ True)))))))) ∧ ((L = L) ∧ ((R = R) ∧ ((True ∧ (True ∧ (True ∧ True))) ∧ ((noThings = noThings) ∧ ((noPlaces = noPlaces) ∧ ((True ∧ (True ∧ (True ∧ True))) ∧ ((x'.snd.snd.fst = x1.snd.snd.fst) ∧ ((x'.snd.snd.snd = x1.snd.snd.snd) ∧ ((x'.snd.fst = x1.snd.fst) ∧ True)))))))))))))) | false => False) | false => False) | false => False) | false => (∃ x' : Nat × List Bool × HS, (((x'.fst ≤ R.length + (↑x : Int).toNat) ∧ (FillOk L R.length (↑x : Int).toNat x'.fst x'.snd.fst x'.snd.snd)) ∧ ((R.length + (40 : Nat) - x'.fst < R.length + (40 : Nat) - x1.fst) ∧ ((True ∧ (True ∧ ((true = true) ∧ (True ∧ (True ∧ (((↑x : Int) = (↑x : Int)) ∧ (True ∧ (((↑x'.fst : Int) = IntKind.i64.wrap ((↑x1.fst : Int) + (1 : Int))) ∧ True)))))))) ∧ ((L = L) ∧ ((R = R) ∧ ((True ∧ (True ∧ (True ∧ True))) ∧ ((noThings = noThings) ∧ ((noPlaces = noPlaces) ∧ ((True ∧ (True ∧ (True ∧ True))) ∧ ((x'.snd.snd.fst = x1.snd.snd.fst) ∧ ((x'.snd.snd.snd = x1.snd.snd.snd) ∧ ((x'.snd.fst = x1.snd.fst) ∧ True)))))))))))))) | false => False) | false => False) | false => False) | false => False) | false => (match (decide (IntKind.i64.wrap ((↑x1.fst : Int) - (↑R.length : Int)) ≥ (0 : Int))) with | true => (match (x1.snd.fst.length == (40 : Nat)) with | true => (match (inb (IntKind.i64.wrap ((↑x1.fst : Int) - (↑R.length : Int))) (40 : Nat)) with | true => (match (inb (IntKind.i64.wrap ((↑x1.fst : Int) - (↑R.length : Int))) x1.snd.fst.length) with | true => (match (!at' false x1.snd.fst (IntKind.i64.wrap ((↑x1.fst : Int) - (↑R.length : Int)))) with | true => (match (x1.snd.fst.length == (40 : Nat)) with | true => (match (inb (IntKind.i64.wrap ((↑x1.fst : Int) - (↑R.length : Int))) (40 : Nat)) with | true => (match (inb (IntKind.i64.wrap ((↑x1.fst : Int) - (↑R.length : Int))) x1.snd.fst.length) with | true => (match (inb (IntKind.i64.wrap ((↑x1.fst : Int) - (↑R.length : Int))) L.length) with | true => (match (inb (IntKind.i64.wrap ((↑x1.fst : Int) - (↑R.length : Int))) L.length) with | true => (match (decide (x1.snd.snd.fst.length ≤ (1000 : Nat))) with | true => (match (thereB (IntKind.i64.wrap ((↑x1.fst : Int) - (↑R.length : Int))) x1.snd.snd.snd) with | true => (∃ x' : Nat × List Bool × HS, (((x'.fst ≤ R.length + (↑x : Int).toNat) ∧ (FillOk L R.length (↑x : Int).toNat x'.fst x'.snd.fst x'.snd.snd)) ∧ ((R.length + (40 : Nat) - x'.fst < R.length + (40 : Nat) - x1.fst) ∧ ((True ∧ (True ∧ ((true = true) ∧ (True ∧ (True ∧ (((↑x : Int) = (↑x : Int)) ∧ (True ∧ (((↑x'.fst : Int) = IntKind.i64.wrap ((↑x1.fst : Int) + (1 : Int))) ∧ True)))))))) ∧ ((L = L) ∧ ((R = R) ∧ ((True ∧ (True ∧ (True ∧ True))) ∧ ((noThings = noThings) ∧ ((noPlaces = noPlaces) ∧ ((True ∧ (True ∧ (True ∧ True))) ∧ ((x'.snd.snd.fst = x1.snd.snd.fst) ∧ ((x'.snd.snd.snd = x1.snd.snd.snd) ∧ ((x'.snd.fst = x1.snd.fst.set (IntKind.i64.wrap ((↑x1.fst : Int) - (↑R.length : Int))).toNat true) ∧ True))))))))))))) | false => (∃ x' : Nat × List Bool × HS, (((x'.fst ≤ R.length + (↑x : Int).toNat) ∧ (FillOk L R.length (↑x : Int).toNat x'.fst x'.snd.fst x'.snd.snd)) ∧ ((R.length + (40 : Nat) - x'.fst < R.length + (40 : Nat) - x1.fst) ∧ ((True ∧ (True ∧ ((true = true) ∧ (True ∧ (True ∧ (((↑x : Int) = (↑x : Int)) ∧ (True ∧ (((↑x'.fst : Int) = IntKind.i64.wrap ((↑x1.fst : Int) + (1 : Int))) ∧ True)))))))) ∧ ((L = L) ∧ ((R = R) ∧ ((True ∧ (True ∧ (True ∧ True))) ∧ ((noThings = noThings) ∧ ((noPlaces = noPlaces) ∧ ((True ∧ (True ∧ (True ∧ True))) ∧ ((x'.snd.snd.fst = (pushH x1.snd.snd (IntKind.i64.wrap ((↑x1.fst : Int) - (↑R.length : Int))) (at' (0 : Int) L (IntKind.i64.wrap ((↑x1.fst : Int) - (↑R.length : Int))))).fst) ∧ ((x'.snd.snd.snd = (pushH x1.snd.snd (IntKind.i64.wrap ((↑x1.fst : Int) - (↑R.length : Int))) (at' (0 : Int) L (IntKind.i64.wrap ((↑x1.fst : Int) - (↑R.length : Int))))).snd) ∧ ((x'.snd.fst = x1.snd.fst.set (IntKind.i64.wrap ((↑x1.fst : Int) - (↑R.length : Int))).toNat true) ∧ True)))))))))))))) | false => False) | false => False) | false => False) | false => False) | false => False) | false => False) | false => (∃ x' : Nat × List Bool × HS, (((x'.fst ≤ R.length + (↑x : Int).toNat) ∧ (FillOk L R.length (↑x : Int).toNat x'.fst x'.snd.fst x'.snd.snd)) ∧ ((R.length + (40 : Nat) - x'.fst < R.length + (40 : Nat) - x1.fst) ∧ ((True ∧ (True ∧ ((true = true) ∧ (True ∧ (True ∧ (((↑x : Int) = (↑x : Int)) ∧ (True ∧ (((↑x'.fst : Int) = IntKind.i64.wrap ((↑x1.fst : Int) + (1 : Int))) ∧ True)))))))) ∧ ((L = L) ∧ ((R = R) ∧ ((True ∧ (True ∧ (True ∧ True))) ∧ ((noThings = noThings) ∧ ((noPlaces = noPlaces) ∧ ((True ∧ (True ∧ (True ∧ True))) ∧ ((x'.snd.snd.fst = x1.snd.snd.fst) ∧ ((x'.snd.snd.snd = x1.snd.snd.snd) ∧ ((x'.snd.fst = x1.snd.fst) ∧ True)))))))))))))) | false => False) | false => False) | false => False) | false => (∃ x' : Nat × List Bool × HS, (((x'.fst ≤ R.length + (↑x : Int).toNat) ∧ (FillOk L R.length (↑x : Int).toNat x'.fst x'.snd.fst x'.snd.snd)) ∧ ((R.length + (40 : Nat) - x'.fst < R.length + (40 : Nat) - x1.fst) ∧ ((True ∧ (True ∧ ((true = true) ∧ (True ∧ (True ∧ (((↑x : Int) = (↑x : Int)) ∧ (True ∧ (((↑x'.fst : Int) = IntKind.i64.wrap ((↑x1.fst : Int) + (1 : Int))) ∧ True)))))))) ∧ ((L = L) ∧ ((R = R) ∧ ((True ∧ (True ∧ (True ∧ True))) ∧ ((noThings = noThings) ∧ ((noPlaces = noPlaces) ∧ ((True ∧ (True ∧ (True ∧ True))) ∧ ((x'.snd.snd.fst = x1.snd.snd.fst) ∧ ((x'.snd.snd.snd = x1.snd.snd.snd) ∧ ((x'.snd.fst = x1.snd.fst) ∧ True))))))))))))))) | false => (match (decide (IntKind.i64.wrap ((↑x1.fst : Int) - (↑R.length : Int)) ≥ (0 : Int))) with | true => (match (x1.snd.fst.length == (40 : Nat)) with | true => (match (inb (IntKind.i64.wrap ((↑x1.fst : Int) - (↑R.length : Int))) (40 : Nat)) with | true => (match (inb (IntKind.i64.wrap ((↑x1.fst : Int) - (↑R.length : Int))) x1.snd.fst.length) with | true => (match (!at' false x1.snd.fst (IntKind.i64.wrap ((↑x1.fst : Int) - (↑R.length : Int)))) with | true => (match (x1.snd.fst.length == (40 : Nat)) with | true => (match (inb (IntKind.i64.wrap ((↑x1.fst : Int) - (↑R.length : Int))) (40 : Nat)) with | true => (match (inb (IntKind.i64.wrap ((↑x1.fst : Int) - (↑R.length : Int))) x1.snd.fst.length) with | true => (match (inb (IntKind.i64.wrap ((↑x1.fst : Int) - (↑R.length : Int))) L.length) with | true => (match (inb (IntKind.i64.wrap ((↑x1.fst : Int) - (↑R.length : Int))) L.length) with | true => (match (decide (x1.snd.snd.fst.length ≤ (1000 : Nat))) with | true => (match (thereB (IntKind.i64.wrap ((↑x1.fst : Int) - (↑R.length : Int))) x1.snd.snd.snd) with | true => (∃ x' : Nat × List Bool × HS, (((x'.fst ≤ R.length + (↑x : Int).toNat) ∧ (FillOk L R.length (↑x : Int).toNat x'.fst x'.snd.fst x'.snd.snd)) ∧ ((R.length + (40 : Nat) - x'.fst < R.length + (40 : Nat) - x1.fst) ∧ ((True ∧ (True ∧ ((true = true) ∧ (True ∧ (True ∧ (((↑x : Int) = (↑x : Int)) ∧ (True ∧ (((↑x'.fst : Int) = IntKind.i64.wrap ((↑x1.fst : Int) + (1 : Int))) ∧ True)))))))) ∧ ((L = L) ∧ ((R = R) ∧ ((True ∧ (True ∧ (True ∧ True))) ∧ ((noThings = noThings) ∧ ((noPlaces = noPlaces) ∧ ((True ∧ (True ∧ (True ∧ True))) ∧ ((x'.snd.snd.fst = x1.snd.snd.fst) ∧ ((x'.snd.snd.snd = x1.snd.snd.snd) ∧ ((x'.snd.fst = x1.snd.fst.set (IntKind.i64.wrap ((↑x1.fst : Int) - (↑R.length : Int))).toNat true) ∧ True))))))))))))) | false => (∃ x' : Nat × List Bool × HS, (((x'.fst ≤ R.length + (↑x : Int).toNat) ∧ (FillOk L R.length (↑x : Int).toNat x'.fst x'.snd.fst x'.snd.snd)) ∧ ((R.length + (40 : Nat) - x'.fst < R.length + (40 : Nat) - x1.fst) ∧ ((True ∧ (True ∧ ((true = true) ∧ (True ∧ (True ∧ (((↑x : Int) = (↑x : Int)) ∧ (True ∧ (((↑x'.fst : Int) = IntKind.i64.wrap ((↑x1.fst : Int) + (1 : Int))) ∧ True)))))))) ∧ ((L = L) ∧ ((R = R) ∧ ((True ∧ (True ∧ (True ∧ True))) ∧ ((noThings = noThings) ∧ ((noPlaces = noPlaces) ∧ ((True ∧ (True ∧ (True ∧ True))) ∧ ((x'.snd.snd.fst = (pushH x1.snd.snd (IntKind.i64.wrap ((↑x1.fst : Int) - (↑R.length : Int))) (at' (0 : Int) L (IntKind.i64.wrap ((↑x1.fst : Int) - (↑R.length : Int))))).fst) ∧ ((x'.snd.snd.snd = (pushH x1.snd.snd (IntKind.i64.wrap ((↑x1.fst : Int) - (↑R.length : Int))) (at' (0 : Int) L (IntKind.i64.wrap ((↑x1.fst : Int) - (↑R.length : Int))))).snd) ∧ ((x'.snd.fst = x1.snd.fst.set (IntKind.i64.wrap ((↑x1.fst : Int) - (↑R.length : Int))).toNat true) ∧ True)))))))))))))) | false => False) | false => False) | false => False) | false => False) | false => False) | false => False) | false => (∃ x' : Nat × List Bool × HS, (((x'.fst ≤ R.length + (↑x : Int).toNat) ∧ (FillOk L R.length (↑x : Int).toNat x'.fst x'.snd.fst x'.snd.snd)) ∧ ((R.length + (40 : Nat) - x'.fst < R.length + (40 : Nat) - x1.fst) ∧ ((True ∧ (True ∧ ((true = true) ∧ (True ∧ (True ∧ (((↑x : Int) = (↑x : Int)) ∧ (True ∧ (((↑x'.fst : Int) = IntKind.i64.wrap ((↑x1.fst : Int) + (1 : Int))) ∧ True)))))))) ∧ ((L = L) ∧ ((R = R) ∧ ((True ∧ (True ∧ (True ∧ True))) ∧ ((noThings = noThings) ∧ ((noPlaces = noPlaces) ∧ ((True ∧ (True ∧ (True ∧ True))) ∧ ((x'.snd.snd.fst = x1.snd.snd.fst) ∧ ((x'.snd.snd.snd = x1.snd.snd.snd) ∧ ((x'.snd.fst = x1.snd.fst) ∧ True)))))))))))))) | false => False) | false => False) | false => False) | false => (∃ x' : Nat × List Bool × HS, (((x'.fst ≤ R.length + (↑x : Int).toNat) ∧ (FillOk L R.length (↑x : Int).toNat x'.fst x'.snd.fst x'.snd.snd)) ∧ ((R.length + (40 : Nat) - x'.fst < R.length + (40 : Nat) - x1.fst) ∧ ((True ∧ (True ∧ ((true = true) ∧ (True ∧ (True ∧ (((↑x : Int) = (↑x : Int)) ∧ (True ∧ (((↑x'.fst : Int) = IntKind.i64.wrap ((↑x1.fst : Int) + (1 : Int))) ∧ True)))))))) ∧ ((L = L) ∧ ((R = R) ∧ ((True ∧ (True ∧ (True ∧ True))) ∧ ((noThings = noThings) ∧ ((noPlaces = noPlaces) ∧ ((True ∧ (True ∧ (True ∧ True))) ∧ ((x'.snd.snd.fst = x1.snd.snd.fst) ∧ ((x'.snd.snd.snd = x1.snd.snd.snd) ∧ ((x'.snd.fst = x1.snd.fst) ∧ True))))))))))))))) | false => ((∃ x2 : Nat × HS, (((x2.fst ≤ (↑x : Int).toNat) ∧ (HOk x2.snd (conts L x2.fst))) ∧ ((True ∧ (True ∧ ((true = true) ∧ (True ∧ (True ∧ (((↑x : Int) = (↑x : Int)) ∧ (True ∧ (((↑x2.fst : Int) = (0 : Int)) ∧ True)))))))) ∧ ((L = L) ∧ ((R = R) ∧ ((True ∧ (True ∧ (True ∧ True))) ∧ ((x2.snd.fst = noThings) ∧ ((x2.snd.snd = noPlaces) ∧ ((True ∧ (True ∧ (True ∧ True))) ∧ ((x1.snd.snd.fst = x1.snd.snd.fst) ∧ ((x1.snd.snd.snd = x1.snd.snd.snd) ∧ ((x1.snd.fst = x1.snd.fst) ∧ True)))))))))))) ∧ (∀ x2 : Nat × HS, (((x2.fst ≤ (↑x : Int).toNat) ∧ (HOk x2.snd (conts L x2.fst))) → (match (decide ((↑x2.fst : Int) < (↑x : Int))) with | true => (match (inb (↑x2.fst : Int) L.length) with | true => (match (inb (↑x2.fst : Int) L.length) with | true => (match (decide (x2.snd.fst.length ≤ (1000 : Nat))) with | true => (match (thereB (↑x2.fst : Int) x2.snd.snd) with | true => (((true = false) ∧ True) ∧ ((L = L) ∧ ((R = R) ∧ True))) | false => (match (decide ((pushH x2.snd (↑x2.fst : Int) (at' (0 : Int) L (↑x2.fst : Int))).fst.length ≤ (1000 : Nat))) with | true => (match (thereB (↑x2.fst : Int) (pushH x2.snd (↑x2.fst : Int) (at' (0 : Int) L (↑x2.fst : Int))).snd) with | true => (∃ x' : Nat × HS, (((x'.fst ≤ (↑x : Int).toNat) ∧ (HOk x'.snd (conts L x'.fst))) ∧ (((40 : Nat) - x'.fst < (40 : Nat) - x2.fst) ∧ ((True ∧ (True ∧ ((true = true) ∧ (True ∧ (True ∧ (((↑x : Int) = (↑x : Int)) ∧ (True ∧ (((↑x'.fst : Int) = IntKind.i64.wrap ((↑x2.fst : Int) + (1 : Int))) ∧ True)))))))) ∧ ((L = L) ∧ ((R = R) ∧ ((True ∧ (True ∧ (True ∧ True))) ∧ ((x'.snd.fst = (pushH x2.snd (↑x2.fst : Int) (at' (0 : Int) L (↑x2.fst : Int))).fst) ∧ ((x'.snd.snd = (pushH x2.snd (↑x2.fst : Int) (at' (0 : Int) L (↑x2.fst : Int))).snd) ∧ ((True ∧ (True ∧ (True ∧ True))) ∧ ((x1.snd.snd.fst = x1.snd.snd.fst) ∧ ((x1.snd.snd.snd = x1.snd.snd.snd) ∧ ((x1.snd.fst = x1.snd.fst) ∧ True))))))))))))) | false => (((true = false) ∧ True) ∧ ((L = L) ∧ ((R = R) ∧ True)))) | false => False)) | false => False) | false => False) | false => False) | false => ((∃ x3 : Nat × Int × Int × HS × HS, (((x3.fst + x3.snd.snd.snd.fst.fst.length = (↑x : Int).toNat) ∧ (SortOk L (↑x : Int).toNat x3.snd.fst x3.snd.snd.fst x3.snd.snd.snd.fst x3.snd.snd.snd.snd)) ∧ ((True ∧ (True ∧ ((true = true) ∧ (True ∧ (True ∧ (((↑x : Int) = (↑x : Int)) ∧ (True ∧ ((x3.snd.fst = (-1 : Int)) ∧ ((x3.snd.snd.fst = (-1 : Int)) ∧ (((↑x3.fst : Int) = (0 : Int)) ∧ True)))))))))) ∧ ((L = L) ∧ ((R = R) ∧ ((True ∧ (True ∧ (True ∧ True))) ∧ ((x3.snd.snd.snd.fst.fst = x2.snd.fst) ∧ ((x3.snd.snd.snd.fst.snd = x2.snd.snd) ∧ ((True ∧ (True ∧ (True ∧ True))) ∧ ((x3.snd.snd.snd.snd.fst = x1.snd.snd.fst) ∧ ((x3.snd.snd.snd.snd.snd = x1.snd.snd.snd) ∧ ((x1.snd.fst = x1.snd.fst) ∧ True)))))))))))) ∧ (∀ x3 : Nat × Int × Int × HS × HS, (((x3.fst + x3.snd.snd.snd.fst.fst.length = (↑x : Int).toNat) ∧ (SortOk L (↑x : Int).toNat x3.snd.fst x3.snd.snd.fst x3.snd.snd.snd.fst x3.snd.snd.snd.snd)) → (match (decide ((↑x3.fst : Int) < (↑x : Int))) with | true => (match (decide (x3.snd.snd.snd.fst.fst.length ≤ (1000 : Nat))) with | true => (match (x3.snd.snd.snd.fst.fst.length == (0 : Nat)) with | true => (match (decide (x3.snd.snd.snd.snd.fst.length ≤ (1000 : Nat))) with | true => (match (x3.snd.snd.snd.snd.fst.length == (0 : Nat)) with | true => (((true = false) ∧ True) ∧ ((L = L) ∧ ((R = R) ∧ True))) | false => (((true = false) ∧ True) ∧ ((L = L) ∧ ((R = R) ∧ True)))) | false => False) | false => (match (decide (x3.snd.snd.snd.snd.fst.length ≤ (1000 : Nat))) with | true => (match (x3.snd.snd.snd.snd.fst.length == (0 : Nat)) with | true => (((true = false) ∧ True) ∧ ((L = L) ∧ ((R = R) ∧ True))) | false => (match ((at' tz x3.snd.snd.snd.fst.fst (0 : Int)).Id != (at' tz x3.snd.snd.snd.snd.fst (0 : Int)).Id) with | true => (((true = false) ∧ True) ∧ ((L = L) ∧ ((R = R) ∧ True))) | false => (match ((at' tz x3.snd.snd.snd.fst.fst (0 : Int)).X != (at' tz x3.snd.snd.snd.snd.fst (0 : Int)).X) with | true => (((true = false) ∧ True) ∧ ((L = L) ∧ ((R = R) ∧ True))) | false => (match (decide ((at' tz x3.snd.snd.snd.fst.fst (0 : Int)).Id < (0 : Int))) with | true => (((true = false) ∧ True) ∧ ((L = L) ∧ ((R = R) ∧ True))) | false => (match (decide ((at' tz x3.snd.snd.snd.fst.fst (0 : Int)).Id ≥ (↑x : Int))) with | true => (((true = false) ∧ True) ∧ ((L = L) ∧ ((R = R) ∧ True))) | false => (match (inb (at' tz x3.snd.snd.snd.fst.fst (0 : Int)).Id L.length) with | true => (match (inb (at' tz x3.snd.snd.snd.fst.fst (0 : Int)).Id L.length) with | true => (match (at' (0 : Int) L (at' tz x3.snd.snd.snd.fst.fst (0 : Int)).Id != (at' tz x3.snd.snd.snd.fst.fst (0 : Int)).X) with | true => (((true = false) ∧ True) ∧ ((L = L) ∧ ((R = R) ∧ True))) | false => (match (decide (bits BinOp.and IntKind.i64 (at' tz x3.snd.snd.snd.fst.fst (0 : Int)).X (15 : Int) < x3.snd.fst)) with | true => (((true = false) ∧ True) ∧ ((L = L) ∧ ((R = R) ∧ True))) | false => (match (bits BinOp.and IntKind.i64 (at' tz x3.snd.snd.snd.fst.fst (0 : Int)).X (15 : Int) == x3.snd.fst) with | true => (match (decide ((at' tz x3.snd.snd.snd.fst.fst (0 : Int)).Id ≤ x3.snd.snd.fst)) with | true => (((true = false) ∧ True) ∧ ((L = L) ∧ ((R = R) ∧ True))) | false => (∃ x' : Nat × Int × Int × HS × HS, (((x'.fst + x'.snd.snd.snd.fst.fst.length = (↑x : Int).toNat) ∧ (SortOk L (↑x : Int).toNat x'.snd.fst x'.snd.snd.fst x'.snd.snd.snd.fst x'.snd.snd.snd.snd)) ∧ ((x'.snd.snd.snd.fst.fst.length < x3.snd.snd.snd.fst.fst.length) ∧ ((True ∧ (True ∧ ((true = true) ∧ (True ∧ (True ∧ (((↑x : Int) = (↑x : Int)) ∧ (True ∧ ((x'.snd.fst = bits BinOp.and IntKind.i64 (at' tz x3.snd.snd.snd.fst.fst (0 : Int)).X (15 : Int)) ∧ ((x'.snd.snd.fst = (at' tz x3.snd.snd.snd.fst.fst (0 : Int)).Id) ∧ (((↑x'.fst : Int) = IntKind.i64.wrap ((↑x3.fst : Int) + (1 : Int))) ∧ True)))))))))) ∧ ((L = L) ∧ ((R = R) ∧ ((True ∧ (True ∧ (True ∧ True))) ∧ ((x'.snd.snd.snd.fst.fst = (takeH x3.snd.snd.snd.fst (0 : Nat)).fst) ∧ ((x'.snd.snd.snd.fst.snd = (takeH x3.snd.snd.snd.fst (0 : Nat)).snd) ∧ ((True ∧ (True ∧ (True ∧ True))) ∧ ((x'.snd.snd.snd.snd.fst = (takeH x3.snd.snd.snd.snd (0 : Nat)).fst) ∧ ((x'.snd.snd.snd.snd.snd = (takeH x3.snd.snd.snd.snd (0 : Nat)).snd) ∧ ((x1.snd.fst = x1.snd.fst) ∧ True)))))))))))))) | false => (∃ x' : Nat × Int × Int × HS × HS, (((x'.fst + x'.snd.snd.snd.fst.fst.length = (↑x : Int).toNat) ∧ (SortOk L (↑x : Int).toNat x'.snd.fst x'.snd.snd.fst x'.snd.snd.snd.fst x'.snd.snd.snd.snd)) ∧ ((x'.snd.snd.snd.fst.fst.length < x3.snd.snd.snd.fst.fst.length) ∧ ((True ∧ (True ∧ ((true = true) ∧ (True ∧ (True ∧ (((↑x : Int) = (↑x : Int)) ∧ (True ∧ ((x'.snd.fst = bits BinOp.and IntKind.i64 (at' tz x3.snd.snd.snd.fst.fst (0 : Int)).X (15 : Int)) ∧ ((x'.snd.snd.fst = (at' tz x3.snd.snd.snd.fst.fst (0 : Int)).Id) ∧ (((↑x'.fst : Int) = IntKind.i64.wrap ((↑x3.fst : Int) + (1 : Int))) ∧ True)))))))))) ∧ ((L = L) ∧ ((R = R) ∧ ((True ∧ (True ∧ (True ∧ True))) ∧ ((x'.snd.snd.snd.fst.fst = (takeH x3.snd.snd.snd.fst (0 : Nat)).fst) ∧ ((x'.snd.snd.snd.fst.snd = (takeH x3.snd.snd.snd.fst (0 : Nat)).snd) ∧ ((True ∧ (True ∧ (True ∧ True))) ∧ ((x'.snd.snd.snd.snd.fst = (takeH x3.snd.snd.snd.snd (0 : Nat)).fst) ∧ ((x'.snd.snd.snd.snd.snd = (takeH x3.snd.snd.snd.snd (0 : Nat)).snd) ∧ ((x1.snd.fst = x1.snd.fst) ∧ True)))))))))))))))) | false => False) | false => False)))))) | false => False)) | false => False) | false => (match (decide (x3.snd.snd.snd.fst.fst.length ≤ (1000 : Nat))) with | true => (match (x3.snd.snd.snd.fst.fst.length == (0 : Nat)) with | true => (match ((↑x3.snd.snd.snd.fst.fst.length : Int) == (0 : Int)) with | true => (((true = ((↑x3.snd.snd.snd.snd.fst.length : Int) == (0 : Int))) ∧ True) ∧ ((L = L) ∧ ((R = R) ∧ True))) | false => (((true = false) ∧ True) ∧ ((L = L) ∧ ((R = R) ∧ True)))) | false => (((true = false) ∧ True) ∧ ((L = L) ∧ ((R = R) ∧ True)))) | false => False))))))))))))))))
theorem law07HeapSortsVc (L R : List Int) : fnX { X13 with con := conOf tab9 } ({ (annOf (T := T) (O := O) [(11, { σ := Nat × List Bool × HS, st := fun S x => ((((S.keep [0, 1, 5, 6, 7, 8, 9]).int 10 x.1).at' 9 (.arr 1 x.2.1 27)).atF 7 1 (.vec 2 x.2.2.1 57)).atF 7 2 (.map 0 x.2.2.2), inv := fun S x => x.1 ≤ R.length + (S.gi 8).toNat ∧ FillOk L R.length (S.gi 8).toNat x.1 x.2.1 x.2.2, m := fun x => R.length + 40 - x.1 }),
  (20, { σ := Nat × HS, st := fun S x => (((S.keep [0, 1, 5, 6, 7, 8, 9]).int 12 x.1).atF 6 1 (.vec 2 x.2.1 57)).atF 6 2 (.map 0 x.2.2), inv := fun S x => x.1 ≤ (S.gi 8).toNat ∧ HOk x.2 (conts L x.1), m := fun x => 40 - x.1 }),
  (27, { σ := Nat × Int × Int × HS × HS, st := fun S x => (((((((S.keep [0, 1, 5, 6, 7, 8, 9]).int 15 x.1).int 13 x.2.1).int 14 x.2.2.1).atF 6 1 (.vec 2 x.2.2.2.1.1 57)).atF 6 2 (.map 0 x.2.2.2.1.2)).atF 7 1 (.vec 2 x.2.2.2.2.1 57)).atF 7 2 (.map 0 x.2.2.2.2.2), inv := fun S x => x.1 + x.2.2.2.1.1.length = (S.gi 8).toNat ∧ SortOk L (S.gi 8).toNat x.2.1 x.2.2.1 x.2.2.2.1 x.2.2.2.2, m := fun x => x.2.2.2.1.1.length })] [] : Ann T O) with
  join := fun i => match decide (i = 9) with
    | true => some { σ := Nat, st := fun S x => (S.keep [0, 1, 5, 6, 7]).int 8 x, inv := fun x => x ≤ 40 ∧ x ≤ L.length }
    | false => none }) Try.f3 [.own 0, .own 1] [.ro 0 L, .ro 0 R] (ends [.ro 0 L, .ro 0 R] ⟨some (.raw (.bool true)), []⟩) = law07HeapSortsText L R := by kernel_rfl
theorem law07HeapSortsHolds (L R : List Int) (hp : R.length ≤ 140737488355328) : law07HeapSortsText L R := by
  unfold law07HeapSortsText
  refine ⟨?_, ?_⟩
  · cases h : decide ((L.length : Int) > (40 : Int))
    · have h : ¬ (L.length : Int) > 40 := of_decide_eq_false h
      exact ⟨L.length, ⟨by omega, Nat.le_refl _⟩, by repeat' first | exact trivial | trivial | rfl | apply And.intro⟩
    · have h : (L.length : Int) > 40 := of_decide_eq_true h
      exact ⟨40, ⟨Nat.le_refl _, by omega⟩, by repeat' first | exact trivial | trivial | rfl | apply And.intro⟩
  rintro n ⟨hn40, hnl⟩
  rw [Int.toNat_natCast]
  refine ⟨⟨(0, used0, noThings, noPlaces), ⟨Nat.zero_le _, FillOk.start L R.length n⟩, by repeat' first | exact trivial | trivial | rfl | apply And.intro⟩, ?_⟩
  rintro ⟨i, U, L1, M1⟩ ⟨hi, hF⟩
  dsimp only at hi hF ⊢
  have hsm := hF.small
  dsimp only at hsm
  rw [show IntKind.i64.wrap ((R.length : Int) + (n : Int)) = ((R.length + n : Nat) : Int) by rw [wrap_id (by omega) (by omega)]; rfl]
  by_cases h : i < R.length + n
  · have hw : ((i + 1 : Nat) : Int) = IntKind.i64.wrap ((i : Int) + (1 : Int)) := by rw [wrap_id (by omega) (by omega)]; rfl
    rw [show decide ((i : Int) < ((R.length + n : Nat) : Int)) = true from decide_eq_true (by omega)]
    by_cases h1 : i < R.length
    · rw [dec_lt h1]
      by_cases h2 : 0 < n
      · rw [show decide ((n : Int) > (0 : Int)) = true from decide_eq_true (by omega), inb_nat h1, show ((n : Int) != (0 : Int)) = true by rw [bne_iff_ne]; omega]
        obtain ⟨k, hk, hkn⟩ : ∃ k : Nat, (IntKind.i64.wrap ((at' (0 : Int) R (i : Int)).tmod (n : Int) + (n : Int))).tmod (n : Int) = k ∧ k < n := by
          have a1 := Int.tmod_lt_of_pos (at' (0 : Int) R (i : Int)) (b := (n : Int)) (by omega)
          have a2 := Int.lt_tmod_of_pos (at' (0 : Int) R (i : Int)) (b := (n : Int)) (by omega)
          rw [wrap_id (by omega) (by omega)]
          have b1 := Int.tmod_nonneg (n : Int) (a := (at' (0 : Int) R (i : Int)).tmod (n : Int) + (n : Int)) (by omega)
          have b2 := Int.tmod_lt_of_pos ((at' (0 : Int) R (i : Int)).tmod (n : Int) + (n : Int)) (b := (n : Int)) (by omega)
          exact ⟨_, (Int.toNat_of_nonneg b1).symm, by omega⟩
        rw [hk]
        rw [show decide ((k : Int) ≥ (0 : Int)) = true from decide_eq_true (by omega), show (U.length == (40 : Nat)) = true by rw [hsm.2]; rfl, show inb (k : Int) (40 : Nat) = true from inb_nat (by omega), show inb (k : Int) U.length = true from inb_nat (by omega)]
        cases hu : at' false U (k : Int)
        · obtain ⟨hno, hadd⟩ := hF.add hkn hn40 hu
          rw [inb_nat (show k < L.length by omega), show decide (L1.length ≤ (1000 : Nat)) = true from decide_eq_true (by omega), hno]
          refine ⟨(i + 1, U.set k true, pushH (L1, M1) k (at' 0 L (k : Int))), ⟨by dsimp only; omega, hadd.next fun j hj hji => ?_⟩, by dsimp only; omega, by repeat' first | exact hw | trivial | rfl | apply And.intro⟩
          rw [at_set U k j (by omega)]
          omega
        · refine ⟨(i + 1, U, L1, M1), ⟨by dsimp only; omega, hF.next fun j hj hji => ?_⟩, by dsimp only; omega, by repeat' first | exact hw | trivial | rfl | apply And.intro⟩
          omega
      · rw [show decide ((n : Int) > (0 : Int)) = false from decide_eq_false (by omega), show decide (IntKind.i64.wrap ((i : Int) - (R.length : Int)) ≥ (0 : Int)) = false from decide_eq_false (by rw [wrap_id (by omega) (by omega)]; omega)]
        exact ⟨(i + 1, U, L1, M1), ⟨by dsimp only; omega, hF.next fun j hj _ => by omega⟩, by dsimp only; omega, by repeat' first | exact hw | trivial | rfl | apply And.intro⟩
    · rw [dec_ge (by omega)]
      obtain ⟨k, hk⟩ : ∃ k : Nat, i = R.length + k := ⟨i - R.length, by omega⟩
      have hkn : k < n := by omega
      rw [show IntKind.i64.wrap ((i : Int) - (R.length : Int)) = (k : Int) by rw [wrap_id (by omega) (by omega)]; omega]
      rw [show decide ((k : Int) ≥ (0 : Int)) = true from decide_eq_true (by omega), show (U.length == (40 : Nat)) = true by rw [hsm.2]; rfl, show inb (k : Int) (40 : Nat) = true from inb_nat (by omega), show inb (k : Int) U.length = true from inb_nat (by omega)]
      cases hu : at' false U (k : Int)
      · obtain ⟨hno, hadd⟩ := hF.add hkn hn40 hu
        rw [inb_nat (show k < L.length by omega), show decide (L1.length ≤ (1000 : Nat)) = true from decide_eq_true (by omega), hno]
        refine ⟨(i + 1, U.set k true, pushH (L1, M1) k (at' 0 L (k : Int))), ⟨by dsimp only; omega, hadd.next fun j hj hji => ?_⟩, by dsimp only; omega, by repeat' first | exact hw | trivial | rfl | apply And.intro⟩
        rw [at_set U k j (by omega)]
        rw [if_pos (by omega)]
      · refine ⟨(i + 1, U, L1, M1), ⟨by dsimp only; omega, hF.next fun j hj hji => ?_⟩, by dsimp only; omega, by repeat' first | exact hw | trivial | rfl | apply And.intro⟩
        have e : j = k := by omega
        subst e
        exact hu
  · have e : i = R.length + n := by omega
    subst e
    rw [show decide (((R.length + n : Nat) : Int) < ((R.length + n : Nat) : Int)) = false from decide_eq_false (by omega)]
    obtain ⟨C2, g1, g2, g3, g4, g5⟩ := hF.ex
    have gC : HOk (L1, M1) (conts L n) ∨ True := .inr trivial
    clear gC
    have gm : ∀ a, a ∈ conts L n ↔ a ∈ C2 := fun a => by
      rw [g4 a]
      constructor
      · intro ha
        obtain ⟨k, hk, rfl⟩ := conts_of L n a ha
        exact ⟨k, hk, rfl, g5 k hk (by omega)⟩
      · rintro ⟨k, hk, rfl, _⟩
        exact conts_mem L n k hk
    refine ⟨⟨(0, noThings, noPlaces), ⟨Nat.zero_le _, HOk.new⟩, by repeat' first | exact trivial | trivial | rfl | apply And.intro⟩, ?_⟩
    rintro ⟨y, L2, M2⟩ ⟨hy, hs⟩
    dsimp only at hy hs ⊢
    have hl2 : L2.length = y := hs.len.trans (conts_length L y)
    by_cases h2 : y < n
    · have hno : thereB (y : Int) M2 = false := hs.notThere (conts_ne L y)
      have hp2 : HOk (pushH (L2, M2) (y : Int) (at' 0 L (y : Int))) (conts L (y + 1)) := hs.push hno
      have hw : ((y + 1 : Nat) : Int) = IntKind.i64.wrap ((y : Int) + (1 : Int)) := by rw [wrap_id (by omega) (by omega)]; rfl
      rw [show decide ((y : Int) < (n : Int)) = true from decide_eq_true (by omega), inb_nat (show y < L.length by omega), show decide (L2.length ≤ (1000 : Nat)) = true from decide_eq_true (by omega), hno]
      generalize pushH (L2, M2) (y : Int) (at' (0 : Int) L (y : Int)) = s3 at hp2 ⊢
      obtain ⟨L3, M3⟩ := s3
      dsimp only
      have hl3 : L3.length = y + 1 := hp2.len.trans (conts_length L (y + 1))
      rw [show decide (L3.length ≤ (1000 : Nat)) = true from decide_eq_true (by omega), show thereB (y : Int) M3 = true from (hp2.there y).2 ⟨_, conts_mem L (y + 1) y (Nat.lt_succ_self y), rfl⟩]
      exact ⟨(y + 1, L3, M3), ⟨h2, hp2⟩, by dsimp only; omega, by repeat' first | exact hw | trivial | rfl | apply And.intro⟩
    · have e : y = n := by omega
      subst e
      rw [show decide ((y : Int) < (y : Int)) = false from decide_eq_false (by omega)]
      have hg : HOk (L1, M1) (conts L y) := same_perm hs g1 gm
      have hR : ∀ a ∈ conts L y, (∃ k : Nat, k < y ∧ a = ⟨k, at' 0 L (k : Int)⟩) ∧ ((-1 : Int) < a.X % 16 ∨ (-1 : Int) = a.X % 16 ∧ (-1 : Int) < a.Id) := by
        intro a ha
        refine ⟨conts_of L y a ha, .inl ?_⟩
        have := Int.emod_nonneg a.X (b := 16) (by omega)
        omega
      refine ⟨⟨(0, -1, -1, (L2, M2), (L1, M1)), ⟨by dsimp only; omega, ⟨conts L y, hs, hg, hR⟩⟩, by repeat' first | exact trivial | trivial | rfl | apply And.intro⟩, ?_⟩
      clear hg hR gm g4 g5 g1 hs
      rintro ⟨z, last, lat, ⟨L3, M3⟩, ⟨L4, M4⟩⟩ ⟨hz, hS⟩
      dsimp only at hz hS ⊢
      obtain ⟨C, c1, c2, c3⟩ := hS.ex
      have l3 : L3.length = C.length := c1.len
      have l4 : L4.length = C.length := c2.len
      by_cases h3 : z < y
      · have hl0 : 0 < L3.length := by omega
        obtain ⟨m1, m2⟩ := c1.min hl0
        obtain ⟨n1, n2⟩ := c2.min (show 0 < (L4, M4).1.length by dsimp only; omega)
        have eid := le_both (m2 _ n1) (n2 _ m1)
        have emn : at' tz L3 (0 : Int) = at' tz L4 (0 : Int) := c1.one m1 n1 eid
        have m1 : at' tz L3 (0 : Int) ∈ C := m1
        obtain ⟨⟨k, hk, hka⟩, hlast⟩ := c3 _ m1
        obtain ⟨D1, d1, d2, d3⟩ := c1.take' hl0
        obtain ⟨D2, e1, e2, e3⟩ := c2.take' (show 0 < (L4, M4).1.length by dsimp only; omega)
        have hw : ((z + 1 : Nat) : Int) = IntKind.i64.wrap ((z : Int) + (1 : Int)) := by rw [wrap_id (by omega) (by omega)]; rfl
        have hg2 : HOk (takeH (L4, M4) 0) D1 := same_perm d1 e1 fun a => by
          rw [d2 a, e2 a]
          rw [show (gN (L3, M3).1 0).Id = (gN (L4, M4).1 0).Id from eid]
        have hid : (at' tz L3 (0 : Int)).Id = (k : Int) := by rw [hka]
        have hx : (at' tz L3 (0 : Int)).X = at' 0 L (k : Int) := by rw [hka]
        have hS2 : SortOk L y (bits .and .i64 (at' 0 L (k : Int)) 15) (k : Int) (takeH (L3, M3) 0) (takeH (L4, M4) 0) := by
          refine ⟨D1, d1, hg2, fun a ha => ?_⟩
          obtain ⟨a1, a2⟩ := (d2 a).1 ha
          refine ⟨(c3 a a1).1, ?_⟩
          have a3 : le' (at' tz L3 (0 : Int)) a := m2 a a1
          have a2 : a.Id ≠ (at' tz L3 (0 : Int)).Id := a2
          unfold le' kx at a3
          rw [hid] at a2
          rw [hid, hx] at a3
          rw [and15]
          clear c3 d2 e2 m2 n2
          omega
        have hdl : (takeH (L3, M3) 0).1.length = D1.length := d1.len
        rw [hid, hx] at hlast
        rw [show decide ((z : Int) < (y : Int)) = true from decide_eq_true (by omega), show decide (L3.length ≤ (1000 : Nat)) = true from decide_eq_true (by omega), show decide (L4.length ≤ (1000 : Nat)) = true from decide_eq_true (by omega), show (L3.length == (0 : Nat)) = false by rw [beq_eq_false_iff_ne]; omega, show (L4.length == (0 : Nat)) = false by rw [beq_eq_false_iff_ne]; omega, ← emn, hid, hx, bne_self_eq_false, bne_self_eq_false]
        rw [show decide ((k : Int) < (0 : Int)) = false from decide_eq_false (by omega), show decide ((k : Int) ≥ (y : Int)) = false from decide_eq_false (by omega), inb_nat (show k < L.length by omega)]
        rw [show decide (bits .and .i64 (at' (0 : Int) L (k : Int)) (15 : Int) < last) = false from decide_eq_false (by rw [and15]; omega)]
        cases hq : bits .and .i64 (at' (0 : Int) L (k : Int)) 15 == last
        · exact ⟨(z + 1, _, _, takeH (L3, M3) 0, takeH (L4, M4) 0), ⟨by dsimp only; omega, hS2⟩, by dsimp only; omega, by repeat' first | exact hw | trivial | rfl | apply And.intro⟩
        · have hq : at' (0 : Int) L (k : Int) % 16 = last := by rw [← and15]; simpa using hq
          rw [show decide ((k : Int) ≤ lat) = false from decide_eq_false (by omega)]
          exact ⟨(z + 1, _, _, takeH (L3, M3) 0, takeH (L4, M4) 0), ⟨by dsimp only; omega, hS2⟩, by dsimp only; omega, by repeat' first | exact hw | trivial | rfl | apply And.intro⟩
      · rw [show decide ((z : Int) < (y : Int)) = false from decide_eq_false (by omega), show decide (L3.length ≤ (1000 : Nat)) = true from decide_eq_true (by omega), show (L3.length == (0 : Nat)) = true by rw [beq_iff_eq]; omega, show ((L3.length : Int) == (0 : Int)) = true by rw [beq_iff_eq]; omega, show ((L4.length : Int) == (0 : Int)) = true by rw [beq_iff_eq]; omega]
        repeat' first | exact trivial | trivial | rfl | apply And.intro
noncomputable def law07HeapSortsCon : Con T O := fun args cs => match args, cs with
  | [.own 0, .own 1], [.ro 0 _, .ro 0 R] => chk (decide (R.length ≤ 140737488355328)) (.ret ⟨some (.raw (.bool true)), []⟩)
  | _, _ => .fail
theorem law07HeapSortsOk : ConOk R Try.prog 3 law07HeapSortsCon := con_of_fn R ({ X13 with con := conOf tab9 }) (TabOk.con R X9Ok) mixed Try.call3 Try.func3 law07HeapSortsCon (by
  intro args cs K h
  unfold law07HeapSortsCon at h
  split at h
  · rename_i L R
    rw [Tree.holds_chk] at h
    obtain ⟨hp, h⟩ := h
    refine ⟨{ (annOf (T := T) (O := O) [(11, { σ := Nat × List Bool × HS, st := fun S x => ((((S.keep [0, 1, 5, 6, 7, 8, 9]).int 10 x.1).at' 9 (.arr 1 x.2.1 27)).atF 7 1 (.vec 2 x.2.2.1 57)).atF 7 2 (.map 0 x.2.2.2), inv := fun S x => x.1 ≤ R.length + (S.gi 8).toNat ∧ FillOk L R.length (S.gi 8).toNat x.1 x.2.1 x.2.2, m := fun x => R.length + 40 - x.1 }),
  (20, { σ := Nat × HS, st := fun S x => (((S.keep [0, 1, 5, 6, 7, 8, 9]).int 12 x.1).atF 6 1 (.vec 2 x.2.1 57)).atF 6 2 (.map 0 x.2.2), inv := fun S x => x.1 ≤ (S.gi 8).toNat ∧ HOk x.2 (conts L x.1), m := fun x => 40 - x.1 }),
  (27, { σ := Nat × Int × Int × HS × HS, st := fun S x => (((((((S.keep [0, 1, 5, 6, 7, 8, 9]).int 15 x.1).int 13 x.2.1).int 14 x.2.2.1).atF 6 1 (.vec 2 x.2.2.2.1.1 57)).atF 6 2 (.map 0 x.2.2.2.1.2)).atF 7 1 (.vec 2 x.2.2.2.2.1 57)).atF 7 2 (.map 0 x.2.2.2.2.2), inv := fun S x => x.1 + x.2.2.2.1.1.length = (S.gi 8).toNat ∧ SortOk L (S.gi 8).toNat x.2.1 x.2.2.1 x.2.2.2.1 x.2.2.2.2, m := fun x => x.2.2.2.1.1.length })] [] : Ann T O) with
  join := fun i => match decide (i = 9) with
    | true => some { σ := Nat, st := fun S x => (S.keep [0, 1, 5, 6, 7]).int 8 x, inv := fun x => x ≤ 40 ∧ x ≤ L.length }
    | false => none }, _, fun v S hv => ⟨_, h, hv⟩, ?_⟩
    rw [law07HeapSortsVc L R]
    exact law07HeapSortsHolds L R (of_decide_eq_true hp)
  · exact h.elim)
noncomputable def tab14 : Tab T O := (3, law07HeapSortsCon) :: tab13
theorem tabOk14 : TabOk R Try.prog tab14 := TabOk.cons R law07HeapSortsOk <| tabOk13
noncomputable def X14 : Ctx T O := { X0 with con := conOf tab14 }
theorem X14Ok : TabOk R X14.P tab14 := tabOk14
end Go.Proofs.Ytdnndahaeammcaa
