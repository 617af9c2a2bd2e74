/-
  Part of a proof over the seat Ytdnndahaeammcaa: printed by a small program or typed by hand.
-/
import Derived.Test.YtdnndahaeammcaaHeapS8
import Derived.KernelRfl
namespace Go.Proofs.Ytdnndahaeammcaa
open Go.Sx Go.Proofs Classical

theorem HOk.nodup {s : HS} {C : List Thing} (h : HOk s C) : C.Nodup := by
  refine h.perm.nodup_iff.1 ?_
  rw [List.nodup_iff_pairwise_ne, List.pairwise_iff_getElem]
  intro i j hi hj hij e
  have := h.map.inj hi hj (by rw [gN_at hi, gN_at hj, e])
  omega
theorem HOk.take' {s : HS} {C : List Thing} (h : HOk s C) {i : Nat} (hi : i < s.1.length) : ∃ C', HOk (takeH s i) C' ∧ (∀ a, a ∈ C' ↔ a ∈ C ∧ a.Id ≠ (gN s.1 i).Id) ∧ C.length = C'.length + 1 := by
  obtain ⟨C', hp, hk⟩ := h.take hi
  have hnd := hp.nodup_iff.1 h.nodup
  rw [List.nodup_cons] at hnd
  have hg : gN s.1 i ∈ C := hp.mem_iff.2 (by simp)
  refine ⟨C', hk, fun a => ⟨fun ha => ?_, fun ⟨ha, hne⟩ => ?_⟩, hp.length_eq⟩
  · have ha2 : a ∈ C := hp.mem_iff.2 (by simp [ha])
    refine ⟨ha2, fun e => ?_⟩
    have := h.one ha2 hg e
    subst this
    exact hnd.1 ha
  · have := hp.mem_iff.1 ha
    rw [List.mem_cons] at this
    rcases this with e | h2
    · exact absurd (by rw [e]) hne
    · exact h2
/-- which ones were taken out by then -/
def gone (B : List Bool) (i k : Nat) : Prop := k < i ∧ k < B.length ∧ at' false B (k : Int) = true
def Left (L : List Int) (B : List Bool) (n i : Nat) (C : List Thing) : Prop := ∀ a, a ∈ C ↔ ∃ k : Nat, k < n ∧ a = ⟨k, at' 0 L (k : Int)⟩ ∧ ¬ gone B i k
def Rest (L : List Int) (B : List Bool) (n : Nat) (last : Int) (C : List Thing) : Prop := ∀ a ∈ C, (∃ k : Nat, k < n ∧ a = ⟨k, at' 0 L (k : Int)⟩ ∧ ¬ (k < B.length ∧ at' false B (k : Int) = true)) ∧ last ≤ a.X % 16
structure LeftOk (L : List Int) (B : List Bool) (n i : Nat) (s : HS) : Prop where
  ex : ∃ C, HOk s C ∧ C.length ≤ n ∧ Left L B n i C
structure RestOk (L : List Int) (B : List Bool) (n : Nat) (last : Int) (s : HS) : Prop where
  ex : ∃ C, HOk s C ∧ Rest L B n last C

/-! ### regatta/regattalaw07.HeapRemoves -/
def law07HeapRemovesText (L : List Int) (B : List Bool) : Prop := ((match (decide ((↑L.length : Int) > (40 : Int))) with | true => (∃ x : Nat, (((x ≤ (40 : Nat)) ∧ (x ≤ L.length)) ∧ ((True ∧ (True ∧ ((true = true) ∧ (True ∧ (((↑x : Int) = (40 : Int)) ∧ True))))) ∧ ((L = L) ∧ ((B = B) ∧ ((True ∧ (True ∧ (True ∧ True))) ∧ ((noThings = noThings) ∧ ((noPlaces = noPlaces) ∧ True)))))))) | false => (∃ x : Nat, (((x ≤ (40 : Nat)) ∧ (x ≤ L.length)) ∧ ((True ∧ (True ∧ ((true = true) ∧ (True ∧ (((↑x : Int) = (↑L.length : Int)) ∧ True))))) ∧ ((L = L) ∧ ((B = B) ∧ ((True ∧ (True ∧ (True ∧ True))) ∧ ((noThings = noThings) ∧ ((noPlaces = noPlaces) ∧ True))))))))) ∧ (∀ x : Nat, (((x ≤ (40 : Nat)) ∧ (x ≤ L.length)) → ((∃ x1 : Nat × HS, (((x1.fst ≤ (↑x : Int).toNat) ∧ (HOk x1.snd (conts L x1.fst))) ∧ ((True ∧ (True ∧ ((true = true) ∧ (True ∧ (((↑x : Int) = (↑x : Int)) ∧ (((↑x1.fst : Int) = (0 : Int)) ∧ True)))))) ∧ ((L = L) ∧ ((B = B) ∧ ((True ∧ (True ∧ (True ∧ True))) ∧ ((x1.snd.fst = noThings) ∧ ((x1.snd.snd = noPlaces) ∧ True)))))))) ∧ (∀ x1 : Nat × HS, (((x1.fst ≤ (↑x : Int).toNat) ∧ (HOk x1.snd (conts L x1.fst))) → (match (decide ((↑x1.fst : Int) < (↑x : Int))) with | true => (match (inb (↑x1.fst : Int) L.length) with | true => (match (inb (↑x1.fst : Int) L.length) with | true => (match (decide (x1.snd.fst.length ≤ (1000 : Nat))) with | true => (match (thereB (↑x1.fst : Int) x1.snd.snd) with | true => (∃ x' : Nat × HS, (((x'.fst ≤ (↑x : Int).toNat) ∧ (HOk x'.snd (conts L x'.fst))) ∧ (((40 : Nat) - x'.fst < (40 : Nat) - x1.fst) ∧ ((True ∧ (True ∧ ((true = true) ∧ (True ∧ (((↑x : Int) = (↑x : Int)) ∧ (((↑x'.fst : Int) = IntKind.i64.wrap ((↑x1.fst : Int) + (1 : Int))) ∧ True)))))) ∧ ((L = L) ∧ ((B = B) ∧ ((True ∧ (True ∧ (True ∧ True))) ∧ ((x'.snd.fst = x1.snd.fst) ∧ ((x'.snd.snd = x1.snd.snd) ∧ True))))))))) | false => (∃ x' : Nat × HS, (((x'.fst ≤ (↑x : Int).toNat) ∧ (HOk x'.snd (conts L x'.fst))) ∧ (((40 : Nat) - x'.fst < (40 : Nat) - x1.fst) ∧ ((True ∧ (True ∧ ((true = true) ∧ (True ∧ (((↑x : Int) = (↑x : Int)) ∧ (((↑x'.fst : Int) = IntKind.i64.wrap ((↑x1.fst : Int) + (1 : Int))) ∧ True)))))) ∧ ((L = L) ∧ ((B = B) ∧ ((True ∧ (True ∧ (True ∧ True))) ∧ ((x'.snd.fst = (pushH x1.snd (↑x1.fst : Int) (at' (T (0 : Nat)).zero L (↑x1.fst : Int))).fst) ∧ ((x'.snd.snd = (pushH x1.snd (↑x1.fst : Int) (at' (T (0 : Nat)).zero L (↑x1.fst : Int))).snd) ∧ True)))))))))) | false => False) | false => False) | false => False) | false => ((∃ x2 : Nat × HS, (((x2.fst ≤ (↑x : Int).toNat) ∧ (LeftOk L B (↑x : Int).toNat x2.fst x2.snd)) ∧ ((True ∧ (True ∧ ((true = true) ∧ (True ∧ (((↑x : Int) = (↑x : Int)) ∧ (((↑x2.snd.fst.length : Int) = (↑x : Int)) ∧ (((↑x2.fst : Int) = (0 : Int)) ∧ True))))))) ∧ ((L = L) ∧ ((B = B) ∧ ((True ∧ (True ∧ (True ∧ True))) ∧ ((x2.snd.fst = x1.snd.fst) ∧ ((x2.snd.snd = x1.snd.snd) ∧ True)))))))) ∧ (∀ x2 : Nat × HS, (((x2.fst ≤ (↑x : Int).toNat) ∧ (LeftOk L B (↑x : Int).toNat x2.fst x2.snd)) → (match (decide ((↑x2.fst : Int) < (↑x : Int))) with | true => (match (decide ((↑x2.fst : Int) < (↑B.length : Int))) with | true => (match (inb (↑x2.fst : Int) B.length) with | true => (match (inb (↑x2.fst : Int) B.length) with | true => (match (at' (T (1 : Nat)).zero B (↑x2.fst : Int)) with | true => (match (decide (x2.snd.fst.length ≤ (1000 : Nat) ∧ (thereB (↑x2.fst : Int) x2.snd.snd = true → (0 : Int) ≤ whereI (↑x2.fst : Int) x2.snd.snd ∧ whereI (↑x2.fst : Int) x2.snd.snd < (↑x2.snd.fst.length : Int)))) with | true => (match (thereB (↑x2.fst : Int) x2.snd.snd) with | true => (match (decide ((takeH x2.snd (whereI (↑x2.fst : Int) x2.snd.snd).toNat).fst.length ≤ (1000 : Nat) ∧ (thereB (↑x2.fst : Int) (takeH (x2.snd.fst, x2.snd.snd) (whereI (↑x2.fst : Int) x2.snd.snd).toNat).snd = true → (0 : Int) ≤ whereI (↑x2.fst : Int) (takeH (x2.snd.fst, x2.snd.snd) (whereI (↑x2.fst : Int) x2.snd.snd).toNat).snd ∧ whereI (↑x2.fst : Int) (takeH (x2.snd.fst, x2.snd.snd) (whereI (↑x2.fst : Int) x2.snd.snd).toNat).snd < (↑(takeH (x2.snd.fst, x2.snd.snd) (whereI (↑x2.fst : Int) x2.snd.snd).toNat).fst.length : Int)))) with | true => (match (thereB (↑x2.fst : Int) (takeH x2.snd (whereI (↑x2.fst : Int) x2.snd.snd).toNat).snd) with | true => (match (inb (↑x2.fst : Int) L.length) with | true => (match (inb (↑x2.fst : Int) L.length) with | true => (match ((at' tz x2.snd.fst (whereI (↑x2.fst : Int) x2.snd.snd)).X != at' (T (0 : Nat)).zero L (↑x2.fst : Int)) with | true => (((true = false) ∧ True) ∧ ((L = L) ∧ ((B = B) ∧ True))) | false => (((true = false) ∧ True) ∧ ((L = L) ∧ ((B = B) ∧ True)))) | false => False) | false => False) | false => (match (inb (↑x2.fst : Int) L.length) with | true => (match (inb (↑x2.fst : Int) L.length) with | true => (match ((at' tz x2.snd.fst (whereI (↑x2.fst : Int) x2.snd.snd)).X != at' (T (0 : Nat)).zero L (↑x2.fst : Int)) with | true => (((true = false) ∧ True) ∧ ((L = L) ∧ ((B = B) ∧ True))) | false => (∃ x' : Nat × HS, (((x'.fst ≤ (↑x : Int).toNat) ∧ (LeftOk L B (↑x : Int).toNat x'.fst x'.snd)) ∧ (((40 : Nat) - x'.fst < (40 : Nat) - x2.fst) ∧ ((True ∧ (True ∧ ((true = true) ∧ (True ∧ (((↑x : Int) = (↑x : Int)) ∧ (((↑x'.snd.fst.length : Int) = IntKind.i64.wrap ((↑x2.snd.fst.length : Int) - (1 : Int))) ∧ (((↑x'.fst : Int) = IntKind.i64.wrap ((↑x2.fst : Int) + (1 : Int))) ∧ True))))))) ∧ ((L = L) ∧ ((B = B) ∧ ((True ∧ (True ∧ (True ∧ True))) ∧ ((x'.snd.fst = (takeH x2.snd (whereI (↑x2.fst : Int) x2.snd.snd).toNat).fst) ∧ ((x'.snd.snd = (takeH x2.snd (whereI (↑x2.fst : Int) x2.snd.snd).toNat).snd) ∧ True)))))))))) | false => False) | false => False)) | false => False) | false => (match (decide (x2.snd.fst.length ≤ (1000 : Nat) ∧ (thereB (↑x2.fst : Int) x2.snd.snd = true → (0 : Int) ≤ whereI (↑x2.fst : Int) x2.snd.snd ∧ whereI (↑x2.fst : Int) x2.snd.snd < (↑x2.snd.fst.length : Int)))) with | true => (match (thereB (↑x2.fst : Int) x2.snd.snd) with | true => (((true = false) ∧ True) ∧ ((L = L) ∧ ((B = B) ∧ True))) | false => (((true = false) ∧ True) ∧ ((L = L) ∧ ((B = B) ∧ True)))) | false => False)) | false => False) | false => (∃ x' : Nat × HS, (((x'.fst ≤ (↑x : Int).toNat) ∧ (LeftOk L B (↑x : Int).toNat x'.fst x'.snd)) ∧ (((40 : Nat) - x'.fst < (40 : Nat) - x2.fst) ∧ ((True ∧ (True ∧ ((true = true) ∧ (True ∧ (((↑x : Int) = (↑x : Int)) ∧ (((↑x'.snd.fst.length : Int) = (↑x2.snd.fst.length : Int)) ∧ (((↑x'.fst : Int) = IntKind.i64.wrap ((↑x2.fst : Int) + (1 : Int))) ∧ True))))))) ∧ ((L = L) ∧ ((B = B) ∧ ((True ∧ (True ∧ (True ∧ True))) ∧ ((x'.snd.fst = x2.snd.fst) ∧ ((x'.snd.snd = x2.snd.snd) ∧ True)))))))))) | false => False) | false => False) | false => ((∃ x3 : Nat × Int × HS, (((x3.fst + x3.snd.snd.fst.length = (↑x2.snd.fst.length : Int).toNat) ∧ ((x3.snd.snd.fst.length ≤ (40 : Nat)) ∧ (RestOk L B (↑x : Int).toNat x3.snd.fst x3.snd.snd))) ∧ ((True ∧ (True ∧ ((true = true) ∧ (True ∧ (((↑x : Int) = (↑x : Int)) ∧ (((↑x2.snd.fst.length : Int) = (↑x2.snd.fst.length : Int)) ∧ ((x3.snd.fst = (-1 : Int)) ∧ (((↑x3.fst : Int) = (0 : Int)) ∧ True)))))))) ∧ ((L = L) ∧ ((B = B) ∧ ((True ∧ (True ∧ (True ∧ True))) ∧ ((x3.snd.snd.fst = x2.snd.fst) ∧ ((x3.snd.snd.snd = x2.snd.snd) ∧ True)))))))) ∧ (∀ x3 : Nat × Int × HS, (((x3.fst + x3.snd.snd.fst.length = (↑x2.snd.fst.length : Int).toNat) ∧ ((x3.snd.snd.fst.length ≤ (40 : Nat)) ∧ (RestOk L B (↑x : Int).toNat x3.snd.fst x3.snd.snd))) → (match (decide ((↑x3.fst : Int) < (↑x2.snd.fst.length : Int))) with | true => (match (decide (x3.snd.snd.fst.length ≤ (1000 : Nat))) with | true => (match (x3.snd.snd.fst.length == (0 : Nat)) with | true => (((true = false) ∧ True) ∧ ((L = L) ∧ ((B = B) ∧ True))) | false => (match (decide ((at' tz x3.snd.snd.fst (0 : Int)).Id < (0 : Int))) with | true => (((true = false) ∧ True) ∧ ((L = L) ∧ ((B = B) ∧ True))) | false => (match (decide ((at' tz x3.snd.snd.fst (0 : Int)).Id ≥ (↑x : Int))) with | true => (((true = false) ∧ True) ∧ ((L = L) ∧ ((B = B) ∧ True))) | false => (match (decide ((at' tz x3.snd.snd.fst (0 : Int)).Id < (↑B.length : Int))) with | true => (match (inb (at' tz x3.snd.snd.fst (0 : Int)).Id B.length) with | true => (match (inb (at' tz x3.snd.snd.fst (0 : Int)).Id B.length) with | true => (match (at' (T (1 : Nat)).zero B (at' tz x3.snd.snd.fst (0 : Int)).Id) with | true => (((true = false) ∧ True) ∧ ((L = L) ∧ ((B = B) ∧ True))) | false => (match (decide (bits BinOp.and IntKind.i64 (at' tz x3.snd.snd.fst (0 : Int)).X (15 : Int) < x3.snd.fst)) with | true => (((true = false) ∧ True) ∧ ((L = L) ∧ ((B = B) ∧ True))) | false => (∃ x' : Nat × Int × HS, (((x'.fst + x'.snd.snd.fst.length = (↑x2.snd.fst.length : Int).toNat) ∧ ((x'.snd.snd.fst.length ≤ (40 : Nat)) ∧ (RestOk L B (↑x : Int).toNat x'.snd.fst x'.snd.snd))) ∧ ((x'.snd.snd.fst.length < x3.snd.snd.fst.length) ∧ ((True ∧ (True ∧ ((true = true) ∧ (True ∧ (((↑x : Int) = (↑x : Int)) ∧ (((↑x2.snd.fst.length : Int) = (↑x2.snd.fst.length : Int)) ∧ ((x'.snd.fst = bits BinOp.and IntKind.i64 (at' tz x3.snd.snd.fst (0 : Int)).X (15 : Int)) ∧ (((↑x'.fst : Int) = IntKind.i64.wrap ((↑x3.fst : Int) + (1 : Int))) ∧ True)))))))) ∧ ((L = L) ∧ ((B = B) ∧ ((True ∧ (True ∧ (True ∧ True))) ∧ ((x'.snd.snd.fst = (takeH x3.snd.snd (0 : Nat)).fst) ∧ ((x'.snd.snd.snd = (takeH x3.snd.snd (0 : Nat)).snd) ∧ True))))))))))) | false => False) | false => False) | false => (match (decide (bits BinOp.and IntKind.i64 (at' tz x3.snd.snd.fst (0 : Int)).X (15 : Int) < x3.snd.fst)) with | true => (((true = false) ∧ True) ∧ ((L = L) ∧ ((B = B) ∧ True))) | false => (∃ x' : Nat × Int × HS, (((x'.fst + x'.snd.snd.fst.length = (↑x2.snd.fst.length : Int).toNat) ∧ ((x'.snd.snd.fst.length ≤ (40 : Nat)) ∧ (RestOk L B (↑x : Int).toNat x'.snd.fst x'.snd.snd))) ∧ ((x'.snd.snd.fst.length < x3.snd.snd.fst.length) ∧ ((True ∧ (True ∧ ((true = true) ∧ (True ∧ (((↑x : Int) = (↑x : Int)) ∧ (((↑x2.snd.fst.length : Int) = (↑x2.snd.fst.length : Int)) ∧ ((x'.snd.fst = bits BinOp.and IntKind.i64 (at' tz x3.snd.snd.fst (0 : Int)).X (15 : Int)) ∧ (((↑x'.fst : Int) = IntKind.i64.wrap ((↑x3.fst : Int) + (1 : Int))) ∧ True)))))))) ∧ ((L = L) ∧ ((B = B) ∧ ((True ∧ (True ∧ (True ∧ True))) ∧ ((x'.snd.snd.fst = (takeH x3.snd.snd (0 : Nat)).fst) ∧ ((x'.snd.snd.snd = (takeH x3.snd.snd (0 : Nat)).snd) ∧ True)))))))))))))) | false => False) | false => (((true = ((↑x3.snd.snd.fst.length : Int) == (0 : Int))) ∧ True) ∧ ((L = L) ∧ ((B = B) ∧ True)))))))) | false => ((∃ x3 : Nat × Int × HS, (((x3.fst + x3.snd.snd.fst.length = (↑x2.snd.fst.length : Int).toNat) ∧ ((x3.snd.snd.fst.length ≤ (40 : Nat)) ∧ (RestOk L B (↑x : Int).toNat x3.snd.fst x3.snd.snd))) ∧ ((True ∧ (True ∧ ((true = true) ∧ (True ∧ (((↑x : Int) = (↑x : Int)) ∧ (((↑x2.snd.fst.length : Int) = (↑x2.snd.fst.length : Int)) ∧ ((x3.snd.fst = (-1 : Int)) ∧ (((↑x3.fst : Int) = (0 : Int)) ∧ True)))))))) ∧ ((L = L) ∧ ((B = B) ∧ ((True ∧ (True ∧ (True ∧ True))) ∧ ((x3.snd.snd.fst = x2.snd.fst) ∧ ((x3.snd.snd.snd = x2.snd.snd) ∧ True)))))))) ∧ (∀ x3 : Nat × Int × HS, (((x3.fst + x3.snd.snd.fst.length = (↑x2.snd.fst.length : Int).toNat) ∧ ((x3.snd.snd.fst.length ≤ (40 : Nat)) ∧ (RestOk L B (↑x : Int).toNat x3.snd.fst x3.snd.snd))) → (match (decide ((↑x3.fst : Int) < (↑x2.snd.fst.length : Int))) with | true => (match (decide (x3.snd.snd.fst.length ≤ (1000 : Nat))) with | true => (match (x3.snd.snd.fst.length == (0 : Nat)) with | true => (((true = false) ∧ True) ∧ ((L = L) ∧ ((B = B) ∧ True))) | false => (match (decide ((at' tz x3.snd.snd.fst (0 : Int)).Id < (0 : Int))) with | true => (((true = false) ∧ True) ∧ ((L = L) ∧ ((B = B) ∧ True))) | false => (match (decide ((at' tz x3.snd.snd.fst (0 : Int)).Id ≥ (↑x : Int))) with | true => (((true = false) ∧ True) ∧ ((L = L) ∧ ((B = B) ∧ True))) | false => (match (decide ((at' tz x3.snd.snd.fst (0 : Int)).Id < (↑B.length : Int))) with | true => (match (inb (at' tz x3.snd.snd.fst (0 : Int)).Id B.length) with | true => (match (inb (at' tz x3.snd.snd.fst (0 : Int)).Id B.length) with | true => (match (at' (T (1 : Nat)).zero B (at' tz x3.snd.snd.fst (0 : Int)).Id) with | true => (((true = false) ∧ True) ∧ ((L = L) ∧ ((B = B) ∧ True))) | false => (match (decide (bits BinOp.and IntKind.i64 (at' tz x3.snd.snd.fst (0 : Int)).X (15 : Int) < x3.snd.fst)) with | true => (((true = false) ∧ True) ∧ ((L = L) ∧ ((B = B) ∧ True))) | false => (∃ x' : Nat × Int × HS, (((x'.fst + x'.snd.snd.fst.length = (↑x2.snd.fst.length : Int).toNat) ∧ ((x'.snd.snd.fst.length ≤ (40 : Nat)) ∧ (RestOk L B (↑x : Int).toNat x'.snd.fst x'.snd.snd))) ∧ ((x'.snd.snd.fst.length < x3.snd.snd.fst.length) ∧ ((True ∧ (True ∧ ((true = true) ∧ (True ∧ (((↑x : Int) = (↑x : Int)) ∧ (((↑x2.snd.fst.length : Int) = (↑x2.snd.fst.length : Int)) ∧ ((x'.snd.fst = bits BinOp.and IntKind.i64 (at' tz x3.snd.snd.fst (0 : Int)).X (15 : Int)) ∧ (((↑x'.fst : Int) = IntKind.i64.wrap ((↑x3.fst : Int) + (1 : Int))) ∧ True)))))))) ∧ ((L = L) ∧ ((B = B) ∧ ((True ∧ (True ∧ (True ∧ True))) ∧ ((x'.snd.snd.fst = (takeH x3.snd.snd (0 : Nat)).fst) ∧ ((x'.snd.snd.snd = (takeH x3.snd.snd (0 : Nat)).snd) ∧ True))))))))))) | false => False) | false => False) | false => (match (decide (bits BinOp.and IntKind.i64 (at' tz x3.snd.snd.fst (0 : Int)).X (15 : Int) < x3.snd.fst)) with | true => (((true = false) ∧ True) ∧ ((L = L) ∧ ((B = B) ∧ True))) | false => (∃ x' : Nat × Int × HS, (((x'.fst + x'.snd.snd.fst.length = (↑x2.snd.fst.length : Int).toNat) ∧ ((x'.snd.snd.fst.length ≤ (40 : Nat)) ∧ (RestOk L B (↑x : Int).toNat x'.snd.fst x'.snd.snd))) ∧ ((x'.snd.snd.fst.length < x3.snd.snd.fst.length) ∧ ((True ∧ (True ∧ ((true = true) ∧ (True ∧ (((↑x : Int) = (↑x : Int)) ∧ (((↑x2.snd.fst.length : Int) = (↑x2.snd.fst.length : Int)) ∧ ((x'.snd.fst = bits BinOp.and IntKind.i64 (at' tz x3.snd.snd.fst (0 : Int)).X (15 : Int)) ∧ (((↑x'.fst : Int) = IntKind.i64.wrap ((↑x3.fst : Int) + (1 : Int))) ∧ True)))))))) ∧ ((L = L) ∧ ((B = B) ∧ ((True ∧ (True ∧ (True ∧ True))) ∧ ((x'.snd.snd.fst = (takeH x3.snd.snd (0 : Nat)).fst) ∧ ((x'.snd.snd.snd = (takeH x3.snd.snd (0 : Nat)).snd) ∧ True)))))))))))))) | false => False) | false => (((true = ((↑x3.snd.snd.fst.length : Int) == (0 : Int))) ∧ True) ∧ ((L = L) ∧ ((B = B) ∧ True))))))))))))))))))
theorem law07HeapRemovesVc (L : List Int) (B : List Bool) : fnX X8 ({ (annOf (T := T) (O := O) [(9, { σ := Nat × HS, st := fun S x => (((S.keep [0, 1, 5, 6, 7]).int 8 x.1).atF 6 1 (.vec 2 x.2.1 57)).atF 6 2 (.map 0 x.2.2), inv := fun S x => x.1 ≤ (S.gi 7).toNat ∧ HOk x.2 (conts L x.1), m := fun x => 40 - x.1 }),
  (14, { σ := Nat × HS, st := fun S x => ((((S.keep [0, 1, 5, 6, 7]).int 10 x.1).int 9 x.2.1.length).atF 6 1 (.vec 2 x.2.1 57)).atF 6 2 (.map 0 x.2.2), inv := fun S x => x.1 ≤ (S.gi 7).toNat ∧ LeftOk L B (S.gi 7).toNat x.1 x.2, m := fun x => 40 - x.1 }),
  (24, { σ := Nat × Int × HS, st := fun S x => ((((S.keep [0, 1, 5, 6, 7, 9]).int 16 x.1).int 15 x.2.1).atF 6 1 (.vec 2 x.2.2.1 57)).atF 6 2 (.map 0 x.2.2.2), inv := fun S x => x.1 + x.2.2.1.length = (S.gi 9).toNat ∧ x.2.2.1.length ≤ 40 ∧ RestOk L B (S.gi 7).toNat x.2.1 x.2.2, m := fun x => x.2.2.1.length })] [] : Ann T O) with
  join := fun i => match decide (i = 8) with
    | true => some { σ := Nat, st := fun S x => (S.keep [0, 1, 5, 6]).int 7 x, inv := fun x => x ≤ 40 ∧ x ≤ L.length }
    | false => none }) Try.f4 [.own 0, .own 1] [.ro 0 L, .ro 1 B] (ends [.ro 0 L, .ro 1 B] ⟨some (.raw (.bool true)), []⟩) = law07HeapRemovesText L B := by kernel_rfl
theorem law07HeapRemovesHolds (L : List Int) (B : List Bool) : law07HeapRemovesText L B := by
  unfold law07HeapRemovesText
  refine ⟨?_, ?_⟩
  · cases h : decide ((L.length : Int) > (40 : Int))
    · have h : ¬ (L.length : Int) > 40 := of_decide_eq_false h
      exact ⟨L.length, ⟨by omega, Nat.le_refl _⟩, ⟨trivial, trivial, rfl, trivial, rfl, trivial⟩, rfl, rfl, ⟨trivial, trivial, trivial, trivial⟩, rfl, rfl, trivial⟩
    · have h : (L.length : Int) > 40 := of_decide_eq_true h
      exact ⟨40, ⟨Nat.le_refl _, by omega⟩, ⟨trivial, trivial, rfl, trivial, rfl, trivial⟩, rfl, rfl, ⟨trivial, trivial, trivial, trivial⟩, rfl, rfl, trivial⟩
  rintro n ⟨hn40, hnl⟩
  rw [Int.toNat_natCast]
  refine ⟨⟨(0, noThings, noPlaces), ⟨Nat.zero_le _, HOk.new⟩, ⟨trivial, trivial, rfl, trivial, rfl, rfl, trivial⟩, rfl, rfl, ⟨trivial, trivial, trivial, trivial⟩, rfl, rfl, trivial⟩, ?_⟩
  rintro ⟨x, L1, M1⟩ ⟨hx, hs⟩
  dsimp only at hx hs ⊢
  have hlen : L1.length = x := hs.len.trans (conts_length L x)
  by_cases h : x < n
  · have hxl : x < L.length := by omega
    have hno : thereB (x : Int) M1 = false := hs.notThere (conts_ne L x)
    rw [show decide ((x : Int) < (n : Int)) = true from decide_eq_true (by omega), inb_nat hxl, show decide (L1.length ≤ (1000 : Nat)) = true from decide_eq_true (by omega), hno]
    exact ⟨(x + 1, pushH (L1, M1) x (at' 0 L x)), ⟨h, hs.push hno⟩, by dsimp only; omega, ⟨trivial, trivial, rfl, trivial, rfl, (wrap_succ h (by omega)).symm, trivial⟩, rfl, rfl, ⟨trivial, trivial, trivial, trivial⟩, rfl, rfl, trivial⟩
  · have e : x = n := by omega
    subst e
    rw [show decide ((x : Int) < (x : Int)) = false from decide_eq_false (by omega)]
    have left0 : Left L B x 0 (conts L x) := fun a => ⟨fun ha => by
        obtain ⟨k, hk, rfl⟩ := conts_of L x a ha
        exact ⟨k, hk, rfl, fun hg => by have := hg.1; omega⟩, fun ⟨k, hk, hka, _⟩ => by rw [hka]; exact conts_mem L x k hk⟩
    refine ⟨⟨(0, L1, M1), ⟨Nat.zero_le _, ⟨conts L x, hs, by rw [conts_length]; exact Nat.le_refl _, left0⟩⟩, ⟨trivial, trivial, rfl, trivial, rfl, by dsimp only; rw [hlen], rfl, trivial⟩, rfl, rfl, ⟨trivial, trivial, trivial, trivial⟩, rfl, rfl, trivial⟩, ?_⟩
    rintro ⟨y, L2, M2⟩ ⟨hy, ⟨C, hC, hCl, hLeft⟩⟩
    dsimp only at hy hC hLeft ⊢
    have hl2 : L2.length = C.length := hC.len
    have rest : (x ≤ y ∨ B.length ≤ y) → Rest L B x (-1) C := by
      intro hyy a ha
      obtain ⟨k, hk, hka, hg⟩ := (hLeft a).1 ha
      refine ⟨⟨k, hk, hka, fun hkb => hg ⟨?_, hkb.1, hkb.2⟩⟩, ?_⟩
      · have := hkb.1
        clear hLeft
        omega
      · have := Int.emod_nonneg a.X (b := 16) (by omega)
        clear hLeft
        omega
    by_cases h2 : y < x
    · rw [show decide ((y : Int) < (x : Int)) = true from decide_eq_true (by omega)]
      by_cases h3 : y < B.length
      · have hyl : y < L.length := by omega
        have hw := wrap_succ h2 (by omega)
        rw [dec_lt h3, inb_nat h3]
        cases hb : (at' (T 1).zero B (y : Int) : Bool)
        · have hb : at' false B (y : Int) = false := hb
          have left' : Left L B x (y + 1) C := fun a => (hLeft a).trans ⟨fun ⟨k, hk, hka, hg⟩ => ⟨k, hk, hka, fun hg2 => hg ⟨by
              have h1 := hg2.1
              have h3 := hg2.2.2
              have : k ≠ y := fun e => by rw [e, hb] at h3; cases h3
              omega, hg2.2⟩⟩, fun ⟨k, hk, hka, hg⟩ => ⟨k, hk, hka, fun hg2 => hg ⟨by have := hg2.1; omega, hg2.2⟩⟩⟩
          exact ⟨(y + 1, L2, M2), ⟨h2, ⟨C, hC, hCl, left'⟩⟩, by dsimp only; omega, ⟨trivial, trivial, rfl, trivial, rfl, rfl, hw.symm, trivial⟩, rfl, rfl, ⟨trivial, trivial, trivial, trivial⟩, rfl, rfl, trivial⟩
        · have hb : at' false B (y : Int) = true := hb
          have hmy : (⟨y, at' 0 L (y : Int)⟩ : Thing) ∈ C := (hLeft _).2 ⟨y, h2, rfl, fun hg => Nat.lt_irrefl _ hg.1⟩
          have hth : thereB (y : Int) M2 = true := (hC.there y).2 ⟨_, hmy, rfl⟩
          obtain ⟨i, hi, hwh, hid, hm⟩ := hC.where hth
          dsimp only at hi hwh hid hm
          have hv : at' tz L2 (i : Int) = ⟨y, at' 0 L y⟩ := hC.one hm hmy hid
          obtain ⟨C', hk', hmem', hlen'⟩ := hC.take' hi
          rw [show decide (L2.length ≤ (1000 : Nat) ∧ (thereB (y : Int) M2 = true → (0 : Int) ≤ whereI (y : Int) M2 ∧ whereI (y : Int) M2 < (L2.length : Int))) = true from decide_eq_true ⟨by omega, fun _ => by rw [hwh]; omega⟩, hth, hwh, Int.toNat_natCast, hv]
          dsimp only at hid hmem'
          rw [hid] at hmem'
          generalize takeH (L2, M2) i = s3 at hk' ⊢
          obtain ⟨L3, M3⟩ := s3
          dsimp only
          have hl3 : L3.length = C'.length := hk'.len
          have hno3 : thereB (y : Int) M3 = false := hk'.notThere fun a ha => ((hmem' a).1 ha).2
          rw [show decide (L3.length ≤ (1000 : Nat) ∧ (thereB (y : Int) M3 = true → (0 : Int) ≤ whereI (y : Int) M3 ∧ whereI (y : Int) M3 < (L3.length : Int))) = true from decide_eq_true ⟨by omega, fun hh => by rw [hno3] at hh; cases hh⟩, hno3, inb_nat hyl, show (at' (0 : Int) L (y : Int) != at' (T 0).zero L (y : Int)) = false from bne_self_eq_false _]
          have left' : Left L B x (y + 1) C' := fun a => by
            rw [hmem' a, hLeft a]
            constructor
            · rintro ⟨⟨k, hk, rfl, hg⟩, hne⟩
              refine ⟨k, hk, rfl, fun hg2 => hg ⟨?_, hg2.2⟩⟩
              have h1 := hg2.1
              dsimp only at hne
              omega
            · rintro ⟨k, hk, rfl, hg⟩
              refine ⟨⟨k, hk, rfl, fun hg2 => hg ⟨by have := hg2.1; omega, hg2.2⟩⟩, ?_⟩
              dsimp only
              intro e
              have e : k = y := by omega
              subst e
              exact hg ⟨Nat.lt_succ_self _, h3, hb⟩
          exact ⟨(y + 1, L3, M3), ⟨h2, ⟨C', hk', by omega, left'⟩⟩, by dsimp only; omega, ⟨trivial, trivial, rfl, trivial, rfl, by rw [wrap_id (by omega) (by omega)]; dsimp only; omega, hw.symm, trivial⟩, rfl, rfl, ⟨trivial, trivial, trivial, trivial⟩, rfl, rfl, trivial⟩
      · rw [dec_ge (by omega)]
        have hR := rest (.inr (by omega))
        refine ⟨⟨(0, -1, L2, M2), ⟨by rw [Int.toNat_natCast]; exact Nat.zero_add _, by dsimp only; omega, ⟨C, hC, hR⟩⟩, ⟨trivial, trivial, rfl, trivial, rfl, rfl, rfl, rfl, trivial⟩, rfl, rfl, ⟨trivial, trivial, trivial, trivial⟩, rfl, rfl, trivial⟩, ?_⟩
        rintro ⟨z, last, L3, M3⟩ ⟨hz, hz40, ⟨C3, hC3, hR3⟩⟩
        rw [Int.toNat_natCast] at hz
        dsimp only at hz hz40 hC3 hR3 ⊢
        by_cases g : z < L2.length
        · have hl0 : 0 < L3.length := by omega
          obtain ⟨hm, hmin⟩ := hC3.min hl0
          have hm : at' tz L3 (0 : Int) ∈ C3 := hm
          obtain ⟨⟨k, hk, hka, hkb⟩, hlast⟩ := hR3 _ hm
          obtain ⟨C4, hC4, hmem4, hlen4⟩ := hC3.take' hl0
          have hl3 : L3.length = C3.length := hC3.len
          have hl4 : (takeH (L3, M3) 0).1.length = C4.length := hC4.len
          have hid : (at' tz L3 (0 : Int)).Id = (k : Int) := by rw [hka]
          have hR4 : Rest L B x (bits .and .i64 (at' tz L3 (0 : Int)).X 15) C4 := by
            intro a ha
            have ha3 := ((hmem4 a).1 ha).1
            refine ⟨(hR3 a ha3).1, ?_⟩
            have h1 : le' (at' tz L3 (0 : Int)) a := hmin a ha3
            unfold le' kx at h1
            rw [and15]
            clear hR3 hR hmem4 hmin
            omega
          rw [show decide ((z : Int) < (L2.length : Int)) = true from decide_eq_true (by omega), show decide (L3.length ≤ (1000 : Nat)) = true from decide_eq_true (by omega), show (L3.length == (0 : Nat)) = false by rw [beq_eq_false_iff_ne]; omega, hid, show decide ((k : Int) < (0 : Int)) = false from decide_eq_false (by omega), show decide ((k : Int) ≥ (x : Int)) = false from decide_eq_false (by omega)]
          rw [show decide (bits .and .i64 (at' tz L3 (0 : Int)).X (15 : Int) < last) = false from decide_eq_false (by rw [and15]; omega)]
          by_cases q : k < B.length
          · have hbk : at' false B (k : Int) = false := by
              cases hb : at' false B (k : Int)
              · rfl
              · exact absurd ⟨q, hb⟩ hkb
            rw [dec_lt q, inb_nat q, show (at' (T 1).zero B (k : Int) : Bool) = false from hbk]
            refine ⟨(z + 1, bits .and .i64 (at' tz L3 (0 : Int)).X 15, takeH (L3, M3) 0), ⟨by dsimp only; rw [Int.toNat_natCast, hl4]; omega, by dsimp only; omega, ⟨C4, hC4, hR4⟩⟩, by dsimp only; omega, ⟨trivial, trivial, rfl, trivial, rfl, rfl, rfl, (wrap_succ g (by omega)).symm, trivial⟩, rfl, rfl, ⟨trivial, trivial, trivial, trivial⟩, rfl, rfl, trivial⟩
          · rw [dec_ge (by omega)]
            refine ⟨(z + 1, bits .and .i64 (at' tz L3 (0 : Int)).X 15, takeH (L3, M3) 0), ⟨by dsimp only; rw [Int.toNat_natCast, hl4]; omega, by dsimp only; omega, ⟨C4, hC4, hR4⟩⟩, by dsimp only; omega, ⟨trivial, trivial, rfl, trivial, rfl, rfl, rfl, (wrap_succ g (by omega)).symm, trivial⟩, rfl, rfl, ⟨trivial, trivial, trivial, trivial⟩, rfl, rfl, trivial⟩
        · rw [show decide ((z : Int) < (L2.length : Int)) = false from decide_eq_false (by omega)]
          exact ⟨⟨by rw [show L3.length = 0 by omega]; rfl, trivial⟩, rfl, rfl, trivial⟩
    · rw [show decide ((y : Int) < (x : Int)) = false from decide_eq_false (by omega)]
      have hR := rest (.inl (by omega))
      refine ⟨⟨(0, -1, L2, M2), ⟨by rw [Int.toNat_natCast]; exact Nat.zero_add _, by dsimp only; omega, ⟨C, hC, hR⟩⟩, ⟨trivial, trivial, rfl, trivial, rfl, rfl, rfl, rfl, trivial⟩, rfl, rfl, ⟨trivial, trivial, trivial, trivial⟩, rfl, rfl, trivial⟩, ?_⟩
      rintro ⟨z, last, L3, M3⟩ ⟨hz, hz40, ⟨C3, hC3, hR3⟩⟩
      rw [Int.toNat_natCast] at hz
      dsimp only at hz hz40 hC3 hR3 ⊢
      by_cases g : z < L2.length
      · have hl0 : 0 < L3.length := by omega
        obtain ⟨hm, hmin⟩ := hC3.min hl0
        have hm : at' tz L3 (0 : Int) ∈ C3 := hm
        obtain ⟨⟨k, hk, hka, hkb⟩, hlast⟩ := hR3 _ hm
        obtain ⟨C4, hC4, hmem4, hlen4⟩ := hC3.take' hl0
        have hl3 : L3.length = C3.length := hC3.len
        have hl4 : (takeH (L3, M3) 0).1.length = C4.length := hC4.len
        have hid : (at' tz L3 (0 : Int)).Id = (k : Int) := by rw [hka]
        have hR4 : Rest L B x (bits .and .i64 (at' tz L3 (0 : Int)).X 15) C4 := by
          intro a ha
          have ha3 := ((hmem4 a).1 ha).1
          refine ⟨(hR3 a ha3).1, ?_⟩
          have h1 : le' (at' tz L3 (0 : Int)) a := hmin a ha3
          unfold le' kx at h1
          rw [and15]
          clear hR3 hR hmem4 hmin
          omega
        rw [show decide ((z : Int) < (L2.length : Int)) = true from decide_eq_true (by omega), show decide (L3.length ≤ (1000 : Nat)) = true from decide_eq_true (by omega), show (L3.length == (0 : Nat)) = false by rw [beq_eq_false_iff_ne]; omega, hid, show decide ((k : Int) < (0 : Int)) = false from decide_eq_false (by omega), show decide ((k : Int) ≥ (x : Int)) = false from decide_eq_false (by omega)]
        rw [show decide (bits .and .i64 (at' tz L3 (0 : Int)).X (15 : Int) < last) = false from decide_eq_false (by rw [and15]; omega)]
        by_cases q : k < B.length
        · have hbk : at' false B (k : Int) = false := by
            cases hb : at' false B (k : Int)
            · rfl
            · exact absurd ⟨q, hb⟩ hkb
          rw [dec_lt q, inb_nat q, show (at' (T 1).zero B (k : Int) : Bool) = false from hbk]
          refine ⟨(z + 1, bits .and .i64 (at' tz L3 (0 : Int)).X 15, takeH (L3, M3) 0), ⟨by dsimp only; rw [Int.toNat_natCast, hl4]; omega, by dsimp only; omega, ⟨C4, hC4, hR4⟩⟩, by dsimp only; omega, ⟨trivial, trivial, rfl, trivial, rfl, rfl, rfl, (wrap_succ g (by omega)).symm, trivial⟩, rfl, rfl, ⟨trivial, trivial, trivial, trivial⟩, rfl, rfl, trivial⟩
        · rw [dec_ge (by omega)]
          refine ⟨(z + 1, bits .and .i64 (at' tz L3 (0 : Int)).X 15, takeH (L3, M3) 0), ⟨by dsimp only; rw [Int.toNat_natCast, hl4]; omega, by dsimp only; omega, ⟨C4, hC4, hR4⟩⟩, by dsimp only; omega, ⟨trivial, trivial, rfl, trivial, rfl, rfl, rfl, (wrap_succ g (by omega)).symm, trivial⟩, rfl, rfl, ⟨trivial, trivial, trivial, trivial⟩, rfl, rfl, trivial⟩
      · rw [show decide ((z : Int) < (L2.length : Int)) = false from decide_eq_false (by omega)]
        exact ⟨⟨by rw [show L3.length = 0 by omega]; rfl, trivial⟩, rfl, rfl, trivial⟩
noncomputable def law07HeapRemovesCon : Con T O := fun args cs => match args, cs with
  | [.own 0, .own 1], [.ro 0 _, .ro 1 _] => .ret ⟨some (.raw (.bool true)), []⟩
  | _, _ => .fail
theorem law07HeapRemovesOk : ConOk R Try.prog 4 law07HeapRemovesCon := con_of_fn R (X8) (TabOk.con R X8Ok) mixed Try.call4 Try.func4 law07HeapRemovesCon (by
  intro args cs K h
  unfold law07HeapRemovesCon at h
  split at h
  · rename_i L B
    refine ⟨{ (annOf (T := T) (O := O) [(9, { σ := Nat × HS, st := fun S x => (((S.keep [0, 1, 5, 6, 7]).int 8 x.1).atF 6 1 (.vec 2 x.2.1 57)).atF 6 2 (.map 0 x.2.2), inv := fun S x => x.1 ≤ (S.gi 7).toNat ∧ HOk x.2 (conts L x.1), m := fun x => 40 - x.1 }),
  (14, { σ := Nat × HS, st := fun S x => ((((S.keep [0, 1, 5, 6, 7]).int 10 x.1).int 9 x.2.1.length).atF 6 1 (.vec 2 x.2.1 57)).atF 6 2 (.map 0 x.2.2), inv := fun S x => x.1 ≤ (S.gi 7).toNat ∧ LeftOk L B (S.gi 7).toNat x.1 x.2, m := fun x => 40 - x.1 }),
  (24, { σ := Nat × Int × HS, st := fun S x => ((((S.keep [0, 1, 5, 6, 7, 9]).int 16 x.1).int 15 x.2.1).atF 6 1 (.vec 2 x.2.2.1 57)).atF 6 2 (.map 0 x.2.2.2), inv := fun S x => x.1 + x.2.2.1.length = (S.gi 9).toNat ∧ x.2.2.1.length ≤ 40 ∧ RestOk L B (S.gi 7).toNat x.2.1 x.2.2, m := fun x => x.2.2.1.length })] [] : Ann T O) with
  join := fun i => match decide (i = 8) with
    | true => some { σ := Nat, st := fun S x => (S.keep [0, 1, 5, 6]).int 7 x, inv := fun x => x ≤ 40 ∧ x ≤ L.length }
    | false => none }, _, fun v S hv => ⟨_, h, hv⟩, ?_⟩
    rw [law07HeapRemovesVc L B]
    exact law07HeapRemovesHolds L B
  · exact h.elim)
noncomputable def tab9 : Tab T O := (4, law07HeapRemovesCon) :: tab8
theorem tabOk9 : TabOk R Try.prog tab9 := TabOk.cons R law07HeapRemovesOk <| tabOk8
noncomputable def X9 : Ctx T O := { X0 with con := conOf tab9 }
theorem X9Ok : TabOk R X9.P tab9 := tabOk9
end Go.Proofs.Ytdnndahaeammcaa
