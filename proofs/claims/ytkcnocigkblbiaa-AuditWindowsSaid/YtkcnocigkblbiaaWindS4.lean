/-
  Part of a proof over the seat Ytkcnocigkblbiaa: printed by a small program or typed by hand.
-/
import Derived.Test.YtkcnocigkblbiaaWindS3
import Derived.KernelRfl
namespace Go.Proofs.Ytkcnocigkblbiaa
open Go.Sx Go.Proofs Classical

def orderRight (M : List (Int × Note)) (n : Note) : Bool := match mget n.ID M with
  | some a => auditFollows n a
  | none => n.SubIndex == 1
def orderGo : List (Int × Note) → List Note → Int → Int
  | _, [], _ => -1
  | M, n :: l, i => bif orderRight M n then orderGo (mput n.ID n M) l (i + 1) else i
def has (M : List (Int × Bool)) (k : Int) : Bool := (mget k M).getD false
def slotsBad (m : Int) (I C : List (Int × Bool)) (n : Note) : Bool := decide (n.Core < 0) || decide (n.Core ≥ m) || has I n.ID || has C n.Core || decide ((I.length : Int) ≥ m)
/-- a new slot begins -/
def fresh? (p : Option Int) (n : Note) : Bool := match p with
  | some a => n.At != a
  | none => false
def back? (p : Option Int) (n : Note) : Bool := match p with
  | some a => decide (n.At < a)
  | none => false
def slotsGo (m : Int) : Option Int → List (Int × Bool) → List (Int × Bool) → List Note → Int → Int
  | _, _, _, [], _ => -1
  | p, I, C, n :: l, i =>
    bif back? p n then i else
    bif slotsBad m (bif fresh? p n then [] else I) (bif fresh? p n then [] else C) n then i else
    slotsGo m (some n.At) (mput n.ID true (bif fresh? p n then [] else I)) (mput n.Core true (bif fresh? p n then [] else C)) l (i + 1)
def prevAt (L : List Note) : Nat → Option Int
  | 0 => none
  | k + 1 => (L[k]?).map (·.At)
def ranOf (id since lo hi : Int) (n : Note) : Bool := n.ID == id && n.Since == since && decide (lo ≤ n.At) && decide (n.At < hi)
def ranN (id since lo hi : Int) (L : List Note) : Nat := L.countP (ranOf id since lo hi)

/-! ### regatta/audit.Late -/
def auditLateK0Text (L : List Note) : Prop := (match (decide (L.length ≤ (140737488355328 : Nat))) with | true => (((firstI auditLate1 L (0 : Int) = firstI auditLate1 L (0 : Int)) ∧ True) ∧ ((L = L) ∧ True)) | false => False)
theorem auditLateK0Vc (L : List Note) : fnX X3 (noAnn) Try.f10 [.own 0] [.ro 2 L] (ends [.ro 2 L] ⟨some (.raw (.int .i64 (firstI auditLate1 L 0))), []⟩) = auditLateK0Text L := by kernel_rfl
theorem auditLateK0Holds (L : List Note) (hp : L.length ≤ 140737488355328) : auditLateK0Text L := by
  unfold auditLateK0Text
  rw [decide_eq_true hp]
  exact ⟨⟨rfl, trivial⟩, rfl, trivial⟩
def auditLateK1Text  : Prop := ((((-1 : Int) = (-1 : Int)) ∧ True) ∧ True)
theorem auditLateK1Vc  : fnX X3 (noAnn) Try.f10 [.raw (.slice none 0 0)] [] (ends [] ⟨some (.raw (.int .i64 (-1))), []⟩) = auditLateK1Text  := by kernel_rfl
theorem auditLateK1Holds  : auditLateK1Text  := by
  unfold auditLateK1Text
  simp
noncomputable def auditLateCon : Con T O := fun args cs => match args, cs with
  | [.own 0], [.ro 2 L] => chk (decide (L.length ≤ 140737488355328)) (.ret ⟨some (.raw (.int .i64 (firstI auditLate1 L 0))), []⟩)
  | [.raw (.slice none 0 0)], [] => .ret ⟨some (.raw (.int .i64 (-1))), []⟩
  | _, _ => .fail
theorem auditLateOk : ConOk R Try.prog 10 auditLateCon := con_of_fn R (X3) (TabOk.con R X3Ok) mixed Try.call10 Try.func10 auditLateCon (by
  intro args cs K h
  unfold auditLateCon at h
  split at h
  · rename_i L
    rw [Tree.holds_chk] at h
    obtain ⟨hp, h⟩ := h
    refine ⟨noAnn, _, fun v S hv => ⟨_, h, hv⟩, ?_⟩
    rw [auditLateK0Vc L]
    exact auditLateK0Holds L (of_decide_eq_true hp)
  ·
    refine ⟨noAnn, _, fun v S hv => ⟨_, h, hv⟩, ?_⟩
    rw [auditLateK1Vc ]
    exact auditLateK1Holds 
  · exact h.elim)
/-! ### regatta/audit.Order -/
def auditOrderText (L : List Note) : Prop := ((∃ x : Nat × List (Int × Note), (((x.fst ≤ L.length) ∧ (orderGo [] L (0 : Int) = orderGo x.snd (List.drop x.fst L) (↑x.fst : Int))) ∧ ((True ∧ (True ∧ (((-1 : Int) = (-1 : Int)) ∧ (True ∧ (((↑L.length : Int) = (↑L.length : Int)) ∧ (((↑x.fst : Int) = (0 : Int)) ∧ True)))))) ∧ ((L = L) ∧ ((x.snd = []) ∧ True))))) ∧ (∀ x : Nat × List (Int × Note), (((x.fst ≤ L.length) ∧ (orderGo [] L (0 : Int) = orderGo x.snd (List.drop x.fst L) (↑x.fst : Int))) → (match (decide ((↑x.fst : Int) < (↑L.length : Int))) with | true => (match (inb (↑x.fst : Int) L.length) with | true => (match (inb (↑x.fst : Int) L.length) with | true => (match ((mget (at' (T (2 : Nat)).zero L (↑x.fst : Int)).ID x.snd).isSome) with | true => (match (auditFollows (at' (T (2 : Nat)).zero L (↑x.fst : Int)) ((mget (at' (T (2 : Nat)).zero L (↑x.fst : Int)).ID x.snd).getD (Note.mk (0 : Int) (0 : Int) (0 : Int) (0 : Int) (0 : Int) (0 : Int) (0 : Int) (0 : Int) (0 : Int) (0 : Int)))) with | true => (∃ x' : Nat × List (Int × Note), (((x'.fst ≤ L.length) ∧ (orderGo [] L (0 : Int) = orderGo x'.snd (List.drop x'.fst L) (↑x'.fst : Int))) ∧ ((L.length - x'.fst < L.length - x.fst) ∧ ((True ∧ (True ∧ (((-1 : Int) = (-1 : Int)) ∧ (True ∧ (((↑L.length : Int) = (↑L.length : Int)) ∧ (((↑x'.fst : Int) = IntKind.i64.wrap ((↑x.fst : Int) + (1 : Int))) ∧ True)))))) ∧ ((L = L) ∧ ((x'.snd = mput (at' (T (2 : Nat)).zero L (↑x.fst : Int)).ID (at' (T (2 : Nat)).zero L (↑x.fst : Int)) x.snd) ∧ True)))))) | false => (match (!(mget (at' (T (2 : Nat)).zero L (↑x.fst : Int)).ID x.snd).isSome) with | true => (match (!(at' (T (2 : Nat)).zero L (↑x.fst : Int)).SubIndex == (1 : Int)) with | true => (((orderGo [] L (0 : Int) = (↑x.fst : Int)) ∧ True) ∧ ((L = L) ∧ True)) | false => (∃ x' : Nat × List (Int × Note), (((x'.fst ≤ L.length) ∧ (orderGo [] L (0 : Int) = orderGo x'.snd (List.drop x'.fst L) (↑x'.fst : Int))) ∧ ((L.length - x'.fst < L.length - x.fst) ∧ ((True ∧ (True ∧ (((-1 : Int) = (-1 : Int)) ∧ (True ∧ (((↑L.length : Int) = (↑L.length : Int)) ∧ (((↑x'.fst : Int) = IntKind.i64.wrap ((↑x.fst : Int) + (1 : Int))) ∧ True)))))) ∧ ((L = L) ∧ ((x'.snd = mput (at' (T (2 : Nat)).zero L (↑x.fst : Int)).ID (at' (T (2 : Nat)).zero L (↑x.fst : Int)) x.snd) ∧ True))))))) | false => (((orderGo [] L (0 : Int) = (↑x.fst : Int)) ∧ True) ∧ ((L = L) ∧ True)))) | false => (match (!(mget (at' (T (2 : Nat)).zero L (↑x.fst : Int)).ID x.snd).isSome) with | true => (match (!(at' (T (2 : Nat)).zero L (↑x.fst : Int)).SubIndex == (1 : Int)) with | true => (((orderGo [] L (0 : Int) = (↑x.fst : Int)) ∧ True) ∧ ((L = L) ∧ True)) | false => (∃ x' : Nat × List (Int × Note), (((x'.fst ≤ L.length) ∧ (orderGo [] L (0 : Int) = orderGo x'.snd (List.drop x'.fst L) (↑x'.fst : Int))) ∧ ((L.length - x'.fst < L.length - x.fst) ∧ ((True ∧ (True ∧ (((-1 : Int) = (-1 : Int)) ∧ (True ∧ (((↑L.length : Int) = (↑L.length : Int)) ∧ (((↑x'.fst : Int) = IntKind.i64.wrap ((↑x.fst : Int) + (1 : Int))) ∧ True)))))) ∧ ((L = L) ∧ ((x'.snd = mput (at' (T (2 : Nat)).zero L (↑x.fst : Int)).ID (at' (T (2 : Nat)).zero L (↑x.fst : Int)) x.snd) ∧ True))))))) | false => (((orderGo [] L (0 : Int) = (↑x.fst : Int)) ∧ True) ∧ ((L = L) ∧ True)))) | false => False) | false => False) | false => (((orderGo [] L (0 : Int) = (-1 : Int)) ∧ True) ∧ ((L = L) ∧ True))))))
theorem auditOrderVc (L : List Note) : fnX X3 (oneLoop 4 { σ := Nat × List (Int × Note), st := fun S x => (((S.keep [0, 3, 11, 12]).int 13 x.1).int 4 (-1)).at' 3 (.map 2 x.2), inv := fun _ x => x.1 ≤ L.length ∧ orderGo [] L 0 = orderGo x.2 (L.drop x.1) x.1, m := fun x => L.length - x.1 }) Try.f11 [.own 0] [.ro 2 L] (ends [.ro 2 L] ⟨some (.raw (.int .i64 (orderGo [] L 0))), []⟩) = auditOrderText L := by kernel_rfl
theorem auditOrderHolds (L : List Note) (hp : L.length ≤ 140737488355328) : auditOrderText L := by
  unfold auditOrderText
  refine ⟨⟨(0, []), ⟨Nat.zero_le _, rfl⟩, ⟨trivial, trivial, rfl, trivial, rfl, rfl, trivial⟩, rfl, rfl, trivial⟩, ?_⟩
  rintro ⟨x, M⟩ ⟨hx, hs⟩
  dsimp only at hx hs ⊢
  by_cases h : x < L.length
  · rw [dec_lt h, inb_nat h, at_nat h]
    rw [drop_at h] at hs
    simp only [orderGo, orderRight] at hs
    have hw := wrap_succ h hp
    cases hm : mget L[x].ID M with
    | none =>
      rw [hm] at hs
      cases hq : L[x].SubIndex == 1
      · rw [hq] at hs
        simp [hs]
      · rw [hq] at hs
        refine ⟨(x + 1, mput L[x].ID L[x] M), ⟨h, by simpa using hs⟩, by dsimp only; omega, by simp [hw]⟩
    | some a =>
      rw [hm] at hs
      dsimp only at hs
      cases hq : auditFollows L[x] a
      · rw [hq] at hs
        simp [hq, hs]
      · rw [hq] at hs
        simp only [Option.isSome_some, Option.getD_some, hq]
        refine ⟨(x + 1, mput L[x].ID L[x] M), ⟨h, by simpa using hs⟩, by dsimp only; omega, by simp [hw]⟩
  · rw [dec_ge (by omega)]
    rw [List.drop_of_length_le (by omega)] at hs
    exact ⟨⟨hs, trivial⟩, rfl, trivial⟩
noncomputable def auditOrderCon : Con T O := fun args cs => match args, cs with
  | [.own 0], [.ro 2 L] => chk (decide (L.length ≤ 140737488355328)) (.ret ⟨some (.raw (.int .i64 (orderGo [] L 0))), []⟩)
  | _, _ => .fail
theorem auditOrderOk : ConOk R Try.prog 11 auditOrderCon := con_of_fn R (X3) (TabOk.con R X3Ok) mixed Try.call11 Try.func11 auditOrderCon (by
  intro args cs K h
  unfold auditOrderCon at h
  split at h
  · rename_i L
    rw [Tree.holds_chk] at h
    obtain ⟨hp, h⟩ := h
    refine ⟨oneLoop 4 { σ := Nat × List (Int × Note), st := fun S x => (((S.keep [0, 3, 11, 12]).int 13 x.1).int 4 (-1)).at' 3 (.map 2 x.2), inv := fun _ x => x.1 ≤ L.length ∧ orderGo [] L 0 = orderGo x.2 (L.drop x.1) x.1, m := fun x => L.length - x.1 }, _, fun v S hv => ⟨_, h, hv⟩, ?_⟩
    rw [auditOrderVc L]
    exact auditOrderHolds L (of_decide_eq_true hp)
  · exact h.elim)
/-! ### regatta/audit.Slots -/
def auditSlotsText (L : List Note) (m : Int) : Prop := ((∃ x : Nat × List (Int × Bool) × List (Int × Bool), (((x.fst ≤ L.length) ∧ (slotsGo m none [] [] L (0 : Int) = slotsGo m (prevAt L x.fst) x.snd.fst x.snd.snd (List.drop x.fst L) (↑x.fst : Int))) ∧ ((True ∧ ((m = m) ∧ (True ∧ (True ∧ (True ∧ (((↑L.length : Int) = (↑L.length : Int)) ∧ (((↑x.fst : Int) = (0 : Int)) ∧ True))))))) ∧ ((L = L) ∧ ((x.snd.fst = []) ∧ ((x.snd.snd = []) ∧ True)))))) ∧ (∀ x : Nat × List (Int × Bool) × List (Int × Bool), (((x.fst ≤ L.length) ∧ (slotsGo m none [] [] L (0 : Int) = slotsGo m (prevAt L x.fst) x.snd.fst x.snd.snd (List.drop x.fst L) (↑x.fst : Int))) → (match (decide ((↑x.fst : Int) < (↑L.length : Int))) with | true => (match (inb (↑x.fst : Int) L.length) with | true => (match (inb (↑x.fst : Int) L.length) with | true => (match (decide ((↑x.fst : Int) > (0 : Int))) with | true => (match (inb (IntKind.i64.wrap ((↑x.fst : Int) - (1 : Int))) L.length) with | true => (match (inb (IntKind.i64.wrap ((↑x.fst : Int) - (1 : Int))) L.length) with | true => (match ((at' (T (2 : Nat)).zero L (↑x.fst : Int)).At != (at' (T (2 : Nat)).zero L (IntKind.i64.wrap ((↑x.fst : Int) - (1 : Int)))).At) with | true => (match (inb (IntKind.i64.wrap ((↑x.fst : Int) - (1 : Int))) L.length) with | true => (match (inb (IntKind.i64.wrap ((↑x.fst : Int) - (1 : Int))) L.length) with | true => (match (decide ((at' (T (2 : Nat)).zero L (↑x.fst : Int)).At < (at' (T (2 : Nat)).zero L (IntKind.i64.wrap ((↑x.fst : Int) - (1 : Int)))).At)) with | true => (((slotsGo m none [] [] L (0 : Int) = (↑x.fst : Int)) ∧ True) ∧ ((L = L) ∧ True)) | false => (match (decide ((at' (T (2 : Nat)).zero L (↑x.fst : Int)).Core < (0 : Int))) with | true => (((slotsGo m none [] [] L (0 : Int) = (↑x.fst : Int)) ∧ True) ∧ ((L = L) ∧ True)) | false => (match (decide ((at' (T (2 : Nat)).zero L (↑x.fst : Int)).Core ≥ m)) with | true => (((slotsGo m none [] [] L (0 : Int) = (↑x.fst : Int)) ∧ True) ∧ ((L = L) ∧ True)) | false => (match (decide ((↑(0 : Nat) : Int) ≥ m)) with | true => (((slotsGo m none [] [] L (0 : Int) = (↑x.fst : Int)) ∧ True) ∧ ((L = L) ∧ True)) | false => (∃ x' : Nat × List (Int × Bool) × List (Int × Bool), (((x'.fst ≤ L.length) ∧ (slotsGo m none [] [] L (0 : Int) = slotsGo m (prevAt L x'.fst) x'.snd.fst x'.snd.snd (List.drop x'.fst L) (↑x'.fst : Int))) ∧ ((L.length - x'.fst < L.length - x.fst) ∧ ((True ∧ ((m = m) ∧ (True ∧ (True ∧ (True ∧ (((↑L.length : Int) = (↑L.length : Int)) ∧ (((↑x'.fst : Int) = IntKind.i64.wrap ((↑x.fst : Int) + (1 : Int))) ∧ True))))))) ∧ ((L = L) ∧ ((x'.snd.fst = mput (at' (T (2 : Nat)).zero L (↑x.fst : Int)).ID true []) ∧ ((x'.snd.snd = mput (at' (T (2 : Nat)).zero L (↑x.fst : Int)).Core true []) ∧ True))))))))))) | false => False) | false => False) | false => (match (decide ((at' (T (2 : Nat)).zero L (↑x.fst : Int)).Core < (0 : Int))) with | true => (((slotsGo m none [] [] L (0 : Int) = (↑x.fst : Int)) ∧ True) ∧ ((L = L) ∧ True)) | false => (match (decide ((at' (T (2 : Nat)).zero L (↑x.fst : Int)).Core ≥ m)) with | true => (((slotsGo m none [] [] L (0 : Int) = (↑x.fst : Int)) ∧ True) ∧ ((L = L) ∧ True)) | false => (match ((mget (at' (T (2 : Nat)).zero L (↑x.fst : Int)).ID x.snd.fst).getD false) with | true => (((slotsGo m none [] [] L (0 : Int) = (↑x.fst : Int)) ∧ True) ∧ ((L = L) ∧ True)) | false => (match ((mget (at' (T (2 : Nat)).zero L (↑x.fst : Int)).Core x.snd.snd).getD false) with | true => (((slotsGo m none [] [] L (0 : Int) = (↑x.fst : Int)) ∧ True) ∧ ((L = L) ∧ True)) | false => (match (decide ((↑x.snd.fst.length : Int) ≥ m)) with | true => (((slotsGo m none [] [] L (0 : Int) = (↑x.fst : Int)) ∧ True) ∧ ((L = L) ∧ True)) | false => (∃ x' : Nat × List (Int × Bool) × List (Int × Bool), (((x'.fst ≤ L.length) ∧ (slotsGo m none [] [] L (0 : Int) = slotsGo m (prevAt L x'.fst) x'.snd.fst x'.snd.snd (List.drop x'.fst L) (↑x'.fst : Int))) ∧ ((L.length - x'.fst < L.length - x.fst) ∧ ((True ∧ ((m = m) ∧ (True ∧ (True ∧ (True ∧ (((↑L.length : Int) = (↑L.length : Int)) ∧ (((↑x'.fst : Int) = IntKind.i64.wrap ((↑x.fst : Int) + (1 : Int))) ∧ True))))))) ∧ ((L = L) ∧ ((x'.snd.fst = mput (at' (T (2 : Nat)).zero L (↑x.fst : Int)).ID true x.snd.fst) ∧ ((x'.snd.snd = mput (at' (T (2 : Nat)).zero L (↑x.fst : Int)).Core true x.snd.snd) ∧ True))))))))))))) | false => False) | false => False) | false => (match (decide ((at' (T (2 : Nat)).zero L (↑x.fst : Int)).Core < (0 : Int))) with | true => (((slotsGo m none [] [] L (0 : Int) = (↑x.fst : Int)) ∧ True) ∧ ((L = L) ∧ True)) | false => (match (decide ((at' (T (2 : Nat)).zero L (↑x.fst : Int)).Core ≥ m)) with | true => (((slotsGo m none [] [] L (0 : Int) = (↑x.fst : Int)) ∧ True) ∧ ((L = L) ∧ True)) | false => (match ((mget (at' (T (2 : Nat)).zero L (↑x.fst : Int)).ID x.snd.fst).getD false) with | true => (((slotsGo m none [] [] L (0 : Int) = (↑x.fst : Int)) ∧ True) ∧ ((L = L) ∧ True)) | false => (match ((mget (at' (T (2 : Nat)).zero L (↑x.fst : Int)).Core x.snd.snd).getD false) with | true => (((slotsGo m none [] [] L (0 : Int) = (↑x.fst : Int)) ∧ True) ∧ ((L = L) ∧ True)) | false => (match (decide ((↑x.snd.fst.length : Int) ≥ m)) with | true => (((slotsGo m none [] [] L (0 : Int) = (↑x.fst : Int)) ∧ True) ∧ ((L = L) ∧ True)) | false => (∃ x' : Nat × List (Int × Bool) × List (Int × Bool), (((x'.fst ≤ L.length) ∧ (slotsGo m none [] [] L (0 : Int) = slotsGo m (prevAt L x'.fst) x'.snd.fst x'.snd.snd (List.drop x'.fst L) (↑x'.fst : Int))) ∧ ((L.length - x'.fst < L.length - x.fst) ∧ ((True ∧ ((m = m) ∧ (True ∧ (True ∧ (True ∧ (((↑L.length : Int) = (↑L.length : Int)) ∧ (((↑x'.fst : Int) = IntKind.i64.wrap ((↑x.fst : Int) + (1 : Int))) ∧ True))))))) ∧ ((L = L) ∧ ((x'.snd.fst = mput (at' (T (2 : Nat)).zero L (↑x.fst : Int)).ID true x.snd.fst) ∧ ((x'.snd.snd = mput (at' (T (2 : Nat)).zero L (↑x.fst : Int)).Core true x.snd.snd) ∧ True))))))))))))) | false => False) | false => False) | false => (((slotsGo m none [] [] L (0 : Int) = (-1 : Int)) ∧ True) ∧ ((L = L) ∧ True))))))
theorem auditSlotsVc (L : List Note) (m : Int) : fnX X3 (oneLoop 4 { σ := Nat × List (Int × Bool) × List (Int × Bool), st := fun S x => (((S.keep [0, 1, 5, 6, 11, 12]).int 13 x.1).at' 5 (.map 1 x.2.1)).at' 6 (.map 1 x.2.2), inv := fun _ x => x.1 ≤ L.length ∧ slotsGo m none [] [] L 0 = slotsGo m (prevAt L x.1) x.2.1 x.2.2 (L.drop x.1) x.1, m := fun x => L.length - x.1 }) Try.f12 [.own 0, .raw (.int .i64 m)] [.ro 2 L] (ends [.ro 2 L] ⟨some (.raw (.int .i64 (slotsGo m none [] [] L 0))), []⟩) = auditSlotsText L m := by kernel_rfl
theorem auditSlotsHolds (L : List Note) (m : Int) (hp : L.length ≤ 140737488355328) : auditSlotsText L m := by
  unfold auditSlotsText
  refine ⟨⟨(0, [], []), ⟨Nat.zero_le _, rfl⟩, ⟨trivial, rfl, trivial, trivial, trivial, rfl, rfl, trivial⟩, rfl, rfl, rfl, trivial⟩, ?_⟩
  rintro ⟨x, I, C⟩ ⟨hx, hs⟩
  dsimp only at hx hs ⊢
  by_cases h : x < L.length
  · have hw := wrap_succ h hp
    rw [dec_lt h, inb_nat h, at_nat h]
    rw [drop_at h] at hs
    have next : ∀ I' C', slotsGo m none [] [] L 0 = slotsGo m (some L[x].At) I' C' (L.drop (x + 1)) ((x : Int) + 1) → slotsGo m none [] [] L 0 = slotsGo m (prevAt L (x + 1)) I' C' (L.drop (x + 1)) ((x + 1 : Nat) : Int) := by
      intro I' C' h'
      rw [h']
      simp [prevAt, List.getElem?_eq_getElem h]
    have tail : ∀ I' C' (t : Prop), (slotsGo m none [] [] L 0 = bif slotsBad m I' C' L[x] then (x : Int) else slotsGo m (some L[x].At) (mput L[x].ID true I') (mput L[x].Core true C') (L.drop (x + 1)) ((x : Int) + 1)) →
        (t = (∃ x' : Nat × List (Int × Bool) × List (Int × Bool), (((x'.fst ≤ L.length) ∧ (slotsGo m none [] [] L 0 = slotsGo m (prevAt L x'.fst) x'.snd.fst x'.snd.snd (List.drop x'.fst L) (↑x'.fst : Int))) ∧ ((L.length - x'.fst < L.length - x) ∧ ((True ∧ ((m = m) ∧ (True ∧ (True ∧ (True ∧ (((↑L.length : Int) = (↑L.length : Int)) ∧ (((↑x'.fst : Int) = IntKind.i64.wrap ((↑x : Int) + 1)) ∧ True))))))) ∧ ((L = L) ∧ ((x'.snd.fst = mput L[x].ID true I') ∧ ((x'.snd.snd = mput L[x].Core true C') ∧ True)))))))) →
        (match decide (L[x].Core < 0) with
        | true => (slotsGo m none [] [] L 0 = (x : Int) ∧ True) ∧ L = L ∧ True
        | false => match decide (L[x].Core ≥ m) with
          | true => (slotsGo m none [] [] L 0 = (x : Int) ∧ True) ∧ L = L ∧ True
          | false => match (mget L[x].ID I').getD false with
            | true => (slotsGo m none [] [] L 0 = (x : Int) ∧ True) ∧ L = L ∧ True
            | false => match (mget L[x].Core C').getD false with
              | true => (slotsGo m none [] [] L 0 = (x : Int) ∧ True) ∧ L = L ∧ True
              | false => match decide ((I'.length : Int) ≥ m) with
                | true => (slotsGo m none [] [] L 0 = (x : Int) ∧ True) ∧ L = L ∧ True
                | false => t) := by
      rintro I' C' t h' rfl
      unfold slotsBad has at h'
      cases h1 : decide (L[x].Core < 0) <;> simp only [h1, Bool.true_or, Bool.false_or, cond_true] at h' ⊢
      · cases h2 : decide (L[x].Core ≥ m) <;> simp only [h2, Bool.true_or, Bool.false_or, cond_true] at h' ⊢
        · cases h3 : (mget L[x].ID I').getD false <;> simp only [h3, Bool.true_or, Bool.false_or, cond_true] at h' ⊢
          · cases h4 : (mget L[x].Core C').getD false <;> simp only [h4, Bool.true_or, Bool.false_or, cond_true] at h' ⊢
            · cases h5 : decide ((I'.length : Int) ≥ m) <;> simp only [h5, cond_false, cond_true] at h' ⊢
              · refine ⟨(x + 1, mput L[x].ID true I', mput L[x].Core true C'), ⟨h, next _ _ h'⟩, by dsimp only; omega, by simp [hw]⟩
              · simp [h']
            · simp [h']
          · simp [h']
        · simp [h']
      · simp [h']
    simp only [slotsGo] at hs
    cases x with
    | zero =>
      simp only [prevAt, back?, fresh?, cond_false] at hs
      exact tail I C _ hs rfl
    | succ k =>
      have hk : k < L.length := by omega
      have e1 : IntKind.i64.wrap (((k + 1 : Nat) : Int) - 1) = (k : Int) := by rw [wrap_id (by omega) (by omega)] <;> omega
      have e2 : decide (((k + 1 : Nat) : Int) > 0) = true := by simp <;> omega
      rw [e1, e2, inb_nat hk, at_nat hk]
      simp only [prevAt, List.getElem?_eq_getElem hk, Option.map_some, back?, fresh?] at hs
      dsimp only
      cases h1 : L[k + 1].At != L[k].At
      · have h2 : decide (L[k + 1].At < L[k].At) = false := by simp at h1 ⊢; omega
        simp only [h1, h2, cond_false] at hs
        exact tail I C _ hs rfl
      · cases h2 : decide (L[k + 1].At < L[k].At)
        · simp only [h1, h2, cond_false, cond_true] at hs
          exact tail [] [] _ hs rfl
        · simp only [h2, cond_true] at hs
          simp [hs]
  · rw [dec_ge (by omega)]
    rw [List.drop_of_length_le (by omega)] at hs
    exact ⟨⟨hs, trivial⟩, rfl, trivial⟩
noncomputable def auditSlotsCon : Con T O := fun args cs => match args, cs with
  | [.own 0, .raw (.int .i64 m)], [.ro 2 L] => chk (decide (L.length ≤ 140737488355328)) (.ret ⟨some (.raw (.int .i64 (slotsGo m none [] [] L 0))), []⟩)
  | _, _ => .fail
theorem auditSlotsOk : ConOk R Try.prog 12 auditSlotsCon := con_of_fn R (X3) (TabOk.con R X3Ok) mixed Try.call12 Try.func12 auditSlotsCon (by
  intro args cs K h
  unfold auditSlotsCon at h
  split at h
  · rename_i m L
    rw [Tree.holds_chk] at h
    obtain ⟨hp, h⟩ := h
    refine ⟨oneLoop 4 { σ := Nat × List (Int × Bool) × List (Int × Bool), st := fun S x => (((S.keep [0, 1, 5, 6, 11, 12]).int 13 x.1).at' 5 (.map 1 x.2.1)).at' 6 (.map 1 x.2.2), inv := fun _ x => x.1 ≤ L.length ∧ slotsGo m none [] [] L 0 = slotsGo m (prevAt L x.1) x.2.1 x.2.2 (L.drop x.1) x.1, m := fun x => L.length - x.1 }, _, fun v S hv => ⟨_, h, hv⟩, ?_⟩
    rw [auditSlotsVc L m]
    exact auditSlotsHolds L m (of_decide_eq_true hp)
  · exact h.elim)
/-! ### regatta/audit.Ran -/
def auditRanText (L : List Note) (id since lo hi : Int) : Prop := ((∃ x : Nat, ((x.le L.length) ∧ ((True ∧ ((id = id) ∧ ((since = since) ∧ ((lo = lo) ∧ ((hi = hi) ∧ (((↑(ranN id since lo hi (List.take x L)) : Int) = (0 : Int)) ∧ (True ∧ (((↑L.length : Int) = (↑L.length : Int)) ∧ (((↑x : Int) = (0 : Int)) ∧ True))))))))) ∧ ((L = L) ∧ True)))) ∧ (∀ x : Nat, ((x.le L.length) → (match (decide ((↑x : Int) < (↑L.length : Int))) with | true => (match (inb (↑x : Int) L.length) with | true => (match (inb (↑x : Int) L.length) with | true => (match ((at' (T (2 : Nat)).zero L (↑x : Int)).ID == id) with | true => (match ((at' (T (2 : Nat)).zero L (↑x : Int)).Since == since) with | true => (match (decide (lo ≤ (at' (T (2 : Nat)).zero L (↑x : Int)).At)) with | true => (match (decide ((at' (T (2 : Nat)).zero L (↑x : Int)).At < hi)) with | true => (∃ x' : Nat, ((x'.le L.length) ∧ ((L.length - x' < L.length - x) ∧ ((True ∧ ((id = id) ∧ ((since = since) ∧ ((lo = lo) ∧ ((hi = hi) ∧ (((↑(ranN id since lo hi (List.take x' L)) : Int) = IntKind.i64.wrap ((↑(ranN id since lo hi (List.take x L)) : Int) + (1 : Int))) ∧ (True ∧ (((↑L.length : Int) = (↑L.length : Int)) ∧ (((↑x' : Int) = IntKind.i64.wrap ((↑x : Int) + (1 : Int))) ∧ True))))))))) ∧ ((L = L) ∧ True))))) | false => (∃ x' : Nat, ((x'.le L.length) ∧ ((L.length - x' < L.length - x) ∧ ((True ∧ ((id = id) ∧ ((since = since) ∧ ((lo = lo) ∧ ((hi = hi) ∧ (((↑(ranN id since lo hi (List.take x' L)) : Int) = (↑(ranN id since lo hi (List.take x L)) : Int)) ∧ (True ∧ (((↑L.length : Int) = (↑L.length : Int)) ∧ (((↑x' : Int) = IntKind.i64.wrap ((↑x : Int) + (1 : Int))) ∧ True))))))))) ∧ ((L = L) ∧ True)))))) | false => (∃ x' : Nat, ((x'.le L.length) ∧ ((L.length - x' < L.length - x) ∧ ((True ∧ ((id = id) ∧ ((since = since) ∧ ((lo = lo) ∧ ((hi = hi) ∧ (((↑(ranN id since lo hi (List.take x' L)) : Int) = (↑(ranN id since lo hi (List.take x L)) : Int)) ∧ (True ∧ (((↑L.length : Int) = (↑L.length : Int)) ∧ (((↑x' : Int) = IntKind.i64.wrap ((↑x : Int) + (1 : Int))) ∧ True))))))))) ∧ ((L = L) ∧ True)))))) | false => (∃ x' : Nat, ((x'.le L.length) ∧ ((L.length - x' < L.length - x) ∧ ((True ∧ ((id = id) ∧ ((since = since) ∧ ((lo = lo) ∧ ((hi = hi) ∧ (((↑(ranN id since lo hi (List.take x' L)) : Int) = (↑(ranN id since lo hi (List.take x L)) : Int)) ∧ (True ∧ (((↑L.length : Int) = (↑L.length : Int)) ∧ (((↑x' : Int) = IntKind.i64.wrap ((↑x : Int) + (1 : Int))) ∧ True))))))))) ∧ ((L = L) ∧ True)))))) | false => (∃ x' : Nat, ((x'.le L.length) ∧ ((L.length - x' < L.length - x) ∧ ((True ∧ ((id = id) ∧ ((since = since) ∧ ((lo = lo) ∧ ((hi = hi) ∧ (((↑(ranN id since lo hi (List.take x' L)) : Int) = (↑(ranN id since lo hi (List.take x L)) : Int)) ∧ (True ∧ (((↑L.length : Int) = (↑L.length : Int)) ∧ (((↑x' : Int) = IntKind.i64.wrap ((↑x : Int) + (1 : Int))) ∧ True))))))))) ∧ ((L = L) ∧ True)))))) | false => False) | false => False) | false => ((((↑(ranN id since lo hi L) : Int) = (↑(ranN id since lo hi (List.take x L)) : Int)) ∧ True) ∧ ((L = L) ∧ True))))))
theorem auditRanVc (L : List Note) (id since lo hi : Int) : fnX X3 (oneLoop 3 { σ := Nat, st := fun S x => ((S.keep [0, 1, 2, 3, 4, 14, 15]).int 16 x).int 11 (ranN id since lo hi (L.take x)), inv := fun _ x => x ≤ L.length, m := fun x => L.length - x }) Try.f16 [.own 0, .raw (.int .i64 id), .raw (.int .i64 since), .raw (.int .i64 lo), .raw (.int .i64 hi)] [.ro 2 L] (ends [.ro 2 L] ⟨some (.raw (.int .i64 (ranN id since lo hi L))), []⟩) = auditRanText L id since lo hi := by kernel_rfl
theorem auditRanHolds (L : List Note) (id since lo hi : Int) (hp : L.length ≤ 140737488355328) : auditRanText L id since lo hi := by
  unfold auditRanText
  refine ⟨⟨0, Nat.zero_le _, ⟨trivial, rfl, rfl, rfl, rfl, rfl, trivial, rfl, rfl, trivial⟩, rfl, trivial⟩, ?_⟩
  intro x hx
  by_cases h : x < L.length
  · have hw := wrap_succ h hp
    have hr : (ranN id since lo hi (L.take (x + 1)) : Int) = if ranOf id since lo hi L[x] then (ranN id since lo hi (L.take x) : Int) + 1 else ranN id since lo hi (L.take x) := by
      unfold ranN
      rw [take_at h, List.countP_append]
      by_cases hq : ranOf id since lo hi L[x] = true <;> simp [List.countP_cons, hq]
    have hn : ranN id since lo hi (L.take x) ≤ x := Nat.le_trans List.countP_le_length (by simp; omega)
    have hwn : IntKind.i64.wrap ((ranN id since lo hi (L.take x) : Int) + 1) = (ranN id since lo hi (L.take x) : Int) + 1 := wrap_id (by omega) (by omega)
    rw [dec_lt h, inb_nat h, at_nat h, hwn]
    unfold ranOf at hr
    cases h1 : L[x].ID == id <;> rw [h1] at hr
    · exact ⟨x + 1, h, by omega, ⟨trivial, rfl, rfl, rfl, rfl, by simpa using hr, trivial, rfl, hw.symm, trivial⟩, rfl, trivial⟩
    cases h2 : L[x].Since == since <;> rw [h2] at hr
    · exact ⟨x + 1, h, by omega, ⟨trivial, rfl, rfl, rfl, rfl, by simpa using hr, trivial, rfl, hw.symm, trivial⟩, rfl, trivial⟩
    cases h3 : decide (lo ≤ L[x].At) <;> rw [h3] at hr
    · exact ⟨x + 1, h, by omega, ⟨trivial, rfl, rfl, rfl, rfl, by simpa using hr, trivial, rfl, hw.symm, trivial⟩, rfl, trivial⟩
    cases h4 : decide (L[x].At < hi) <;> rw [h4] at hr
    · exact ⟨x + 1, h, by omega, ⟨trivial, rfl, rfl, rfl, rfl, by simpa using hr, trivial, rfl, hw.symm, trivial⟩, rfl, trivial⟩
    · exact ⟨x + 1, h, by omega, ⟨trivial, rfl, rfl, rfl, rfl, by simpa using hr, trivial, rfl, hw.symm, trivial⟩, rfl, trivial⟩
  · rw [dec_ge (by omega)]
    exact ⟨⟨by rw [List.take_of_length_le (by omega)], trivial⟩, rfl, trivial⟩
noncomputable def auditRanCon : Con T O := fun args cs => match args, cs with
  | [.own 0, .raw (.int .i64 id), .raw (.int .i64 since), .raw (.int .i64 lo), .raw (.int .i64 hi)], [.ro 2 L] => chk (decide (L.length ≤ 140737488355328)) (.ret ⟨some (.raw (.int .i64 (ranN id since lo hi L))), []⟩)
  | _, _ => .fail
theorem auditRanOk : ConOk R Try.prog 16 auditRanCon := con_of_fn R (X3) (TabOk.con R X3Ok) mixed Try.call16 Try.func16 auditRanCon (by
  intro args cs K h
  unfold auditRanCon at h
  split at h
  · rename_i id since lo hi L
    rw [Tree.holds_chk] at h
    obtain ⟨hp, h⟩ := h
    refine ⟨oneLoop 3 { σ := Nat, st := fun S x => ((S.keep [0, 1, 2, 3, 4, 14, 15]).int 16 x).int 11 (ranN id since lo hi (L.take x)), inv := fun _ x => x ≤ L.length, m := fun x => L.length - x }, _, fun v S hv => ⟨_, h, hv⟩, ?_⟩
    rw [auditRanVc L id since lo hi]
    exact auditRanHolds L id since lo hi (of_decide_eq_true hp)
  · exact h.elim)
noncomputable def tab4 : Tab T O := (10, auditLateCon) :: (11, auditOrderCon) :: (12, auditSlotsCon) :: (16, auditRanCon) :: tab3
theorem tabOk4 : TabOk R Try.prog tab4 := TabOk.cons R auditLateOk <| TabOk.cons R auditOrderOk <| TabOk.cons R auditSlotsOk <| TabOk.cons R auditRanOk <| tabOk3
noncomputable def X4 : Ctx T O := { X0 with con := conOf tab4 }
theorem X4Ok : TabOk R X4.P tab4 := tabOk4
end Go.Proofs.Ytkcnocigkblbiaa
