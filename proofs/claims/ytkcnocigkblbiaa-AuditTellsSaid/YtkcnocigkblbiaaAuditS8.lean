/-
  Part of a proof over the seat Ytkcnocigkblbiaa: printed by a small program or typed by hand.
-/
import Derived.Test.YtkcnocigkblbiaaAuditS7
import Derived.KernelRfl
namespace Go.Proofs.Ytkcnocigkblbiaa
open Go.Sx Go.Proofs Classical

def lastK (L : List Note) (id : Int) : Nat → Int
  | 0 => -1
  | k + 1 => bif (at' noteE.zero L k).ID == id then k else lastK L id k
def clashOf (a n : Note) : Bool := a.At == n.At && (a.ID == n.ID || a.Core == n.Core)
def clash (L : List Note) (k : Nat) (n : Note) : Bool := (L.take k).any fun a => clashOf a n
def sameN (L : List Note) (k : Nat) (n : Note) : Nat := (L.take k).countP fun a => a.At == n.At
def badS (L : List Note) (m : Int) (x : Nat) : Bool := (decide (0 < x) && decide ((at' noteE.zero L x).At < (at' noteE.zero L (x - 1 : Nat)).At)) || decide ((at' noteE.zero L x).Core < 0) || decide ((at' noteE.zero L x).Core ≥ m) || clash L x (at' noteE.zero L x) || decide ((sameN L x (at' noteE.zero L x) : Int) ≥ m)
/-- the first place, of so many from one on, where something is so -/
def firstN (p : Nat → Bool) : Nat → Nat → Int
  | 0, _ => -1
  | n + 1, x => bif p x then x else firstN p n (x + 1)

/-! ### regatta/regattaref20.Late -/
def ref20LateText (L : List Note) : Prop := ((∃ x : Nat, (((x ≤ L.length) ∧ (firstI (fun n => !ref20Timely n) L 0 = firstI (fun n => !ref20Timely n) (List.drop x L) (↑x : Int))) ∧ ((True ∧ (((↑x : Int) = 0) ∧ True)) ∧ ((L = L) ∧ True)))) ∧ (∀ x : Nat, (((x ≤ L.length) ∧ (firstI (fun n => !ref20Timely n) L 0 = firstI (fun n => !ref20Timely n) (List.drop x L) (↑x : Int))) → (match (decide ((↑x : Int) < (↑L.length : Int))) with | true => (match (inb (↑x : Int) L.length) with | true => (match (inb (↑x : Int) L.length) with | true => (match (!ref20Timely (at' noteE.zero L (↑x : Int))) with | true => (((firstI (fun n => !ref20Timely n) L 0 = (↑x : Int)) ∧ True) ∧ ((L = L) ∧ True)) | false => (∃ x' : Nat, (((x' ≤ L.length) ∧ (firstI (fun n => !ref20Timely n) L 0 = firstI (fun n => !ref20Timely n) (List.drop x' L) (↑x' : Int))) ∧ ((L.length - x' < L.length - x) ∧ ((True ∧ (((↑x' : Int) = IntKind.i64.wrap ((↑x : Int) + 1)) ∧ True)) ∧ ((L = L) ∧ True)))))) | false => False) | false => False) | false => (((firstI (fun n => !ref20Timely n) L 0 = -1) ∧ True) ∧ ((L = L) ∧ True))))))
theorem ref20LateVc (L : List Note) : fnX X7 (oneLoop 2 { σ := Nat, st := fun S x => (S.keep [0]).int 3 x, inv := fun _ x => x ≤ L.length ∧ firstI (fun n => !ref20Timely n) L 0 = firstI (fun n => !ref20Timely n) (L.drop x) x, m := fun x => L.length - x }) Try.f28 [.own 0] [.ro 2 L] (ends [.ro 2 L] ⟨some (.raw (.int .i64 (firstI (fun n => !ref20Timely n) L 0))), []⟩) = ref20LateText L := by kernel_rfl
theorem ref20LateHolds (L : List Note) (hp : L.length ≤ 140737488355328) : ref20LateText L := by
  unfold ref20LateText
  refine ⟨⟨0, ⟨by omega, rfl⟩, ⟨trivial, rfl, trivial⟩, rfl, trivial⟩, ?_⟩
  rintro x ⟨hx, hs⟩
  by_cases h : x < L.length
  · rw [dec_lt h, inb_nat h, at_nat h]
    rw [drop_at h] at hs
    simp only [firstI] at hs
    cases hp2 : ref20Timely L[x]
    · rw [hp2] at hs
      exact ⟨⟨by simpa using hs, trivial⟩, rfl, trivial⟩
    · rw [hp2] at hs
      exact ⟨x + 1, ⟨by omega, by simpa using hs⟩, by omega, ⟨trivial, (wrap_succ h (by omega)).symm, trivial⟩, rfl, trivial⟩
  · rw [dec_ge (by omega)]
    rw [List.drop_of_length_le (by omega)] at hs
    exact ⟨⟨hs, trivial⟩, rfl, trivial⟩
noncomputable def ref20LateCon : Con T O := fun args cs => match args, cs with
  | [.own 0], [.ro 2 L] => chk (decide (L.length ≤ 140737488355328)) (.ret ⟨some (.raw (.int .i64 (firstI (fun n => !ref20Timely n) L 0))), []⟩)
  | _, _ => .fail
theorem ref20LateOk : ConOk R Try.prog 28 ref20LateCon := con_of_fn R (X7) (TabOk.con R X7Ok) mixed Try.call28 Try.func28 ref20LateCon (by
  intro args cs K h
  unfold ref20LateCon at h
  split at h
  · rename_i L
    rw [Tree.holds_chk] at h
    obtain ⟨hp, h⟩ := h
    refine ⟨oneLoop 2 { σ := Nat, st := fun S x => (S.keep [0]).int 3 x, inv := fun _ x => x ≤ L.length ∧ firstI (fun n => !ref20Timely n) L 0 = firstI (fun n => !ref20Timely n) (L.drop x) x, m := fun x => L.length - x }, _, fun v S hv => ⟨_, h, hv⟩, ?_⟩
    rw [ref20LateVc L]
    exact ref20LateHolds L (of_decide_eq_true hp)
  · exact h.elim)
/-! ### regatta/regattaref20.last -/
def ref20LastText (L : List Note) (i : Int) : Prop := ((∃ x : Nat, (((x ≤ i.toNat) ∧ (lastK L (at' noteE.zero L i).ID i.toNat = lastK L (at' noteE.zero L i).ID x)) ∧ ((True ∧ ((i = i) ∧ (((↑x : Int) - 1 = IntKind.i64.wrap (i - 1)) ∧ True))) ∧ ((L = L) ∧ True)))) ∧ (∀ x : Nat, (((x ≤ i.toNat) ∧ (lastK L (at' noteE.zero L i).ID i.toNat = lastK L (at' noteE.zero L i).ID x)) → (match (decide ((↑x : Int) - 1 ≥ 0)) with | true => (match (inb ((↑x : Int) - 1) L.length) with | true => (match (inb ((↑x : Int) - 1) L.length) with | true => (match (inb i L.length) with | true => (match (inb i L.length) with | true => (match ((at' noteE.zero L ((↑x : Int) - 1)).ID == (at' noteE.zero L i).ID) with | true => (((lastK L (at' noteE.zero L i).ID i.toNat = (↑x : Int) - 1) ∧ True) ∧ ((L = L) ∧ True)) | false => (∃ x' : Nat, (((x' ≤ i.toNat) ∧ (lastK L (at' noteE.zero L i).ID i.toNat = lastK L (at' noteE.zero L i).ID x')) ∧ ((x' < x) ∧ ((True ∧ ((i = i) ∧ (((↑x' : Int) - 1 = IntKind.i64.wrap ((↑x : Int) - 1 - 1)) ∧ True))) ∧ ((L = L) ∧ True)))))) | false => False) | false => False) | false => False) | false => False) | false => (((lastK L (at' noteE.zero L i).ID i.toNat = -1) ∧ True) ∧ ((L = L) ∧ True))))))
theorem ref20LastVc (L : List Note) (i : Int) : fnX X7 (oneLoop 2 { σ := Nat, st := fun S x => (S.keep [0, 1]).int 5 ((x : Int) - 1), inv := fun _ x => x ≤ i.toNat ∧ lastK L (at' noteE.zero L i).ID i.toNat = lastK L (at' noteE.zero L i).ID x, m := fun x => x }) Try.f42 [.own 0, .raw (.int .i64 i)] [.ro 2 L] (ends [.ro 2 L] ⟨some (.raw (.int .i64 (lastK L (at' noteE.zero L i).ID i.toNat))), []⟩) = ref20LastText L i := by kernel_rfl
theorem ref20LastHolds (L : List Note) (i : Int) (hp : 0 ≤ i ∧ i < L.length ∧ L.length ≤ 140737488355328) : ref20LastText L i := by
  unfold ref20LastText
  obtain ⟨h0, h1, h2⟩ := hp
  obtain ⟨n, rfl⟩ := Int.eq_ofNat_of_zero_le h0
  have hn : n < L.length := by omega
  rw [Int.toNat_natCast]
  refine ⟨⟨n, ⟨Nat.le_refl _, rfl⟩, ⟨trivial, rfl, ?_, trivial⟩, rfl, trivial⟩, ?_⟩
  · rw [wrap_id (by omega) (by omega)]
  rintro x ⟨hx, hs⟩
  cases x with
  | zero =>
    rw [show decide (((0 : Nat) : Int) - 1 ≥ 0) = false from rfl]
    exact ⟨⟨hs, trivial⟩, rfl, trivial⟩
  | succ k =>
    have e1 : (((k + 1 : Nat) : Int) - 1) = (k : Int) := by omega
    have hk : k < L.length := by omega
    rw [e1, show decide ((k : Int) ≥ 0) = true from decide_eq_true (by omega), inb_nat hk, inb_nat hn]
    rw [wrap_id (n := (k : Int) - 1) (by omega) (by omega)]
    simp only [lastK] at hs
    cases hq : (at' noteE.zero L k).ID == (at' noteE.zero L n).ID
    · rw [hq] at hs
      exact ⟨k, ⟨by omega, hs⟩, by omega, ⟨trivial, rfl, rfl, trivial⟩, rfl, trivial⟩
    · rw [hq] at hs
      exact ⟨⟨hs, trivial⟩, rfl, trivial⟩
noncomputable def ref20LastCon : Con T O := fun args cs => match args, cs with
  | [.own 0, .raw (.int .i64 i)], [.ro 2 L] => chk (decide (0 ≤ i ∧ i < L.length ∧ L.length ≤ 140737488355328)) (.ret ⟨some (.raw (.int .i64 (lastK L (at' noteE.zero L i).ID i.toNat))), []⟩)
  | _, _ => .fail
theorem ref20LastOk : ConOk R Try.prog 42 ref20LastCon := con_of_fn R (X7) (TabOk.con R X7Ok) mixed Try.call42 Try.func42 ref20LastCon (by
  intro args cs K h
  unfold ref20LastCon at h
  split at h
  · rename_i i L
    rw [Tree.holds_chk] at h
    obtain ⟨hp, h⟩ := h
    refine ⟨oneLoop 2 { σ := Nat, st := fun S x => (S.keep [0, 1]).int 5 ((x : Int) - 1), inv := fun _ x => x ≤ i.toNat ∧ lastK L (at' noteE.zero L i).ID i.toNat = lastK L (at' noteE.zero L i).ID x, m := fun x => x }, _, fun v S hv => ⟨_, h, hv⟩, ?_⟩
    rw [ref20LastVc L i]
    exact ref20LastHolds L i (of_decide_eq_true hp)
  · exact h.elim)
/-! ### regatta/regattaref20.Slots -/
def ref20SlotsText (L : List Note) (m : Int) : Prop := ((∃ x : Nat, (((x ≤ L.length) ∧ (firstN (badS L m) L.length 0 = firstN (badS L m) (L.length - x) x)) ∧ ((True ∧ ((m = m) ∧ (((↑x : Int) = 0) ∧ True))) ∧ ((L = L) ∧ True)))) ∧ (∀ x : Nat, (((x ≤ L.length) ∧ (firstN (badS L m) L.length 0 = firstN (badS L m) (L.length - x) x)) → (match (decide ((↑x : Int) < (↑L.length : Int))) with | true => (match (decide ((↑x : Int) > 0)) with | true => (match (inb (↑x : Int) L.length) with | true => (match (inb (↑x : Int) L.length) with | true => (match (inb (IntKind.i64.wrap ((↑x : Int) - 1)) L.length) with | true => (match (inb (IntKind.i64.wrap ((↑x : Int) - 1)) L.length) with | true => (match (decide ((at' noteE.zero L (↑x : Int)).At < (at' noteE.zero L (IntKind.i64.wrap ((↑x : Int) - 1))).At)) with | true => (((firstN (badS L m) L.length 0 = (↑x : Int)) ∧ True) ∧ ((L = L) ∧ True)) | false => (match (inb (↑x : Int) L.length) with | true => (match (inb (↑x : Int) L.length) with | true => (match (decide ((at' noteE.zero L (↑x : Int)).Core < 0)) with | true => (((firstN (badS L m) L.length 0 = (↑x : Int)) ∧ True) ∧ ((L = L) ∧ True)) | false => (match (inb (↑x : Int) L.length) with | true => (match (inb (↑x : Int) L.length) with | true => (match (decide ((at' noteE.zero L (↑x : Int)).Core ≥ m)) with | true => (((firstN (badS L m) L.length 0 = (↑x : Int)) ∧ True) ∧ ((L = L) ∧ True)) | false => ((∃ x1 : Nat, (((x1 ≤ (↑x : Int).toNat) ∧ (clash L x1 (at' noteE.zero L (↑x : Int)) = false)) ∧ ((True ∧ ((m = m) ∧ (((↑x : Int) = (↑x : Int)) ∧ (((↑(sameN L x1 (at' noteE.zero L (↑x : Int))) : Int) = 0) ∧ (((↑x1 : Int) = 0) ∧ True))))) ∧ ((L = L) ∧ True)))) ∧ (∀ x1 : Nat, (((x1 ≤ (↑x : Int).toNat) ∧ (clash L x1 (at' noteE.zero L (↑x : Int)) = false)) → (match (decide ((↑x1 : Int) < (↑x : Int))) with | true => (match (inb (↑x1 : Int) L.length) with | true => (match (inb (↑x1 : Int) L.length) with | true => (match (inb (↑x : Int) L.length) with | true => (match (inb (↑x : Int) L.length) with | true => (match ((at' noteE.zero L (↑x1 : Int)).At != (at' noteE.zero L (↑x : Int)).At) with | true => (∃ x' : Nat, (((x' ≤ (↑x : Int).toNat) ∧ (clash L x' (at' noteE.zero L (↑x : Int)) = false)) ∧ ((L.length - x' < L.length - x1) ∧ ((True ∧ ((m = m) ∧ (((↑x : Int) = (↑x : Int)) ∧ (((↑(sameN L x' (at' noteE.zero L (↑x : Int))) : Int) = (↑(sameN L x1 (at' noteE.zero L (↑x : Int))) : Int)) ∧ (((↑x' : Int) = IntKind.i64.wrap ((↑x1 : Int) + 1)) ∧ True))))) ∧ ((L = L) ∧ True))))) | false => (match (inb (↑x1 : Int) L.length) with | true => (match (inb (↑x1 : Int) L.length) with | true => (match (inb (↑x : Int) L.length) with | true => (match (inb (↑x : Int) L.length) with | true => (match ((at' noteE.zero L (↑x1 : Int)).ID == (at' noteE.zero L (↑x : Int)).ID) with | true => (((firstN (badS L m) L.length 0 = (↑x : Int)) ∧ True) ∧ ((L = L) ∧ True)) | false => (match (inb (↑x1 : Int) L.length) with | true => (match (inb (↑x1 : Int) L.length) with | true => (match (inb (↑x : Int) L.length) with | true => (match (inb (↑x : Int) L.length) with | true => (match ((at' noteE.zero L (↑x1 : Int)).Core == (at' noteE.zero L (↑x : Int)).Core) with | true => (((firstN (badS L m) L.length 0 = (↑x : Int)) ∧ True) ∧ ((L = L) ∧ True)) | false => (∃ x' : Nat, (((x' ≤ (↑x : Int).toNat) ∧ (clash L x' (at' noteE.zero L (↑x : Int)) = false)) ∧ ((L.length - x' < L.length - x1) ∧ ((True ∧ ((m = m) ∧ (((↑x : Int) = (↑x : Int)) ∧ (((↑(sameN L x' (at' noteE.zero L (↑x : Int))) : Int) = IntKind.i64.wrap ((↑(sameN L x1 (at' noteE.zero L (↑x : Int))) : Int) + 1)) ∧ (((↑x' : Int) = IntKind.i64.wrap ((↑x1 : Int) + 1)) ∧ True))))) ∧ ((L = L) ∧ True)))))) | false => False) | false => False) | false => False) | false => False)) | false => False) | false => False) | false => False) | false => False)) | false => False) | false => False) | false => False) | false => False) | false => (match (decide ((↑(sameN L x1 (at' noteE.zero L (↑x : Int))) : Int) ≥ m)) with | true => (((firstN (badS L m) L.length 0 = (↑x : Int)) ∧ True) ∧ ((L = L) ∧ True)) | false => (∃ x' : Nat, (((x' ≤ L.length) ∧ (firstN (badS L m) L.length 0 = firstN (badS L m) (L.length - x') x')) ∧ ((L.length - x' < L.length - x) ∧ ((True ∧ ((m = m) ∧ (((↑x' : Int) = IntKind.i64.wrap ((↑x : Int) + 1)) ∧ True))) ∧ ((L = L) ∧ True))))))))))) | false => False) | false => False)) | false => False) | false => False)) | false => False) | false => False) | false => False) | false => False) | false => (match (inb (↑x : Int) L.length) with | true => (match (inb (↑x : Int) L.length) with | true => (match (decide ((at' noteE.zero L (↑x : Int)).Core < 0)) with | true => (((firstN (badS L m) L.length 0 = (↑x : Int)) ∧ True) ∧ ((L = L) ∧ True)) | false => (match (inb (↑x : Int) L.length) with | true => (match (inb (↑x : Int) L.length) with | true => (match (decide ((at' noteE.zero L (↑x : Int)).Core ≥ m)) with | true => (((firstN (badS L m) L.length 0 = (↑x : Int)) ∧ True) ∧ ((L = L) ∧ True)) | false => ((∃ x1 : Nat, (((x1 ≤ (↑x : Int).toNat) ∧ (clash L x1 (at' noteE.zero L (↑x : Int)) = false)) ∧ ((True ∧ ((m = m) ∧ (((↑x : Int) = (↑x : Int)) ∧ (((↑(sameN L x1 (at' noteE.zero L (↑x : Int))) : Int) = 0) ∧ (((↑x1 : Int) = 0) ∧ True))))) ∧ ((L = L) ∧ True)))) ∧ (∀ x1 : Nat, (((x1 ≤ (↑x : Int).toNat) ∧ (clash L x1 (at' noteE.zero L (↑x : Int)) = false)) → (match (decide ((↑x1 : Int) < (↑x : Int))) with | true => (match (inb (↑x1 : Int) L.length) with | true => (match (inb (↑x1 : Int) L.length) with | true => (match (inb (↑x : Int) L.length) with | true => (match (inb (↑x : Int) L.length) with | true => (match ((at' noteE.zero L (↑x1 : Int)).At != (at' noteE.zero L (↑x : Int)).At) with | true => (∃ x' : Nat, (((x' ≤ (↑x : Int).toNat) ∧ (clash L x' (at' noteE.zero L (↑x : Int)) = false)) ∧ ((L.length - x' < L.length - x1) ∧ ((True ∧ ((m = m) ∧ (((↑x : Int) = (↑x : Int)) ∧ (((↑(sameN L x' (at' noteE.zero L (↑x : Int))) : Int) = (↑(sameN L x1 (at' noteE.zero L (↑x : Int))) : Int)) ∧ (((↑x' : Int) = IntKind.i64.wrap ((↑x1 : Int) + 1)) ∧ True))))) ∧ ((L = L) ∧ True))))) | false => (match (inb (↑x1 : Int) L.length) with | true => (match (inb (↑x1 : Int) L.length) with | true => (match (inb (↑x : Int) L.length) with | true => (match (inb (↑x : Int) L.length) with | true => (match ((at' noteE.zero L (↑x1 : Int)).ID == (at' noteE.zero L (↑x : Int)).ID) with | true => (((firstN (badS L m) L.length 0 = (↑x : Int)) ∧ True) ∧ ((L = L) ∧ True)) | false => (match (inb (↑x1 : Int) L.length) with | true => (match (inb (↑x1 : Int) L.length) with | true => (match (inb (↑x : Int) L.length) with | true => (match (inb (↑x : Int) L.length) with | true => (match ((at' noteE.zero L (↑x1 : Int)).Core == (at' noteE.zero L (↑x : Int)).Core) with | true => (((firstN (badS L m) L.length 0 = (↑x : Int)) ∧ True) ∧ ((L = L) ∧ True)) | false => (∃ x' : Nat, (((x' ≤ (↑x : Int).toNat) ∧ (clash L x' (at' noteE.zero L (↑x : Int)) = false)) ∧ ((L.length - x' < L.length - x1) ∧ ((True ∧ ((m = m) ∧ (((↑x : Int) = (↑x : Int)) ∧ (((↑(sameN L x' (at' noteE.zero L (↑x : Int))) : Int) = IntKind.i64.wrap ((↑(sameN L x1 (at' noteE.zero L (↑x : Int))) : Int) + 1)) ∧ (((↑x' : Int) = IntKind.i64.wrap ((↑x1 : Int) + 1)) ∧ True))))) ∧ ((L = L) ∧ True)))))) | false => False) | false => False) | false => False) | false => False)) | false => False) | false => False) | false => False) | false => False)) | false => False) | false => False) | false => False) | false => False) | false => (match (decide ((↑(sameN L x1 (at' noteE.zero L (↑x : Int))) : Int) ≥ m)) with | true => (((firstN (badS L m) L.length 0 = (↑x : Int)) ∧ True) ∧ ((L = L) ∧ True)) | false => (∃ x' : Nat, (((x' ≤ L.length) ∧ (firstN (badS L m) L.length 0 = firstN (badS L m) (L.length - x') x')) ∧ ((L.length - x' < L.length - x) ∧ ((True ∧ ((m = m) ∧ (((↑x' : Int) = IntKind.i64.wrap ((↑x : Int) + 1)) ∧ True))) ∧ ((L = L) ∧ True))))))))))) | false => False) | false => False)) | false => False) | false => False)) | false => (((firstN (badS L m) L.length 0 = -1) ∧ True) ∧ ((L = L) ∧ True))))))
theorem ref20SlotsVc (L : List Note) (m : Int) : fnX X7 (annOf [(2, { σ := Nat, st := fun S x => (S.keep [0, 1]).int 5 x, inv := fun _ x => x ≤ L.length ∧ firstN (badS L m) L.length 0 = firstN (badS L m) (L.length - x) x, m := fun x => L.length - x }),
  (8, { σ := Nat, st := fun S k => ((S.keep [0, 1, 5]).int 7 k).int 6 (sameN L k (at' noteE.zero L (S.gi 5))), inv := fun S k => k ≤ (S.gi 5).toNat ∧ clash L k (at' noteE.zero L (S.gi 5)) = false, m := fun k => L.length - k })] []) Try.f30 [.own 0, .raw (.int .i64 m)] [.ro 2 L] (ends [.ro 2 L] ⟨some (.raw (.int .i64 (firstN (badS L m) L.length 0))), []⟩) = ref20SlotsText L m := by kernel_rfl
theorem ref20SlotsHolds (L : List Note) (m : Int) (hp : L.length ≤ 140737488355328) : ref20SlotsText L m := by
  unfold ref20SlotsText
  refine ⟨⟨0, ⟨Nat.zero_le _, rfl⟩, ⟨trivial, rfl, rfl, trivial⟩, rfl, trivial⟩, ?_⟩
  rintro x ⟨hx, hs⟩
  by_cases h : x < L.length
  · obtain ⟨n, hn⟩ : ∃ n, L.length - x = n + 1 := ⟨L.length - x - 1, by omega⟩
    have hn' : L.length - (x + 1) = n := by omega
    rw [hn] at hs
    simp only [firstN] at hs
    have bad : badS L m x = true → (firstN (badS L m) L.length 0 = (x : Int)) := fun e => by rw [hs, e]; rfl
    have good : badS L m x = false → firstN (badS L m) L.length 0 = firstN (badS L m) (L.length - (x + 1)) (x + 1) := fun e => by rw [hs, e, hn']; rfl
    rw [dec_lt h, inb_nat h]
    cases hx0 : decide ((x : Int) > 0)
    · have hf : (decide (0 < x) && decide ((at' noteE.zero L x).At < (at' noteE.zero L (x - 1 : Nat)).At)) = false := by
        have : ¬ 0 < x := by simpa using hx0
        simp [this]
      cases c1 : decide ((at' noteE.zero L x).Core < 0)
      · cases c2 : decide ((at' noteE.zero L x).Core ≥ m)
        · refine ⟨⟨0, ⟨Nat.zero_le _, rfl⟩, ⟨trivial, rfl, rfl, rfl, rfl, trivial⟩, rfl, trivial⟩, ?_⟩
          rintro k ⟨hk, hc⟩
          rw [Int.toNat_natCast] at hk
          by_cases g : k < x
          · have hkl : k < L.length := by omega
            rw [dec_lt g, inb_nat hkl]
            have ek : at' noteE.zero L (k : Int) = L[k] := at_nat hkl
            have ht : clash L (k + 1) (at' noteE.zero L x) = clashOf (at' noteE.zero L k) (at' noteE.zero L x) := by
              unfold clash at hc ⊢
              rw [take_at hkl, List.any_append, hc, ek]
              simp
            have hsn : sameN L (k + 1) (at' noteE.zero L x) = sameN L k (at' noteE.zero L x) + if ((at' noteE.zero L k).At == (at' noteE.zero L x).At) = true then 1 else 0 := by
              unfold sameN
              rw [take_at hkl, List.countP_append, ek]
              simp [List.countP_cons]
            have hle : sameN L k (at' noteE.zero L x) ≤ k := Nat.le_trans List.countP_le_length (by rw [List.length_take]; omega)
            have hwk := wrap_succ g (by omega)
            have hwn : IntKind.i64.wrap ((sameN L k (at' noteE.zero L x) : Int) + 1) = (sameN L k (at' noteE.zero L x) : Int) + 1 := wrap_id (by omega) (by omega)
            unfold clashOf at ht
            cases a1 : (at' noteE.zero L k).At == (at' noteE.zero L x).At
            · rw [a1] at ht hsn
              rw [show ((at' noteE.zero L k).At != (at' noteE.zero L x).At) = true by rw [bne, a1]; rfl]
              exact ⟨k + 1, ⟨by rw [Int.toNat_natCast]; omega, ht⟩, by omega, ⟨trivial, rfl, rfl, by rw [hsn]; rfl, hwk.symm, trivial⟩, rfl, trivial⟩
            · rw [a1] at ht hsn
              rw [show ((at' noteE.zero L k).At != (at' noteE.zero L x).At) = false by rw [bne, a1]; rfl]
              have dead : clash L (k + 1) (at' noteE.zero L x) = true → clash L x (at' noteE.zero L x) = true := by
                intro hd
                unfold clash at hd ⊢
                rw [List.any_eq_true] at hd ⊢
                obtain ⟨b, hb, hb2⟩ := hd
                exact ⟨b, (List.take_prefix_take_left (by omega)).subset hb, hb2⟩
              cases a2 : (at' noteE.zero L k).ID == (at' noteE.zero L x).ID
              · cases a3 : (at' noteE.zero L k).Core == (at' noteE.zero L x).Core
                · rw [a2, a3] at ht
                  exact ⟨k + 1, ⟨by rw [Int.toNat_natCast]; omega, ht⟩, by omega, ⟨trivial, rfl, rfl, by rw [hsn, hwn]; rfl, hwk.symm, trivial⟩, rfl, trivial⟩
                · rw [a2, a3] at ht
                  exact ⟨⟨bad (by unfold badS; rw [dead ht]; simp), trivial⟩, rfl, trivial⟩
              · rw [a2] at ht
                exact ⟨⟨bad (by unfold badS; rw [dead ht]; simp), trivial⟩, rfl, trivial⟩
          · have e : k = x := by omega
            subst e
            rw [dec_ge (Nat.le_refl k)]
            cases c3 : decide ((sameN L k (at' noteE.zero L k) : Int) ≥ m)
            · exact ⟨k + 1, ⟨h, good (by unfold badS; rw [hf, c1, c2, hc, c3]; rfl)⟩, by omega, ⟨trivial, rfl, (wrap_succ h (by omega)).symm, trivial⟩, rfl, trivial⟩
            · exact ⟨⟨bad (by unfold badS; rw [c3]; simp), trivial⟩, rfl, trivial⟩
        · exact ⟨⟨bad (by unfold badS; rw [c2]; simp), trivial⟩, rfl, trivial⟩
      · exact ⟨⟨bad (by unfold badS; rw [c1]; simp), trivial⟩, rfl, trivial⟩
    · have hp0 : 0 < x := by simpa using hx0
      have ew : IntKind.i64.wrap ((x : Int) - 1) = ((x - 1 : Nat) : Int) := by rw [wrap_id (by omega) (by omega)]; omega
      rw [ew, inb_nat (show x - 1 < L.length by omega)]
      cases c0 : decide ((at' noteE.zero L x).At < (at' noteE.zero L (x - 1 : Nat)).At)
      · have hf : (decide (0 < x) && decide ((at' noteE.zero L x).At < (at' noteE.zero L (x - 1 : Nat)).At)) = false := by rw [c0]; simp
        cases c1 : decide ((at' noteE.zero L x).Core < 0)
        · cases c2 : decide ((at' noteE.zero L x).Core ≥ m)
          · refine ⟨⟨0, ⟨Nat.zero_le _, rfl⟩, ⟨trivial, rfl, rfl, rfl, rfl, trivial⟩, rfl, trivial⟩, ?_⟩
            rintro k ⟨hk, hc⟩
            rw [Int.toNat_natCast] at hk
            by_cases g : k < x
            · have hkl : k < L.length := by omega
              rw [dec_lt g, inb_nat hkl]
              have ek : at' noteE.zero L (k : Int) = L[k] := at_nat hkl
              have ht : clash L (k + 1) (at' noteE.zero L x) = clashOf (at' noteE.zero L k) (at' noteE.zero L x) := by
                unfold clash at hc ⊢
                rw [take_at hkl, List.any_append, hc, ek]
                simp
              have hsn : sameN L (k + 1) (at' noteE.zero L x) = sameN L k (at' noteE.zero L x) + if ((at' noteE.zero L k).At == (at' noteE.zero L x).At) = true then 1 else 0 := by
                unfold sameN
                rw [take_at hkl, List.countP_append, ek]
                simp [List.countP_cons]
              have hle : sameN L k (at' noteE.zero L x) ≤ k := Nat.le_trans List.countP_le_length (by rw [List.length_take]; omega)
              have hwk := wrap_succ g (by omega)
              have hwn : IntKind.i64.wrap ((sameN L k (at' noteE.zero L x) : Int) + 1) = (sameN L k (at' noteE.zero L x) : Int) + 1 := wrap_id (by omega) (by omega)
              unfold clashOf at ht
              cases a1 : (at' noteE.zero L k).At == (at' noteE.zero L x).At
              · rw [a1] at ht hsn
                rw [show ((at' noteE.zero L k).At != (at' noteE.zero L x).At) = true by rw [bne, a1]; rfl]
                exact ⟨k + 1, ⟨by rw [Int.toNat_natCast]; omega, ht⟩, by omega, ⟨trivial, rfl, rfl, by rw [hsn]; rfl, hwk.symm, trivial⟩, rfl, trivial⟩
              · rw [a1] at ht hsn
                rw [show ((at' noteE.zero L k).At != (at' noteE.zero L x).At) = false by rw [bne, a1]; rfl]
                have dead : clash L (k + 1) (at' noteE.zero L x) = true → clash L x (at' noteE.zero L x) = true := by
                  intro hd
                  unfold clash at hd ⊢
                  rw [List.any_eq_true] at hd ⊢
                  obtain ⟨b, hb, hb2⟩ := hd
                  exact ⟨b, (List.take_prefix_take_left (by omega)).subset hb, hb2⟩
                cases a2 : (at' noteE.zero L k).ID == (at' noteE.zero L x).ID
                · cases a3 : (at' noteE.zero L k).Core == (at' noteE.zero L x).Core
                  · rw [a2, a3] at ht
                    exact ⟨k + 1, ⟨by rw [Int.toNat_natCast]; omega, ht⟩, by omega, ⟨trivial, rfl, rfl, by rw [hsn, hwn]; rfl, hwk.symm, trivial⟩, rfl, trivial⟩
                  · rw [a2, a3] at ht
                    exact ⟨⟨bad (by unfold badS; rw [dead ht]; simp), trivial⟩, rfl, trivial⟩
                · rw [a2] at ht
                  exact ⟨⟨bad (by unfold badS; rw [dead ht]; simp), trivial⟩, rfl, trivial⟩
            · have e : k = x := by omega
              subst e
              rw [dec_ge (Nat.le_refl k)]
              cases c3 : decide ((sameN L k (at' noteE.zero L k) : Int) ≥ m)
              · exact ⟨k + 1, ⟨h, good (by unfold badS; rw [hf, c1, c2, hc, c3]; rfl)⟩, by omega, ⟨trivial, rfl, (wrap_succ h (by omega)).symm, trivial⟩, rfl, trivial⟩
              · exact ⟨⟨bad (by unfold badS; rw [c3]; simp), trivial⟩, rfl, trivial⟩
          · exact ⟨⟨bad (by unfold badS; rw [c2]; simp), trivial⟩, rfl, trivial⟩
        · exact ⟨⟨bad (by unfold badS; rw [c1]; simp), trivial⟩, rfl, trivial⟩
      · exact ⟨⟨bad (by unfold badS; rw [c0]; simp [hp0]), trivial⟩, rfl, trivial⟩
  · rw [dec_ge (by omega)]
    have e : L.length - x = 0 := by omega
    rw [e] at hs
    exact ⟨⟨hs, trivial⟩, rfl, trivial⟩
noncomputable def ref20SlotsCon : Con T O := fun args cs => match args, cs with
  | [.own 0, .raw (.int .i64 m)], [.ro 2 L] => chk (decide (L.length ≤ 140737488355328)) (.ret ⟨some (.raw (.int .i64 (firstN (badS L m) L.length 0))), []⟩)
  | _, _ => .fail
theorem ref20SlotsOk : ConOk R Try.prog 30 ref20SlotsCon := con_of_fn R (X7) (TabOk.con R X7Ok) mixed Try.call30 Try.func30 ref20SlotsCon (by
  intro args cs K h
  unfold ref20SlotsCon at h
  split at h
  · rename_i m L
    rw [Tree.holds_chk] at h
    obtain ⟨hp, h⟩ := h
    refine ⟨annOf [(2, { σ := Nat, st := fun S x => (S.keep [0, 1]).int 5 x, inv := fun _ x => x ≤ L.length ∧ firstN (badS L m) L.length 0 = firstN (badS L m) (L.length - x) x, m := fun x => L.length - x }),
  (8, { σ := Nat, st := fun S k => ((S.keep [0, 1, 5]).int 7 k).int 6 (sameN L k (at' noteE.zero L (S.gi 5))), inv := fun S k => k ≤ (S.gi 5).toNat ∧ clash L k (at' noteE.zero L (S.gi 5)) = false, m := fun k => L.length - k })] [], _, fun v S hv => ⟨_, h, hv⟩, ?_⟩
    rw [ref20SlotsVc L m]
    exact ref20SlotsHolds L m (of_decide_eq_true hp)
  · exact h.elim)
/-! ### regatta/regattaref20.Ran -/
def ref20RanText (L : List Note) (id since lo hi : Int) : Prop := ((∃ x : Nat, ((x.le L.length) ∧ ((True ∧ ((id = id) ∧ ((since = since) ∧ ((lo = lo) ∧ ((hi = hi) ∧ (((↑(ranN id since lo hi (List.take x L)) : Int) = 0) ∧ (((↑x : Int) = 0) ∧ True))))))) ∧ ((L = L) ∧ True)))) ∧ (∀ x : Nat, ((x.le L.length) → (match (decide ((↑x : Int) < (↑L.length : Int))) with | true => (match (inb (↑x : Int) L.length) with | true => (match (inb (↑x : Int) L.length) with | true => (match ((at' noteE.zero L (↑x : Int)).ID == id) with | true => (match (inb (↑x : Int) L.length) with | true => (match (inb (↑x : Int) L.length) with | true => (match ((at' noteE.zero L (↑x : Int)).Since == since) with | true => (match (inb (↑x : Int) L.length) with | true => (match (inb (↑x : Int) L.length) with | true => (match (decide ((at' noteE.zero L (↑x : Int)).At ≥ lo)) with | true => (match (inb (↑x : Int) L.length) with | true => (match (inb (↑x : Int) L.length) with | true => (match (decide ((at' noteE.zero L (↑x : Int)).At < hi)) with | true => (∃ x' : Nat, ((x'.le L.length) ∧ ((L.length - x' < L.length - x) ∧ ((True ∧ ((id = id) ∧ ((since = since) ∧ ((lo = lo) ∧ ((hi = hi) ∧ (((↑(ranN id since lo hi (List.take x' L)) : Int) = IntKind.i64.wrap ((↑(ranN id since lo hi (List.take x L)) : Int) + 1)) ∧ (((↑x' : Int) = IntKind.i64.wrap ((↑x : Int) + 1)) ∧ True))))))) ∧ ((L = L) ∧ True))))) | false => (∃ x' : Nat, ((x'.le L.length) ∧ ((L.length - x' < L.length - x) ∧ ((True ∧ ((id = id) ∧ ((since = since) ∧ ((lo = lo) ∧ ((hi = hi) ∧ (((↑(ranN id since lo hi (List.take x' L)) : Int) = (↑(ranN id since lo hi (List.take x L)) : Int)) ∧ (((↑x' : Int) = IntKind.i64.wrap ((↑x : Int) + 1)) ∧ True))))))) ∧ ((L = L) ∧ True)))))) | false => False) | false => False) | false => (∃ x' : Nat, ((x'.le L.length) ∧ ((L.length - x' < L.length - x) ∧ ((True ∧ ((id = id) ∧ ((since = since) ∧ ((lo = lo) ∧ ((hi = hi) ∧ (((↑(ranN id since lo hi (List.take x' L)) : Int) = (↑(ranN id since lo hi (List.take x L)) : Int)) ∧ (((↑x' : Int) = IntKind.i64.wrap ((↑x : Int) + 1)) ∧ True))))))) ∧ ((L = L) ∧ True)))))) | false => False) | false => False) | false => (∃ x' : Nat, ((x'.le L.length) ∧ ((L.length - x' < L.length - x) ∧ ((True ∧ ((id = id) ∧ ((since = since) ∧ ((lo = lo) ∧ ((hi = hi) ∧ (((↑(ranN id since lo hi (List.take x' L)) : Int) = (↑(ranN id since lo hi (List.take x L)) : Int)) ∧ (((↑x' : Int) = IntKind.i64.wrap ((↑x : Int) + 1)) ∧ True))))))) ∧ ((L = L) ∧ True)))))) | false => False) | false => False) | false => (∃ x' : Nat, ((x'.le L.length) ∧ ((L.length - x' < L.length - x) ∧ ((True ∧ ((id = id) ∧ ((since = since) ∧ ((lo = lo) ∧ ((hi = hi) ∧ (((↑(ranN id since lo hi (List.take x' L)) : Int) = (↑(ranN id since lo hi (List.take x L)) : Int)) ∧ (((↑x' : Int) = IntKind.i64.wrap ((↑x : Int) + 1)) ∧ True))))))) ∧ ((L = L) ∧ True)))))) | false => False) | false => False) | false => ((((↑(ranN id since lo hi L) : Int) = (↑(ranN id since lo hi (List.take x L)) : Int)) ∧ True) ∧ ((L = L) ∧ True))))))
theorem ref20RanVc (L : List Note) (id since lo hi : Int) : fnX X7 (oneLoop 3 { σ := Nat, st := fun S x => ((S.keep [0, 1, 2, 3, 4]).int 12 x).int 11 (ranN id since lo hi (L.take x)), inv := fun _ x => x ≤ L.length, m := fun x => L.length - x }) Try.f32 [.own 0, .raw (.int .i64 id), .raw (.int .i64 since), .raw (.int .i64 lo), .raw (.int .i64 hi)] [.ro 2 L] (ends [.ro 2 L] ⟨some (.raw (.int .i64 (ranN id since lo hi L))), []⟩) = ref20RanText L id since lo hi := by kernel_rfl
theorem ref20RanHolds (L : List Note) (id since lo hi : Int) (hp : L.length ≤ 140737488355328) : ref20RanText L id since lo hi := by
  unfold ref20RanText
  refine ⟨⟨0, Nat.zero_le _, ⟨trivial, rfl, rfl, rfl, rfl, rfl, rfl, trivial⟩, rfl, trivial⟩, ?_⟩
  intro x hx
  by_cases h : x < L.length
  · have hw := wrap_succ h hp
    have hr : (ranN id since lo hi (L.take (x + 1)) : Int) = if ranOf id since lo hi L[x] then (ranN id since lo hi (L.take x) : Int) + 1 else ranN id since lo hi (L.take x) := by
      unfold ranN
      rw [take_at h, List.countP_append]
      by_cases hq : ranOf id since lo hi L[x] = true <;> simp [List.countP_cons, hq]
    have hn : ranN id since lo hi (L.take x) ≤ x := Nat.le_trans List.countP_le_length (by simp; omega)
    have hwn : IntKind.i64.wrap ((ranN id since lo hi (L.take x) : Int) + 1) = (ranN id since lo hi (L.take x) : Int) + 1 := wrap_id (by omega) (by omega)
    rw [dec_lt h, inb_nat h, at_nat h, hwn]
    unfold ranOf at hr
    cases h1 : L[x].ID == id <;> rw [h1] at hr
    · exact ⟨x + 1, h, by omega, ⟨trivial, rfl, rfl, rfl, rfl, by simpa using hr, hw.symm, trivial⟩, rfl, trivial⟩
    cases h2 : L[x].Since == since <;> rw [h2] at hr
    · exact ⟨x + 1, h, by omega, ⟨trivial, rfl, rfl, rfl, rfl, by simpa using hr, hw.symm, trivial⟩, rfl, trivial⟩
    cases h3 : decide (lo ≤ L[x].At) <;> rw [h3] at hr
    · exact ⟨x + 1, h, by omega, ⟨trivial, rfl, rfl, rfl, rfl, by simpa using hr, hw.symm, trivial⟩, rfl, trivial⟩
    cases h4 : decide (L[x].At < hi) <;> rw [h4] at hr
    · exact ⟨x + 1, h, by omega, ⟨trivial, rfl, rfl, rfl, rfl, by simpa using hr, hw.symm, trivial⟩, rfl, trivial⟩
    · exact ⟨x + 1, h, by omega, ⟨trivial, rfl, rfl, rfl, rfl, by simpa using hr, hw.symm, trivial⟩, rfl, trivial⟩
  · rw [dec_ge (by omega)]
    exact ⟨⟨by rw [List.take_of_length_le (by omega)], trivial⟩, rfl, trivial⟩
noncomputable def ref20RanCon : Con T O := fun args cs => match args, cs with
  | [.own 0, .raw (.int .i64 id), .raw (.int .i64 since), .raw (.int .i64 lo), .raw (.int .i64 hi)], [.ro 2 L] => chk (decide (L.length ≤ 140737488355328)) (.ret ⟨some (.raw (.int .i64 (ranN id since lo hi L))), []⟩)
  | _, _ => .fail
theorem ref20RanOk : ConOk R Try.prog 32 ref20RanCon := con_of_fn R (X7) (TabOk.con R X7Ok) mixed Try.call32 Try.func32 ref20RanCon (by
  intro args cs K h
  unfold ref20RanCon at h
  split at h
  · rename_i id since lo hi L
    rw [Tree.holds_chk] at h
    obtain ⟨hp, h⟩ := h
    refine ⟨oneLoop 3 { σ := Nat, st := fun S x => ((S.keep [0, 1, 2, 3, 4]).int 12 x).int 11 (ranN id since lo hi (L.take x)), inv := fun _ x => x ≤ L.length, m := fun x => L.length - x }, _, fun v S hv => ⟨_, h, hv⟩, ?_⟩
    rw [ref20RanVc L id since lo hi]
    exact ref20RanHolds L id since lo hi (of_decide_eq_true hp)
  · exact h.elim)
noncomputable def tab8 : Tab T O := (28, ref20LateCon) :: (42, ref20LastCon) :: (30, ref20SlotsCon) :: (32, ref20RanCon) :: tab7
theorem tabOk8 : TabOk R Try.prog tab8 := TabOk.cons R ref20LateOk <| TabOk.cons R ref20LastOk <| TabOk.cons R ref20SlotsOk <| TabOk.cons R ref20RanOk <| tabOk7
noncomputable def X8 : Ctx T O := { X0 with con := conOf tab8 }
theorem X8Ok : TabOk R X8.P tab8 := tabOk8
end Go.Proofs.Ytkcnocigkblbiaa
