/-
  Part of a proof over the seat Ytkcnocigkblbiaa: printed by a small program or typed by hand.
-/
import Derived.Test.YtkcnocigkblbiaaAuditS8
import Derived.KernelRfl
namespace Go.Proofs.Ytkcnocigkblbiaa
open Go.Sx Go.Proofs Classical

theorem lastK_range (L : List Note) (id : Int) : ∀ x : Nat, lastK L id x = -1 ∨ (0 ≤ lastK L id x ∧ lastK L id x < x)
  | 0 => .inl rfl
  | k + 1 => by
    simp only [lastK]
    cases (at' noteE.zero L k).ID == id
    · have := lastK_range L id k
      simp only [cond_false]
      omega
    · simp only [cond_true]
      omega
def ordBad (L : List Note) (x : Nat) : Bool :=
  bif decide (lastK L (at' noteE.zero L x).ID x < 0) || decide ((at' noteE.zero L x).Since > (at' noteE.zero L (lastK L (at' noteE.zero L x).ID x)).Since) then (at' noteE.zero L x).SubIndex != 1
  else decide ((at' noteE.zero L x).Since < (at' noteE.zero L (lastK L (at' noteE.zero L x).ID x)).Since) || (IntKind.i64.wrap ((at' noteE.zero L x).SubIndex - 1) != (at' noteE.zero L (lastK L (at' noteE.zero L x).ID x)).SubIndex) || decide ((at' noteE.zero L x).At ≤ (at' noteE.zero L (lastK L (at' noteE.zero L x).ID x)).At)

/-! ### regatta/regattaref20.Order -/
def ref20OrderText (L : List Note) : Prop := ((∃ x : Nat, (((x ≤ L.length) ∧ (firstN (ordBad L) L.length 0 = firstN (ordBad L) (L.length - x) x)) ∧ ((True ∧ (((↑x : Int) = 0) ∧ True)) ∧ ((L = L) ∧ True)))) ∧ (∀ x : Nat, (((x ≤ L.length) ∧ (firstN (ordBad L) L.length 0 = firstN (ordBad L) (L.length - x) x)) → (match (decide ((↑x : Int) < (↑L.length : Int))) with | true => (match (decide (0 ≤ (↑x : Int) ∧ (↑x : Int) < (↑L.length : Int) ∧ L.length ≤ 140737488355328)) with | true => (match (decide (lastK L (at' noteE.zero L (↑x : Int)).ID (↑x : Int).toNat < 0)) with | true => (match (inb (↑x : Int) L.length) with | true => (match (inb (↑x : Int) L.length) with | true => (match ((at' noteE.zero L (↑x : Int)).SubIndex != 1) with | true => (((firstN (ordBad L) L.length 0 = (↑x : Int)) ∧ True) ∧ ((L = L) ∧ True)) | false => (∃ x' : Nat, (((x' ≤ L.length) ∧ (firstN (ordBad L) L.length 0 = firstN (ordBad L) (L.length - x') x')) ∧ ((L.length - x' < L.length - x) ∧ ((True ∧ (((↑x' : Int) = IntKind.i64.wrap ((↑x : Int) + 1)) ∧ True)) ∧ ((L = L) ∧ True)))))) | false => False) | false => False) | false => (match (inb (↑x : Int) L.length) with | true => (match (inb (↑x : Int) L.length) with | true => (match (inb (lastK L (at' noteE.zero L (↑x : Int)).ID (↑x : Int).toNat) L.length) with | true => (match (inb (lastK L (at' noteE.zero L (↑x : Int)).ID (↑x : Int).toNat) L.length) with | true => (match (decide ((at' noteE.zero L (↑x : Int)).Since > (at' noteE.zero L (lastK L (at' noteE.zero L (↑x : Int)).ID (↑x : Int).toNat)).Since)) with | true => (match (inb (↑x : Int) L.length) with | true => (match (inb (↑x : Int) L.length) with | true => (match ((at' noteE.zero L (↑x : Int)).SubIndex != 1) with | true => (((firstN (ordBad L) L.length 0 = (↑x : Int)) ∧ True) ∧ ((L = L) ∧ True)) | false => (∃ x' : Nat, (((x' ≤ L.length) ∧ (firstN (ordBad L) L.length 0 = firstN (ordBad L) (L.length - x') x')) ∧ ((L.length - x' < L.length - x) ∧ ((True ∧ (((↑x' : Int) = IntKind.i64.wrap ((↑x : Int) + 1)) ∧ True)) ∧ ((L = L) ∧ True)))))) | false => False) | false => False) | false => (match (inb (↑x : Int) L.length) with | true => (match (inb (↑x : Int) L.length) with | true => (match (inb (lastK L (at' noteE.zero L (↑x : Int)).ID (↑x : Int).toNat) L.length) with | true => (match (inb (lastK L (at' noteE.zero L (↑x : Int)).ID (↑x : Int).toNat) L.length) with | true => (match (decide ((at' noteE.zero L (↑x : Int)).Since < (at' noteE.zero L (lastK L (at' noteE.zero L (↑x : Int)).ID (↑x : Int).toNat)).Since)) with | true => (((firstN (ordBad L) L.length 0 = (↑x : Int)) ∧ True) ∧ ((L = L) ∧ True)) | false => (match (inb (↑x : Int) L.length) with | true => (match (inb (↑x : Int) L.length) with | true => (match (inb (lastK L (at' noteE.zero L (↑x : Int)).ID (↑x : Int).toNat) L.length) with | true => (match (inb (lastK L (at' noteE.zero L (↑x : Int)).ID (↑x : Int).toNat) L.length) with | true => (match (IntKind.i64.wrap ((at' noteE.zero L (↑x : Int)).SubIndex - 1) != (at' noteE.zero L (lastK L (at' noteE.zero L (↑x : Int)).ID (↑x : Int).toNat)).SubIndex) with | true => (((firstN (ordBad L) L.length 0 = (↑x : Int)) ∧ True) ∧ ((L = L) ∧ True)) | false => (match (inb (↑x : Int) L.length) with | true => (match (inb (↑x : Int) L.length) with | true => (match (inb (lastK L (at' noteE.zero L (↑x : Int)).ID (↑x : Int).toNat) L.length) with | true => (match (inb (lastK L (at' noteE.zero L (↑x : Int)).ID (↑x : Int).toNat) L.length) with | true => (match (decide ((at' noteE.zero L (↑x : Int)).At ≤ (at' noteE.zero L (lastK L (at' noteE.zero L (↑x : Int)).ID (↑x : Int).toNat)).At)) with | true => (((firstN (ordBad L) L.length 0 = (↑x : Int)) ∧ True) ∧ ((L = L) ∧ True)) | false => (∃ x' : Nat, (((x' ≤ L.length) ∧ (firstN (ordBad L) L.length 0 = firstN (ordBad L) (L.length - x') x')) ∧ ((L.length - x' < L.length - x) ∧ ((True ∧ (((↑x' : Int) = IntKind.i64.wrap ((↑x : Int) + 1)) ∧ True)) ∧ ((L = L) ∧ True)))))) | false => False) | false => False) | false => False) | false => False)) | false => False) | false => False) | false => False) | false => False)) | false => False) | false => False) | false => False) | false => False)) | false => False) | false => False) | false => False) | false => False)) | false => False) | false => (((firstN (ordBad L) L.length 0 = -1) ∧ True) ∧ ((L = L) ∧ True))))))
theorem ref20OrderVc (L : List Note) : fnX X8 (oneLoop 2 { σ := Nat, st := fun S x => (S.keep [0]).int 3 x, inv := fun _ x => x ≤ L.length ∧ firstN (ordBad L) L.length 0 = firstN (ordBad L) (L.length - x) x, m := fun x => L.length - x }) Try.f29 [.own 0] [.ro 2 L] (ends [.ro 2 L] ⟨some (.raw (.int .i64 (firstN (ordBad L) L.length 0))), []⟩) = ref20OrderText L := by kernel_rfl
theorem ref20OrderHolds (L : List Note) (hp : L.length ≤ 140737488355328) : ref20OrderText L := by
  unfold ref20OrderText
  refine ⟨⟨0, ⟨Nat.zero_le _, rfl⟩, ⟨trivial, rfl, trivial⟩, rfl, trivial⟩, ?_⟩
  rintro x ⟨hx, hs⟩
  by_cases h : x < L.length
  · obtain ⟨n, hn⟩ : ∃ n, L.length - x = n + 1 := ⟨L.length - x - 1, by omega⟩
    have hn' : L.length - (x + 1) = n := by omega
    rw [hn] at hs
    simp only [firstN] at hs
    have bad : ordBad L x = true → (firstN (ordBad L) L.length 0 = (x : Int)) := fun e => by rw [hs, e]; rfl
    have good : ordBad L x = false → firstN (ordBad L) L.length 0 = firstN (ordBad L) (L.length - (x + 1)) (x + 1) := fun e => by rw [hs, e, hn']; rfl
    have hw := wrap_succ h hp
    rw [dec_lt h, inb_nat h, Int.toNat_natCast, show decide (0 ≤ (x : Int) ∧ (x : Int) < (L.length : Int) ∧ L.length ≤ 140737488355328) = true from decide_eq_true ⟨by omega, by omega, hp⟩]
    have hr := lastK_range L (at' noteE.zero L x).ID x
    cases c0 : decide (lastK L (at' noteE.zero L x).ID x < 0)
    · have hk : inb (lastK L (at' noteE.zero L x).ID x) L.length = true := by
        have := of_decide_eq_false c0
        rw [inb_iff]
        omega
      rw [hk]
      cases c1 : decide ((at' noteE.zero L x).Since > (at' noteE.zero L (lastK L (at' noteE.zero L x).ID x)).Since)
      · cases c2 : decide ((at' noteE.zero L x).Since < (at' noteE.zero L (lastK L (at' noteE.zero L x).ID x)).Since)
        · cases c3 : IntKind.i64.wrap ((at' noteE.zero L x).SubIndex - 1) != (at' noteE.zero L (lastK L (at' noteE.zero L x).ID x)).SubIndex
          · cases c4 : decide ((at' noteE.zero L x).At ≤ (at' noteE.zero L (lastK L (at' noteE.zero L x).ID x)).At)
            · exact ⟨x + 1, ⟨h, good (by unfold ordBad; rw [c0, c1, c2, c3, c4]; rfl)⟩, by omega, ⟨trivial, hw.symm, trivial⟩, rfl, trivial⟩
            · exact ⟨⟨bad (by unfold ordBad; rw [c0, c1, c2, c3, c4]; rfl), trivial⟩, rfl, trivial⟩
          · exact ⟨⟨bad (by unfold ordBad; rw [c0, c1, c2, c3]; rfl), trivial⟩, rfl, trivial⟩
        · exact ⟨⟨bad (by unfold ordBad; rw [c0, c1, c2]; rfl), trivial⟩, rfl, trivial⟩
      · cases c2 : (at' noteE.zero L x).SubIndex != 1
        · exact ⟨x + 1, ⟨h, good (by unfold ordBad; rw [c0, c1, c2]; rfl)⟩, by omega, ⟨trivial, hw.symm, trivial⟩, rfl, trivial⟩
        · exact ⟨⟨bad (by unfold ordBad; rw [c0, c1, c2]; rfl), trivial⟩, rfl, trivial⟩
    · cases c2 : (at' noteE.zero L x).SubIndex != 1
      · exact ⟨x + 1, ⟨h, good (by unfold ordBad; rw [c0, c2]; rfl)⟩, by omega, ⟨trivial, hw.symm, trivial⟩, rfl, trivial⟩
      · exact ⟨⟨bad (by unfold ordBad; rw [c0, c2]; rfl), trivial⟩, rfl, trivial⟩
  · rw [dec_ge (by omega)]
    have e : L.length - x = 0 := by omega
    rw [e] at hs
    exact ⟨⟨hs, trivial⟩, rfl, trivial⟩
noncomputable def ref20OrderCon : Con T O := fun args cs => match args, cs with
  | [.own 0], [.ro 2 L] => chk (decide (L.length ≤ 140737488355328)) (.ret ⟨some (.raw (.int .i64 (firstN (ordBad L) L.length 0))), []⟩)
  | _, _ => .fail
theorem ref20OrderOk : ConOk R Try.prog 29 ref20OrderCon := con_of_fn R (X8) (TabOk.con R X8Ok) mixed Try.call29 Try.func29 ref20OrderCon (by
  intro args cs K h
  unfold ref20OrderCon at h
  split at h
  · rename_i L
    rw [Tree.holds_chk] at h
    obtain ⟨hp, h⟩ := h
    refine ⟨oneLoop 2 { σ := Nat, st := fun S x => (S.keep [0]).int 3 x, inv := fun _ x => x ≤ L.length ∧ firstN (ordBad L) L.length 0 = firstN (ordBad L) (L.length - x) x, m := fun x => L.length - x }, _, fun v S hv => ⟨_, h, hv⟩, ?_⟩
    rw [ref20OrderVc L]
    exact ref20OrderHolds L (of_decide_eq_true hp)
  · exact h.elim)
noncomputable def tab9 : Tab T O := (29, ref20OrderCon) :: tab8
theorem tabOk9 : TabOk R Try.prog tab9 := TabOk.cons R ref20OrderOk <| tabOk8
noncomputable def X9 : Ctx T O := { X0 with con := conOf tab9 }
theorem X9Ok : TabOk R X9.P tab9 := tabOk9
end Go.Proofs.Ytkcnocigkblbiaa
