/-
  Part of a proof over the seat Ythfggjfpokknlaa: printed by a small program or typed by hand.
-/
import Derived.Test.YthfggjfpokknlaaStaS8
import Derived.KernelRfl
namespace Go.Proofs.Ythfggjfpokknlaa
open Go.Sx Go.Proofs Classical
/-! ### slices.insertionSortCmpFunc[string] -/
def insSortSK0Text (L : List Int) (M : CM) (b : Int) : Prop := ((∃ x : Nat × List Int, ((((1 : Nat) ≤ x.fst) ∧ ((x.fst ≤ b.toNat ∨ x.fst = (1 : Nat)) ∧ (x.snd = isortN codeS (ltS M) L (min x.fst b.toNat)))) ∧ ((True ∧ (((0 : Int) = (0 : Int)) ∧ ((b = b) ∧ ((True ∧ True) ∧ (((↑x.fst : Int) = IntKind.i64.wrap ((0 : Int) + (1 : Int))) ∧ True))))) ∧ ((x.snd = L) ∧ ((True ∧ True) ∧ ((True ∧ True) ∧ ((M = M) ∧ True))))))) ∧ (∀ x : Nat × List Int, ((((1 : Nat) ≤ x.fst) ∧ ((x.fst ≤ b.toNat ∨ x.fst = (1 : Nat)) ∧ (x.snd = isortN codeS (ltS M) L (min x.fst b.toNat)))) → (match (decide ((↑x.fst : Int) < b)) with | true => ((∃ x1 : Nat × List Int, (((x1.fst ≤ (↑x.fst : Int).toNat) ∧ ((x1.snd.length = L.length) ∧ (insI codeS (ltS M) x1.snd x1.fst = insI codeS (ltS M) x.snd (↑x.fst : Int).toNat))) ∧ ((True ∧ (((0 : Int) = (0 : Int)) ∧ ((b = b) ∧ ((True ∧ True) ∧ (((↑x.fst : Int) = (↑x.fst : Int)) ∧ (((↑x1.fst : Int) = (↑x.fst : Int)) ∧ True)))))) ∧ ((x1.snd = x.snd) ∧ ((True ∧ True) ∧ ((True ∧ True) ∧ ((M = M) ∧ True))))))) ∧ (∀ x1 : Nat × List Int, (((x1.fst ≤ (↑x.fst : Int).toNat) ∧ ((x1.snd.length = L.length) ∧ (insI codeS (ltS M) x1.snd x1.fst = insI codeS (ltS M) x.snd (↑x.fst : Int).toNat))) → (match (decide ((↑x1.fst : Int) > (0 : Int))) with | true => (match (inb (↑x1.fst : Int) x1.snd.length) with | true => (match (inb (↑x1.fst : Int) x1.snd.length) with | true => (match (inb (IntKind.i64.wrap ((↑x1.fst : Int) - (1 : Int))) x1.snd.length) with | true => (match (inb (IntKind.i64.wrap ((↑x1.fst : Int) - (1 : Int))) x1.snd.length) with | true => (match (decide (topCmp M (↑(UInt8.ofNat (Int.toNat (at' (0 : Int) x1.snd (↑x1.fst : Int)))).toNat : Int) (↑(UInt8.ofNat (Int.toNat (at' (0 : Int) x1.snd (IntKind.i64.wrap ((↑x1.fst : Int) - (1 : Int)))))).toNat : Int) < (0 : Int))) with | true => (match (inb (IntKind.i64.wrap ((↑x1.fst : Int) - (1 : Int))) x1.snd.length) with | true => (match (inb (IntKind.i64.wrap ((↑x1.fst : Int) - (1 : Int))) x1.snd.length) with | true => (match (inb (↑x1.fst : Int) x1.snd.length) with | true => (match (inb (↑x1.fst : Int) x1.snd.length) with | true => (match (inb (↑x1.fst : Int) x1.snd.length) with | true => (match (inb (↑x1.fst : Int) x1.snd.length) with | true => (match (inb (IntKind.i64.wrap ((↑x1.fst : Int) - (1 : Int))) (x1.snd.set (↑x1.fst : Int).toNat (↑(UInt8.ofNat (Int.toNat (at' (0 : Int) x1.snd (IntKind.i64.wrap ((↑x1.fst : Int) - (1 : Int)))))).toNat : Int)).length) with | true => (match (inb (IntKind.i64.wrap ((↑x1.fst : Int) - (1 : Int))) (x1.snd.set (↑x1.fst : Int).toNat (↑(UInt8.ofNat (Int.toNat (at' (0 : Int) x1.snd (IntKind.i64.wrap ((↑x1.fst : Int) - (1 : Int)))))).toNat : Int)).length) with | true => (∃ x' : Nat × List Int, (((x'.fst ≤ (↑x.fst : Int).toNat) ∧ ((x'.snd.length = L.length) ∧ (insI codeS (ltS M) x'.snd x'.fst = insI codeS (ltS M) x.snd (↑x.fst : Int).toNat))) ∧ ((x'.fst < x1.fst) ∧ ((True ∧ (((0 : Int) = (0 : Int)) ∧ ((b = b) ∧ ((True ∧ True) ∧ (((↑x.fst : Int) = (↑x.fst : Int)) ∧ (((↑x'.fst : Int) = IntKind.i64.wrap ((↑x1.fst : Int) - (1 : Int))) ∧ True)))))) ∧ ((x'.snd = (x1.snd.set (↑x1.fst : Int).toNat (↑(UInt8.ofNat (Int.toNat (at' (0 : Int) x1.snd (IntKind.i64.wrap ((↑x1.fst : Int) - (1 : Int)))))).toNat : Int)).set (IntKind.i64.wrap ((↑x1.fst : Int) - (1 : Int))).toNat (↑(UInt8.ofNat (Int.toNat (at' (0 : Int) x1.snd (↑x1.fst : Int)))).toNat : Int)) ∧ ((True ∧ True) ∧ ((True ∧ True) ∧ ((M = M) ∧ True)))))))) | false => False) | false => False) | false => False) | false => False) | false => False) | false => False) | false => False) | false => False) | false => (∃ x' : Nat × List Int, ((((1 : Nat) ≤ x'.fst) ∧ ((x'.fst ≤ b.toNat ∨ x'.fst = (1 : Nat)) ∧ (x'.snd = isortN codeS (ltS M) L (min x'.fst b.toNat)))) ∧ (((1001 : Nat) - x'.fst < (1001 : Nat) - x.fst) ∧ ((True ∧ (((0 : Int) = (0 : Int)) ∧ ((b = b) ∧ ((True ∧ True) ∧ (((↑x'.fst : Int) = IntKind.i64.wrap ((↑x.fst : Int) + (1 : Int))) ∧ True))))) ∧ ((x'.snd = x1.snd) ∧ ((True ∧ True) ∧ ((True ∧ True) ∧ ((M = M) ∧ True))))))))) | false => False) | false => False) | false => False) | false => False) | false => (∃ x' : Nat × List Int, ((((1 : Nat) ≤ x'.fst) ∧ ((x'.fst ≤ b.toNat ∨ x'.fst = (1 : Nat)) ∧ (x'.snd = isortN codeS (ltS M) L (min x'.fst b.toNat)))) ∧ (((1001 : Nat) - x'.fst < (1001 : Nat) - x.fst) ∧ ((True ∧ (((0 : Int) = (0 : Int)) ∧ ((b = b) ∧ ((True ∧ True) ∧ (((↑x'.fst : Int) = IntKind.i64.wrap ((↑x.fst : Int) + (1 : Int))) ∧ True))))) ∧ ((x'.snd = x1.snd) ∧ ((True ∧ True) ∧ ((True ∧ True) ∧ ((M = M) ∧ True)))))))))))) | false => ((True ∧ True) ∧ ((isortN codeS (ltS M) L b.toNat = x.snd) ∧ ((True ∧ True) ∧ ((True ∧ True) ∧ ((M = M) ∧ True)))))))))
theorem insSortSK0Vc (L : List Int) (M : CM) (b : Int) : fnX X8 (annOf [(1, { σ := Nat × List Int, st := fun S x => ((S.keep [0, 1, 2, 3]).int 8 x.1).at' 0 (.vec 2 x.2 9), inv := fun _ x => 1 ≤ x.1 ∧ (x.1 ≤ b.toNat ∨ x.1 = 1) ∧ x.2 = isortN codeS (ltS M) L (min x.1 b.toNat) , m := fun x => 1001 - x.1 }), (4, { σ := Nat × List Int, st := fun S x => ((S.keep [0, 1, 2, 3, 8]).int 9 x.1).at' 0 (.vec 2 x.2 9), inv := fun S x => x.1 ≤ (S.gi 8).toNat ∧ x.2.length = L.length ∧ insI codeS (ltS M) x.2 x.1 = insI codeS (ltS M) (S.gv 0 2) (S.gi 8).toNat, m := fun x => x.1 })] []) Try.f64 [.own 0, .raw (.int .i64 0), .raw (.int .i64 b), .fn 47 [.ptr 1 0]] [.vec 2 L 9, .cells [.ptr 2 0] 42, .cells [.own 3] 70, .map 3 M] (ends [.vec 2 L 9, .cells [.ptr 2 0] 42, .cells [.own 3] 70, .map 3 M] ⟨some (.tup []), [(0, some (.vec 2 (isortN codeS (ltS M) L b.toNat) 9)), (3, some (.map 3 M))]⟩) = insSortSK0Text L M b := by kernel_rfl
theorem insSortSK0Holds (L : List Int) (M : CM) (b : Int) (hp : 0 ≤ b ∧ b ≤ L.length ∧ L.length ≤ 1000) : insSortSK0Text L M b := by
  unfold insSortSK0Text
  obtain ⟨p0, p1, p2⟩ := hp
  obtain ⟨n, rfl⟩ := Int.eq_ofNat_of_zero_le p0
  rw [Int.toNat_natCast]
  refine ⟨⟨(1, L), ⟨Nat.le_refl _, .inr rfl, ?_⟩, by repeat' first | trivial | rfl | apply And.intro⟩, ?_⟩
  · have : min 1 n = 0 ∨ min 1 n = 1 := by omega
    rcases this with h | h <;> rw [h] <;> rfl
  rintro ⟨x, Q⟩ ⟨h1, h2, h3⟩
  dsimp only at h1 h2 h3 ⊢
  rw [Int.toNat_natCast]
  by_cases c : x < n
  · have hwx : ((x + 1 : Nat) : Int) = IntKind.i64.wrap ((x : Int) + (1 : Int)) := by rw [wrap_id (by omega) (by omega)]; rfl
    rw [show min x n = x by omega] at h3
    have hM : Q.length = L.length := by rw [h3, isortN_length]
    rw [show decide ((x : Int) < (n : Int)) = true from decide_eq_true (by omega)]
    refine ⟨⟨(x, Q), ⟨Nat.le_refl _, hM, rfl⟩, by repeat' first | trivial | rfl | apply And.intro⟩, ?_⟩
    have fin : ∀ N, N = insI codeS (ltS M) Q x → N = isortN codeS (ltS M) L (min (x + 1) n) := by
      intro N e
      rw [show min (x + 1) n = x + 1 by omega, isortN, ← h3]
      exact e
    rintro ⟨y, N⟩ ⟨k1, k2, k3⟩
    dsimp only at k1 k2 k3 ⊢
    cases y with
    | zero =>
      rw [show decide (((0 : Nat) : Int) > 0) = false from rfl]
      refine ⟨(x + 1, N), ⟨by dsimp only; omega, .inl (by dsimp only; omega), fin N k3⟩, by dsimp only; omega, ?_⟩
      repeat' first | exact hwx | trivial | rfl | apply And.intro
    | succ z =>
      have hz : z + 1 < N.length := by omega
      have hwz : IntKind.i64.wrap (((z + 1 : Nat) : Int) - 1) = (z : Int) := by rw [wrap_id (by omega) (by omega)]; omega
      rw [show decide (((z + 1 : Nat) : Int) > 0) = true from decide_eq_true (by omega), hwz, inb_nat hz, inb_nat (show z < N.length by omega), List.length_set, inb_nat (show z < N.length by omega)]
      simp only [insI] at k3
      rw [show decide (topCmp M ((UInt8.ofNat ((at' 0 N ((z + 1 : Nat) : Int))).toNat).toNat : Int) ((UInt8.ofNat ((at' 0 N (z : Int))).toNat).toNat : Int) < 0) = ltS M (at' 0 N ((z + 1 : Nat) : Int)) (at' 0 N (z : Int)) from rfl]
      cases ho : ltS M (at' 0 N ((z + 1 : Nat) : Int)) (at' 0 N (z : Int))
      · rw [ho] at k3
        refine ⟨(x + 1, N), ⟨by dsimp only; omega, .inl (by dsimp only; omega), fin N k3⟩, by dsimp only; omega, ?_⟩
        repeat' first | exact hwx | trivial | rfl | apply And.intro
      · rw [ho] at k3
        rw [Int.toNat_natCast, Int.toNat_natCast]
        refine ⟨(z, (N.set (z + 1) (codeS (at' 0 N (z : Int)))).set z (codeS (at' 0 N ((z + 1 : Nat) : Int)))), ⟨by dsimp only; omega, by dsimp only; rw [List.length_set, List.length_set]; exact k2, k3⟩, by dsimp only; omega, ?_⟩
        repeat' first | trivial | rfl | apply And.intro
  · rw [show decide ((x : Int) < (n : Int)) = false from decide_eq_false (by omega)]
    have hx : isortN codeS (ltS M) L n = Q := by rw [h3, show min x n = n by omega]
    repeat' first | exact hx | trivial | rfl | apply And.intro
def insSortSK1Text (L : List Int) (M : CM) (b : Int) : Prop := (match (decide (IntKind.i64.wrap ((20 : Int) + (1 : Int)) < b)) with | true => False | false => ((True ∧ True) ∧ ((L = L) ∧ ((True ∧ True) ∧ ((True ∧ True) ∧ ((M = M) ∧ True))))))
theorem insSortSK1Vc (L : List Int) (M : CM) (b : Int) : fnX X8 (annOf [] [(1, 1)]) Try.f64 [.own 0, .raw (.int .i64 20), .raw (.int .i64 b), .fn 47 [.ptr 1 0]] [.vec 2 L 9, .cells [.ptr 2 0] 42, .cells [.own 3] 70, .map 3 M] (ends [.vec 2 L 9, .cells [.ptr 2 0] 42, .cells [.own 3] 70, .map 3 M] ⟨some (.tup []), [(0, some (.vec 2 (L) 9)), (3, some (.map 3 M))]⟩) = insSortSK1Text L M b := by kernel_rfl
theorem insSortSK1Holds (L : List Int) (M : CM) (b : Int) (hp : b = 20) : insSortSK1Text L M b := by
  unfold insSortSK1Text
  subst hp
  repeat' first | trivial | rfl | apply And.intro
noncomputable def insSortSCon : Con T O := fun args cs => match args, cs with
  | [.own 0, .raw (.int .i64 0), .raw (.int .i64 b), .fn 47 [.ptr 1 0]], [.vec 2 L 9, .cells [.ptr 2 0] 42, .cells [.own 3] 70, .map 3 M] => chk (decide (0 ≤ b ∧ b ≤ L.length ∧ L.length ≤ 1000)) (.ret ⟨some (.tup []), [(0, some (.vec 2 (isortN codeS (ltS M) L b.toNat) 9)), (3, some (.map 3 M))]⟩)
  | [.own 0, .raw (.int .i64 20), .raw (.int .i64 b), .fn 47 [.ptr 1 0]], [.vec 2 L 9, .cells [.ptr 2 0] 42, .cells [.own 3] 70, .map 3 M] => chk (decide (b = 20)) (.ret ⟨some (.tup []), [(0, some (.vec 2 (L) 9)), (3, some (.map 3 M))]⟩)
  | _, _ => .fail
theorem insSortSOk : ConOk R Try.prog 64 insSortSCon := con_of_fn R (X8) (TabOk.con R X8Ok) mixed Try.call64 Try.func64 insSortSCon (by
  intro args cs K h
  unfold insSortSCon at h
  split at h
  · rename_i b L M
    rw [Tree.holds_chk] at h
    obtain ⟨hp, h⟩ := h
    refine ⟨annOf [(1, { σ := Nat × List Int, st := fun S x => ((S.keep [0, 1, 2, 3]).int 8 x.1).at' 0 (.vec 2 x.2 9), inv := fun _ x => 1 ≤ x.1 ∧ (x.1 ≤ b.toNat ∨ x.1 = 1) ∧ x.2 = isortN codeS (ltS M) L (min x.1 b.toNat) , m := fun x => 1001 - x.1 }), (4, { σ := Nat × List Int, st := fun S x => ((S.keep [0, 1, 2, 3, 8]).int 9 x.1).at' 0 (.vec 2 x.2 9), inv := fun S x => x.1 ≤ (S.gi 8).toNat ∧ x.2.length = L.length ∧ insI codeS (ltS M) x.2 x.1 = insI codeS (ltS M) (S.gv 0 2) (S.gi 8).toNat, m := fun x => x.1 })] [], _, fun v S hv => ⟨_, h, hv⟩, ?_⟩
    rw [insSortSK0Vc L M b]
    exact insSortSK0Holds L M b (of_decide_eq_true hp)
  · rename_i b L M
    rw [Tree.holds_chk] at h
    obtain ⟨hp, h⟩ := h
    refine ⟨annOf [] [(1, 1)], _, fun v S hv => ⟨_, h, hv⟩, ?_⟩
    rw [insSortSK1Vc L M b]
    exact insSortSK1Holds L M b (of_decide_eq_true hp)
  · exact h.elim)
noncomputable def tab9 : Tab T O := (64, insSortSCon) :: tab8
theorem tabOk9 : TabOk R Try.prog tab9 := TabOk.cons R insSortSOk <| tabOk8
noncomputable def X9 : Ctx T O := { X0 with con := conOf tab9 }
theorem X9Ok : TabOk R X9.P tab9 := tabOk9
end Go.Proofs.Ythfggjfpokknlaa
