/-
  Part of a proof over the seat Ytmnnjclnldaejaa: printed by a small program or typed by hand.
-/
import Derived.Test.YtmnnjclnldaejaaSupBase
import Derived.KernelRfl
namespace Go.Proofs.Ytmnnjclnldaejaa
open Go.Sx Go.Proofs Classical
abbrev b32 : Nat := 4294967296
theorem b32_gt : 1 < b32 := by decide
abbrev nv (L : List Int) : Nat := nvB b32 L
def lim (n : Nat) : List Int := limB b32 n
/-- a row is a number's -/
def isN (L : List Int) : Prop := L = lim (nvB b32 L)
theorem isN_lim (n : Nat) : isN (lim n) := by unfold isN lim; rw [nvB_limB b32_gt]
theorem nv_lim (n : Nat) : nvB b32 (lim n) = n := nvB_limB b32_gt n
theorem isN.ok {L : List Int} (h : isN L) : OkB b32 L := by rw [h]; exact limB_ok b32_gt _
def cmpN (a b : Nat) : Int := bif decide (a < b) then -1 else bif decide (a = b) then 0 else 1
def limS (L : List Int) : List Int := cutD L
theorem lim_lt {n k : Nat} (h : n < b32 ^ k) : (lim n).length ≤ k := limB_lt b32_gt h
theorem nv_lt {L : List Int} (h : isN L) : nvB b32 L < b32 ^ L.length := nvB_lt b32_gt h.ok
theorem len_mono {m n : Nat} (h : m ≤ n) : (lim m).length ≤ (lim n).length := by
  rcases Nat.lt_or_ge (lim n).length (lim m).length with g | g
  · have := nvB_len_lt b32_gt g
    omega
  · exact g
theorem isN.len {L : List Int} (h : isN L) {n : Nat} (hn : nvB b32 L ≤ n) : L.length ≤ (lim n).length := by
  rw [h]; exact len_mono hn
/-- the closure's captured variable -/
def atCap {T : Nat → Enc} {O : Nat → Type} (S : SS T O) (t i : Nat) (c : Chunk T O) : SS T O := match getT S.tmps t with
  | some (.fn _ l) => match l[i]? with
    | some v => match v.head with
      | [k] => { S with heap := setK k c S.heap }
      | _ => S
    | none => S
  | _ => S
theorem u64_id {n : Int} (h0 : 0 ≤ n) (h1 : n < 18446744073709551616) : IntKind.u64.wrap n = n := by
  show n % 18446744073709551616 = n
  omega
theorem u32_mod (n : Int) : IntKind.u32.wrap n = n % 4294967296 := rfl
theorem shr32 (n : Int) : n.fdiv ((2 : Int) ^ min (Int.toNat (32 : Int)) IntKind.u64.bits) = n / 4294967296 := by
  show n.fdiv 4294967296 = _
  exact Int.fdiv_eq_ediv_of_nonneg _ (by omega)
theorem slOk_max {k n : Nat} (h : k ≤ n) : slOk none (some (k : Int)) (some (k : Int)) (n : Int) = true := by simp [slOk, optB]; omega
theorem slOk_from {k n : Nat} (h : k ≤ n) : slOk (some (k : Int)) none none (n : Int) = true := by simp [slOk, optB]; omega

/-! ### regatta/nat.cut -/
def natCutText (L : List Int) : Prop := ((∃ x : Nat, (((x ≤ L.length) ∧ (cutTo L L.length = cutTo L x)) ∧ ((True ∧ (((↑x : Int) = (↑L.length : Int)) ∧ True)) ∧ ((L = L) ∧ True)))) ∧ (∀ x : Nat, (((x ≤ L.length) ∧ (cutTo L L.length = cutTo L x)) → (match (decide ((↑x : Int) > (0 : Int))) with | true => (match (inb (IntKind.i64.wrap ((↑x : Int) - (1 : Int))) L.length) with | true => (match (inb (IntKind.i64.wrap ((↑x : Int) - (1 : Int))) L.length) with | true => (match (at' (0 : Int) L (IntKind.i64.wrap ((↑x : Int) - (1 : Int))) != (0 : Int)) with | true => (match (slOk none (some (↑x : Int)) (some (↑x : Int)) (↑L.length : Int)) with | true => ((True ∧ True) ∧ ((L = L) ∧ ((cutD L = cutL none (some (↑x : Int)) L) ∧ True))) | false => False) | false => (∃ x' : Nat, (((x' ≤ L.length) ∧ (cutTo L L.length = cutTo L x')) ∧ ((x' < x) ∧ ((True ∧ (((↑x' : Int) = IntKind.i64.wrap ((↑x : Int) - (1 : Int))) ∧ True)) ∧ ((L = L) ∧ True)))))) | false => False) | false => False) | false => (match (slOk none (some (↑x : Int)) (some (↑x : Int)) (↑L.length : Int)) with | true => ((True ∧ True) ∧ ((L = L) ∧ ((cutD L = cutL none (some (↑x : Int)) L) ∧ True))) | false => False)))))
theorem natCutVc (L : List Int) : fnX { X0 with frz := true } (oneLoop 2 { σ := Nat, st := fun S x => (S.keep [0]).int 3 x, inv := fun _ x => x ≤ L.length ∧ cutTo L L.length = cutTo L x, m := fun x => x }) Try.f94 [.own 0] [.vec 2 L 104] (ends [.vec 2 L 104] ⟨some (.own 1), [(0, some (.ro 2 L)), (1, some (.ro 2 (cutD L)))]⟩) = natCutText L := by kernel_rfl
theorem natCutHolds (L : List Int) (hp : L.length ≤ 3000) : natCutText L := by
  unfold natCutText
  refine ⟨⟨L.length, ⟨Nat.le_refl _, rfl⟩, by repeat' first | trivial | rfl | apply And.intro⟩, ?_⟩
  rintro x ⟨hx, hs⟩
  have hcut : ∀ n, cutTo L L.length = n → n ≤ L.length → cutD L = cutL none (some (n : Int)) L := by
    intro n e _
    show L.take (cutTo L L.length) = L.take n
    rw [e]
  cases x with
  | zero =>
    rw [show decide (((0 : Nat) : Int) > 0) = false from rfl, slOk_max (Nat.zero_le _)]
    have e := hcut 0 hs (Nat.zero_le _)
    repeat' first | exact e | trivial | rfl | apply And.intro
  | succ k =>
    have hk : k < L.length := by omega
    rw [show decide (((k + 1 : Nat) : Int) > 0) = true from decide_eq_true (by omega), show IntKind.i64.wrap (((k + 1 : Nat) : Int) - 1) = (k : Int) by rw [wrap_id (by omega) (by omega)]; omega, inb_nat hk]
    simp only [cutTo] at hs
    cases e : at' 0 L (k : Int) == 0
    · rw [e, cond_false] at hs
      rw [show (at' 0 L (k : Int) != 0) = true by rw [bne, e]; rfl, slOk_max hx]
      have e := hcut (k + 1) hs hx
      repeat' first | exact e | trivial | rfl | apply And.intro
    · rw [e, cond_true] at hs
      rw [show (at' 0 L (k : Int) != 0) = false by rw [bne, e]; rfl]
      refine ⟨k, ⟨by omega, hs⟩, by omega, ?_⟩
      repeat' first | trivial | rfl | apply And.intro
noncomputable def natCutCon : Con T O := fun args cs => match args, cs with
  | [.own 0], [.vec 2 L 104] => chk (decide (L.length ≤ 3000)) (.ret ⟨some (.own 1), [(0, some (.ro 2 L)), (1, some (.ro 2 (cutD L)))]⟩)
  | _, _ => .fail
theorem natCutOk : ConOk R Try.prog 94 natCutCon := con_of_fn R ({ X0 with frz := true }) (TabOk.con R X0Ok) mixed Try.call94 Try.func94 natCutCon (by
  intro args cs K h
  unfold natCutCon at h
  split at h
  · rename_i L
    rw [Tree.holds_chk] at h
    obtain ⟨hp, h⟩ := h
    refine ⟨oneLoop 2 { σ := Nat, st := fun S x => (S.keep [0]).int 3 x, inv := fun _ x => x ≤ L.length ∧ cutTo L L.length = cutTo L x, m := fun x => x }, _, fun v S hv => ⟨_, h, hv⟩, ?_⟩
    rw [natCutVc L]
    exact natCutHolds L (of_decide_eq_true hp)
  · exact h.elim)
/-! ### regatta/nat.at -/
def natAtText (A : List Int) (i : Int) : Prop := (match (decide (i < (↑A.length : Int))) with | true => (match (inb i A.length) with | true => (match (inb i A.length) with | true => ((((↑(gd A i.toNat) : Int) = IntKind.u64.wrap (at' (0 : Int) A i)) ∧ True) ∧ ((A = A) ∧ True)) | false => False) | false => False) | false => ((((↑(gd A i.toNat) : Int) = (0 : Int)) ∧ True) ∧ ((A = A) ∧ True)))
theorem natAtVc (A : List Int) (i : Int) : fnX X0 (noAnn) Try.f93 [.own 0, .raw (.int .i64 i)] [.ro 2 A] (ends [.ro 2 A] ⟨some (.raw (.int .u64 (gd A i.toNat : Nat))), []⟩) = natAtText A i := by kernel_rfl
theorem natAtHolds (A : List Int) (i : Int) (hp : 0 ≤ i ∧ OkB b32 A) : natAtText A i := by
  unfold natAtText
  obtain ⟨h0, hok⟩ := hp
  obtain ⟨k, rfl⟩ := Int.eq_ofNat_of_zero_le h0
  rw [Int.toNat_natCast]
  by_cases h : k < A.length
  · rw [dec_lt h, inb_nat h]
    have hx : 0 ≤ A[k] ∧ A[k] < 4294967296 := hok _ (List.getElem_mem h)
    have e : ((gd A k : Nat) : Int) = IntKind.u64.wrap (at' 0 A (k : Int)) := by rw [gd_lt h, at_nat h, u64_id (by omega) (by omega)]; omega
    repeat' first | exact e | trivial | rfl | apply And.intro
  · rw [dec_ge (by omega)]
    have e : ((gd A k : Nat) : Int) = 0 := by rw [gd_ge (by omega)]; rfl
    repeat' first | exact e | trivial | rfl | apply And.intro
noncomputable def natAtBCon : Con T O := fun args cs => match args, cs with
  | [.own 0, .raw (.int .i64 i)], [.ro 2 A] => chk (decide (0 ≤ i ∧ OkB b32 A)) (.ret ⟨some (.raw (.int .u64 (gd A i.toNat : Nat))), []⟩)
  | _, _ => .fail
theorem natAtBOk : ConOk R Try.prog 93 natAtBCon := con_of_fn R (X0) (TabOk.con R X0Ok) mixed Try.call93 Try.func93 natAtBCon (by
  intro args cs K h
  unfold natAtBCon at h
  split at h
  · rename_i i A
    rw [Tree.holds_chk] at h
    obtain ⟨hp, h⟩ := h
    refine ⟨noAnn, _, fun v S hv => ⟨_, h, hv⟩, ?_⟩
    rw [natAtVc A i]
    exact natAtHolds A i (of_decide_eq_true hp)
  · exact h.elim)
noncomputable def natAtCon : Con T O := relax 2 natAtBCon
theorem natAtOk : ConOk R Try.prog 93 natAtCon := relax_ok R 2 natAtBOk
/-! ### regatta/nat.carrier -/
def natCarrierK0Text (L : List Int) : Prop := (((True ∧ (True ∧ True)) ∧ True) ∧ ((L = L) ∧ ((True ∧ True) ∧ ((((0 : Int) = (0 : Int)) ∧ True) ∧ True))))
theorem natCarrierK0Vc (L : List Int) : fnX X0 (noAnn) Try.f92 [.own 0] [.vec 2 L 104] (ends [.vec 2 L 104] ⟨some (.fn 106 [.ptr 2 0, .ptr 1 0]), [(0, some (.vec 2 L 104)), (1, some (.cells [.own 0] 33)), (2, some (.cells [.raw (.int .u64 0)] 73))]⟩) = natCarrierK0Text L := by kernel_rfl
theorem natCarrierK0Holds (L : List Int) : natCarrierK0Text L := by
  unfold natCarrierK0Text
  repeat' first | trivial | rfl | apply And.intro
def natCarrierK1Text (L : List Int) (lo n : Int) : Prop := (((True ∧ (True ∧ True)) ∧ True) ∧ ((L = L) ∧ ((((lo = lo) ∧ (n = n)) ∧ True) ∧ ((((0 : Int) = (0 : Int)) ∧ True) ∧ True))))
theorem natCarrierK1Vc (L : List Int) (lo n : Int) : fnX X0 (noAnn) Try.f92 [.view 0 lo n 1] [.vec 2 L 104] (ends [.vec 2 L 104] ⟨some (.fn 106 [.ptr 2 0, .ptr 1 0]), [(0, some (.vec 2 L 104)), (1, some (.cells [.view 0 lo n 1] 33)), (2, some (.cells [.raw (.int .u64 0)] 73))]⟩) = natCarrierK1Text L lo n := by kernel_rfl
theorem natCarrierK1Holds (L : List Int) (lo n : Int) : natCarrierK1Text L lo n := by
  unfold natCarrierK1Text
  repeat' first | trivial | rfl | apply And.intro
noncomputable def natCarrierCon : Con T O := fun args cs => match args, cs with
  | [.own 0], [.vec 2 L 104] => .ret ⟨some (.fn 106 [.ptr 2 0, .ptr 1 0]), [(0, some (.vec 2 L 104)), (1, some (.cells [.own 0] 33)), (2, some (.cells [.raw (.int .u64 0)] 73))]⟩
  | [.view 0 lo n 1], [.vec 2 L 104] => .ret ⟨some (.fn 106 [.ptr 2 0, .ptr 1 0]), [(0, some (.vec 2 L 104)), (1, some (.cells [.view 0 lo n 1] 33)), (2, some (.cells [.raw (.int .u64 0)] 73))]⟩
  | _, _ => .fail
theorem natCarrierOk : ConOk R Try.prog 92 natCarrierCon := con_of_fn R (X0) (TabOk.con R X0Ok) mixed Try.call92 Try.func92 natCarrierCon (by
  intro args cs K h
  unfold natCarrierCon at h
  split at h
  · rename_i L
    refine ⟨noAnn, _, fun v S hv => ⟨_, h, hv⟩, ?_⟩
    rw [natCarrierK0Vc L]
    exact natCarrierK0Holds L
  · rename_i lo n L
    refine ⟨noAnn, _, fun v S hv => ⟨_, h, hv⟩, ?_⟩
    rw [natCarrierK1Vc L lo n]
    exact natCarrierK1Holds L lo n
  · exact h.elim)
/-! ### regatta/nat.carrier$1 -/
def natPutK0Text (L : List Int) (i n c : Int) : Prop := (match (inb i L.length) with | true => (match (inb i L.length) with | true => ((True ∧ True) ∧ ((((n + c) / (4294967296 : Int) = (IntKind.u64.wrap (n + c)).fdiv ((2 : Int) ^ min (Int.toNat (32 : Int)) IntKind.u64.bits)) ∧ True) ∧ ((True ∧ True) ∧ ((L.set i.toNat ((n + c) % (4294967296 : Int)) = L.set i.toNat (IntKind.u32.wrap (IntKind.u64.wrap (n + c)))) ∧ True)))) | false => False) | false => False)
theorem natPutK0Vc (L : List Int) (i n c : Int) : fnX X0 (noAnn) Try.f106 [.raw (.int .i64 i), .raw (.int .u64 n), .ptr 0 0, .ptr 1 0] [.cells [.raw (.int .u64 c)] 73, .cells [.own 2] 33, .vec 2 L 104] (ends [.cells [.raw (.int .u64 c)] 73, .cells [.own 2] 33, .vec 2 L 104] ⟨some (.tup []), [(0, some (.cells [.raw (.int .u64 ((n + c) / 4294967296))] 73)), (2, some (.vec 2 (L.set i.toNat ((n + c) % 4294967296)) 104))]⟩) = natPutK0Text L i n c := by kernel_rfl
theorem natPutK0Holds (L : List Int) (i n c : Int) (hp : 0 ≤ i ∧ i < L.length ∧ 0 ≤ n ∧ 0 ≤ c ∧ n + c < 18446744073709551616) : natPutK0Text L i n c := by
  unfold natPutK0Text
  obtain ⟨h1, h2, h3, h4, h5⟩ := hp
  rw [u64_id (by omega) h5, inb_iff.2 ⟨h1, h2⟩]
  have e : (n + c) / 4294967296 = (n + c).fdiv ((2 : Int) ^ min (Int.toNat (32 : Int)) IntKind.u64.bits) := (shr32 _).symm
  repeat' first | exact e | trivial | rfl | apply And.intro
def natPutK1Text (L : List Int) (lo m i n c : Int) : Prop := (match (inb i m.toNat && decide ((0 : Int) ≤ lo) && decide (lo + m ≤ (↑L.length : Int))) with | true => (match (inb (lo + i) L.length) with | true => ((True ∧ True) ∧ ((((n + c) / (4294967296 : Int) = (IntKind.u64.wrap (n + c)).fdiv ((2 : Int) ^ min (Int.toNat (32 : Int)) IntKind.u64.bits)) ∧ True) ∧ ((((lo = lo) ∧ (m = m)) ∧ True) ∧ ((L.set (lo + i).toNat ((n + c) % (4294967296 : Int)) = L.set (lo + i).toNat (IntKind.u32.wrap (IntKind.u64.wrap (n + c)))) ∧ True)))) | false => False) | false => False)
theorem natPutK1Vc (L : List Int) (lo m i n c : Int) : fnX X0 (noAnn) Try.f106 [.raw (.int .i64 i), .raw (.int .u64 n), .ptr 0 0, .ptr 1 0] [.cells [.raw (.int .u64 c)] 73, .cells [.view 2 lo m 1] 33, .vec 2 L 104] (ends [.cells [.raw (.int .u64 c)] 73, .cells [.view 2 lo m 1] 33, .vec 2 L 104] ⟨some (.tup []), [(0, some (.cells [.raw (.int .u64 ((n + c) / 4294967296))] 73)), (2, some (.vec 2 (L.set (lo + i).toNat ((n + c) % 4294967296)) 104))]⟩) = natPutK1Text L lo m i n c := by kernel_rfl
theorem natPutK1Holds (L : List Int) (lo m i n c : Int) (hp : 0 ≤ i ∧ i < m ∧ 0 ≤ lo ∧ lo + m ≤ L.length ∧ 0 ≤ n ∧ 0 ≤ c ∧ n + c < 18446744073709551616) : natPutK1Text L lo m i n c := by
  unfold natPutK1Text
  obtain ⟨h1, h2, h3, h4, h5, h6, h7⟩ := hp
  rw [u64_id (by omega) h7, show (inb i m.toNat && decide (0 ≤ lo) && decide (lo + m ≤ (L.length : Int))) = true by simp only [Bool.and_eq_true, decide_eq_true_eq]; exact ⟨⟨inb_iff.2 ⟨h1, by omega⟩, h3⟩, h4⟩, inb_iff.2 ⟨by omega, by omega⟩]
  have e : (n + c) / 4294967296 = (n + c).fdiv ((2 : Int) ^ min (Int.toNat (32 : Int)) IntKind.u64.bits) := (shr32 _).symm
  repeat' first | exact e | trivial | rfl | apply And.intro
noncomputable def natPutCon : Con T O := fun args cs => match args, cs with
  | [.raw (.int .i64 i), .raw (.int .u64 n), .ptr 0 0, .ptr 1 0], [.cells [.raw (.int .u64 c)] 73, .cells [.own 2] 33, .vec 2 L 104] => chk (decide (0 ≤ i ∧ i < L.length ∧ 0 ≤ n ∧ 0 ≤ c ∧ n + c < 18446744073709551616)) (.ret ⟨some (.tup []), [(0, some (.cells [.raw (.int .u64 ((n + c) / 4294967296))] 73)), (2, some (.vec 2 (L.set i.toNat ((n + c) % 4294967296)) 104))]⟩)
  | [.raw (.int .i64 i), .raw (.int .u64 n), .ptr 0 0, .ptr 1 0], [.cells [.raw (.int .u64 c)] 73, .cells [.view 2 lo m 1] 33, .vec 2 L 104] => chk (decide (0 ≤ i ∧ i < m ∧ 0 ≤ lo ∧ lo + m ≤ L.length ∧ 0 ≤ n ∧ 0 ≤ c ∧ n + c < 18446744073709551616)) (.ret ⟨some (.tup []), [(0, some (.cells [.raw (.int .u64 ((n + c) / 4294967296))] 73)), (2, some (.vec 2 (L.set (lo + i).toNat ((n + c) % 4294967296)) 104))]⟩)
  | _, _ => .fail
theorem natPutOk : ConOk R Try.prog 106 natPutCon := con_of_fn R (X0) (TabOk.con R X0Ok) mixed Try.call106 Try.func106 natPutCon (by
  intro args cs K h
  unfold natPutCon at h
  split at h
  · rename_i i n c L
    rw [Tree.holds_chk] at h
    obtain ⟨hp, h⟩ := h
    refine ⟨noAnn, _, fun v S hv => ⟨_, h, hv⟩, ?_⟩
    rw [natPutK0Vc L i n c]
    exact natPutK0Holds L i n c (of_decide_eq_true hp)
  · rename_i i n c lo m L
    rw [Tree.holds_chk] at h
    obtain ⟨hp, h⟩ := h
    refine ⟨noAnn, _, fun v S hv => ⟨_, h, hv⟩, ?_⟩
    rw [natPutK1Vc L lo m i n c]
    exact natPutK1Holds L lo m i n c (of_decide_eq_true hp)
  · exact h.elim)
/-! ### cmp.isNaN[int] -/
def nanI (a0 : Int) : Bool := (a0 != a0)
noncomputable def nanICon : Con T O := fun args cs => match args, cs with
  | [.raw (.int .i64 a0)], [] => retv (.raw (.bool (nanI a0)))
  | _, _ => .fail
theorem nanIVc (a0 : Int) : fnX X0 noAnn Try.f100 [.raw (.int .i64 a0)] [] (ends [] ⟨some (.raw (.bool (nanI a0))), []⟩) = (((nanI a0 = (a0 != a0)) ∧ True) ∧ True) := by kernel_rfl
theorem nanIOk : ConOk R Try.prog 100 nanICon := con_of_fn R X0 (TabOk.con R X0Ok) mixed Try.call100 Try.func100 nanICon (by
  intro args cs K h
  unfold nanICon at h
  split at h
  · rename_i a0
    refine ⟨noAnn, _, fun v S hv => ⟨_, h, hv⟩, ?_⟩
    rw [nanIVc a0]
    unfold nanI
    exact ⟨⟨rfl, trivial⟩, trivial⟩
  · exact h.elim)
/-! ### cmp.isNaN[uint32] -/
def nanU (a0 : Int) : Bool := (a0 != a0)
noncomputable def nanUCon : Con T O := fun args cs => match args, cs with
  | [.raw (.int .u32 a0)], [] => retv (.raw (.bool (nanU a0)))
  | _, _ => .fail
theorem nanUVc (a0 : Int) : fnX X0 noAnn Try.f105 [.raw (.int .u32 a0)] [] (ends [] ⟨some (.raw (.bool (nanU a0))), []⟩) = (((nanU a0 = (a0 != a0)) ∧ True) ∧ True) := by kernel_rfl
theorem nanUOk : ConOk R Try.prog 105 nanUCon := con_of_fn R X0 (TabOk.con R X0Ok) mixed Try.call105 Try.func105 nanUCon (by
  intro args cs K h
  unfold nanUCon at h
  split at h
  · rename_i a0
    refine ⟨noAnn, _, fun v S hv => ⟨_, h, hv⟩, ?_⟩
    rw [nanUVc a0]
    unfold nanU
    exact ⟨⟨rfl, trivial⟩, trivial⟩
  · exact h.elim)
noncomputable def tab1 : Tab T O := (94, natCutCon) :: (93, natAtCon) :: (92, natCarrierCon) :: (106, natPutCon) :: (100, nanICon) :: (105, nanUCon) :: tab0
theorem tabOk1 : TabOk R Try.prog tab1 := TabOk.cons R natCutOk <| TabOk.cons R natAtOk <| TabOk.cons R natCarrierOk <| TabOk.cons R natPutOk <| TabOk.cons R nanIOk <| TabOk.cons R nanUOk <| tabOk0
noncomputable def X1 : Ctx T O := { X0 with con := conOf tab1 }
theorem X1Ok : TabOk R X1.P tab1 := tabOk1
end Go.Proofs.Ytmnnjclnldaejaa
