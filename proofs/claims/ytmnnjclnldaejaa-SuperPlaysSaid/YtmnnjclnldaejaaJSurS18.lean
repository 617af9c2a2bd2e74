/-
  Part of a proof over the seat Ytmnnjclnldaejaa: printed by a small program or typed by hand.
-/
import Derived.Test.YtmnnjclnldaejaaSxKit
import Derived.Test.YtmnnjclnldaejaaSxRelax
import Derived.Test.YtmnnjclnldaejaaSxAnn2
import Derived.Test.YtmnnjclnldaejaaSxStable
import Derived.Test.YtmnnjclnldaejaaSxDigits
import Derived.Test.YtmnnjclnldaejaaChecked
import Derived.KernelRfl
namespace Go.Proofs.Ytmnnjclnldaejaa
open Go.Sx Go.Proofs Classical
def noEnc : Enc := { α := Unit, zero := (), n := 0, agg := true, enc := fun _ => [], dec := fun | [] => some () | _ => none, len := fun _ => rfl, back := by intro cs a h; cases cs <;> simp_all, cell := by intro a c h; cases h }
abbrev intE : Enc := { α := Int, zero := 0, n := 1, agg := false, enc := fun a => [.raw (.int .i64 a)], dec := fun | [.raw (.int .i64 a)] => some a | _ => none, len := fun _ => rfl, back := by intro cs a h; split at h <;> simp_all, cell := by intro a c h; simp at h; exact ⟨_, h, rfl⟩ }
abbrev boolE : Enc := { α := Bool, zero := false, n := 1, agg := false, enc := fun a => [.raw (.bool a)], dec := fun | [.raw (.bool a)] => some a | _ => none, len := fun _ => rfl, back := by intro cs a h; split at h <;> simp_all, cell := by intro a c h; simp at h; exact ⟨_, h, rfl⟩ }
abbrev u32E : Enc := { α := Int, zero := 0, n := 1, agg := false, enc := fun a => [.raw (.int .u32 a)], dec := fun | [.raw (.int .u32 a)] => some a | _ => none, len := fun _ => rfl, back := by intro cs a h; split at h <;> simp_all, cell := by intro a c h; simp at h; exact ⟨_, h, rfl⟩ }
structure Part where
  E : Int
  P : Int
  deriving DecidableEq
abbrev partE : Enc := { α := Part, zero := ⟨0, 0⟩, n := 2, agg := true, enc := fun a => [.raw (.int .i64 a.E), .raw (.int .i64 a.P)], dec := fun | [.raw (.int .i64 x0), .raw (.int .i64 x1)] => some ⟨x0, x1⟩ | _ => none, len := fun _ => rfl, back := by intro cs a h; split at h <;> simp_all <;> (subst h; simp), cell := by intro a c h; simp at h; rcases h with h | h <;> exact ⟨_, h, rfl⟩ }
structure Job where
  Part : Int
  Index : Int
  Release : Int
  Deadline : Int
  Left : Int
  deriving DecidableEq
abbrev jobE : Enc := { α := Job, zero := ⟨0, 0, 0, 0, 0⟩, n := 5, agg := true, enc := fun a => [.raw (.int .i64 a.Part), .raw (.int .i64 a.Index), .raw (.int .i64 a.Release), .raw (.int .i64 a.Deadline), .raw (.int .i64 a.Left)], dec := fun | [.raw (.int .i64 x0), .raw (.int .i64 x1), .raw (.int .i64 x2), .raw (.int .i64 x3), .raw (.int .i64 x4)] => some ⟨x0, x1, x2, x3, x4⟩ | _ => none, len := fun _ => rfl, back := by intro cs a h; split at h <;> simp_all <;> (subst h; simp), cell := by intro a c h; simp at h; rcases h with h | h | h | h | h <;> exact ⟨_, h, rfl⟩ }
structure Weight where
  E : Int
  P : Int
  deriving DecidableEq
abbrev weightE : Enc := { α := Weight, zero := ⟨0, 0⟩, n := 2, agg := true, enc := fun a => [.raw (.int .i64 a.E), .raw (.int .i64 a.P)], dec := fun | [.raw (.int .i64 x0), .raw (.int .i64 x1)] => some ⟨x0, x1⟩ | _ => none, len := fun _ => rfl, back := by intro cs a h; split at h <;> simp_all <;> (subst h; simp), cell := by intro a c h; simp at h; rcases h with h | h <;> exact ⟨_, h, rfl⟩ }
structure Pair where
  i0 : Int
  i1 : Int
  deriving DecidableEq
abbrev pairE : Enc := { α := Pair, zero := ⟨0, 0⟩, n := 2, agg := true, enc := fun a => [.raw (.int .i64 a.i0), .raw (.int .i64 a.i1)], dec := fun | [.raw (.int .i64 x0), .raw (.int .i64 x1)] => some ⟨x0, x1⟩ | _ => none, len := fun _ => rfl, back := by intro cs a h; split at h <;> simp_all <;> (subst h; simp), cell := by intro a c h; simp at h; rcases h with h | h <;> exact ⟨_, h, rfl⟩ }
structure Own where
  PartE : Int
  PartP : Int
  JobPart : Int
  JobIndex : Int
  JobRelease : Int
  JobDeadline : Int
  JobLeft : Int
  deriving DecidableEq
abbrev ownE : Enc := { α := Own, zero := ⟨0, 0, 0, 0, 0, 0, 0⟩, n := 7, agg := true, enc := fun a => [.raw (.int .i64 a.PartE), .raw (.int .i64 a.PartP), .raw (.int .i64 a.JobPart), .raw (.int .i64 a.JobIndex), .raw (.int .i64 a.JobRelease), .raw (.int .i64 a.JobDeadline), .raw (.int .i64 a.JobLeft)], dec := fun | [.raw (.int .i64 x0), .raw (.int .i64 x1), .raw (.int .i64 x2), .raw (.int .i64 x3), .raw (.int .i64 x4), .raw (.int .i64 x5), .raw (.int .i64 x6)] => some ⟨x0, x1, x2, x3, x4, x5, x6⟩ | _ => none, len := fun _ => rfl, back := by intro cs a h; split at h <;> simp_all <;> (subst h; simp), cell := by intro a c h; simp at h; rcases h with h | h | h | h | h | h | h <;> exact ⟨_, h, rfl⟩ }
abbrev T : Nat → Enc
  | 0 => intE
  | 1 => boolE
  | 2 => u32E
  | 3 => partE
  | 4 => jobE
  | 5 => weightE
  | 6 => pairE
  | 7 => ownE
  | _ => noEnc
abbrev O : Nat → Type := fun _ => Empty
def R : Objs O := { rep := fun _ d => d.elim, stable := fun _ d => d.elim, lt := fun _ d => d.elim, ptr := fun _ d => d.elim }
noncomputable def tab0 : Tab T O := []
theorem tabOk0 : TabOk R Try.prog tab0 := TabOk.nil R _
noncomputable def X0 : Ctx T O := { P := Try.prog, te := fun | 3 => some 0 | 2 => some 0 | 4 => some 1 | 104 => some 2 | 39 => some 3 | 52 => some 4 | 29 => some 5 | 68 => some 6 | 84 => some 7 | _ => none, arr := fun | 60 => some 0 | _ => none, con := conOf tab0 }
theorem X0Ok : TabOk R X0.P tab0 := tabOk0
theorem mixed : Try.prog.follows .mixedOrders = true := by kernel_rfl
end Go.Proofs.Ytmnnjclnldaejaa

namespace Go.Proofs.Ytmnnjclnldaejaa
open Go.Sx Go.Proofs Classical
abbrev b32 : Nat := 4294967296
theorem b32_gt : 1 < b32 := by decide
abbrev nv (L : List Int) : Nat := nvB b32 L
def lim (n : Nat) : List Int := limB b32 n
/-- a row is a number's -/
def isN (L : List Int) : Prop := L = lim (nvB b32 L)
theorem isN_lim (n : Nat) : isN (lim n) := by unfold isN lim; rw [nvB_limB b32_gt]
theorem nv_lim (n : Nat) : nvB b32 (lim n) = n := nvB_limB b32_gt n
theorem isN.ok {L : List Int} (h : isN L) : OkB b32 L := by rw [h]; exact limB_ok b32_gt _
def cmpN (a b : Nat) : Int := bif decide (a < b) then -1 else bif decide (a = b) then 0 else 1
def limS (L : List Int) : List Int := cutD L
theorem lim_lt {n k : Nat} (h : n < b32 ^ k) : (lim n).length ≤ k := limB_lt b32_gt h
theorem nv_lt {L : List Int} (h : isN L) : nvB b32 L < b32 ^ L.length := nvB_lt b32_gt h.ok
theorem len_mono {m n : Nat} (h : m ≤ n) : (lim m).length ≤ (lim n).length := by
  rcases Nat.lt_or_ge (lim n).length (lim m).length with g | g
  · have := nvB_len_lt b32_gt g
    omega
  · exact g
theorem isN.len {L : List Int} (h : isN L) {n : Nat} (hn : nvB b32 L ≤ n) : L.length ≤ (lim n).length := by
  rw [h]; exact len_mono hn
/-- the closure's captured variable -/
def atCap {T : Nat → Enc} {O : Nat → Type} (S : SS T O) (t i : Nat) (c : Chunk T O) : SS T O := match getT S.tmps t with
  | some (.fn _ l) => match l[i]? with
    | some v => match v.head with
      | [k] => { S with heap := setK k c S.heap }
      | _ => S
    | none => S
  | _ => S
theorem u64_id {n : Int} (h0 : 0 ≤ n) (h1 : n < 18446744073709551616) : IntKind.u64.wrap n = n := by
  show n % 18446744073709551616 = n
  omega
theorem u32_mod (n : Int) : IntKind.u32.wrap n = n % 4294967296 := rfl
theorem shr32 (n : Int) : n.fdiv ((2 : Int) ^ min (Int.toNat (32 : Int)) IntKind.u64.bits) = n / 4294967296 := by
  show n.fdiv 4294967296 = _
  exact Int.fdiv_eq_ediv_of_nonneg _ (by omega)
theorem slOk_max {k n : Nat} (h : k ≤ n) : slOk none (some (k : Int)) (some (k : Int)) (n : Int) = true := by simp [slOk, optB]; omega
theorem slOk_from {k n : Nat} (h : k ≤ n) : slOk (some (k : Int)) none none (n : Int) = true := by simp [slOk, optB]; omega

/-! ### regatta/nat.cut -/
def natCutText (L : List Int) : Prop := ((∃ x : Nat, (((x ≤ L.length) ∧ (cutTo L L.length = cutTo L x)) ∧ ((True ∧ (((↑x : Int) = (↑L.length : Int)) ∧ True)) ∧ ((L = L) ∧ True)))) ∧ (∀ x : Nat, (((x ≤ L.length) ∧ (cutTo L L.length = cutTo L x)) → (match (decide ((↑x : Int) > (0 : Int))) with | true => (match (inb (IntKind.i64.wrap ((↑x : Int) - (1 : Int))) L.length) with | true => (match (inb (IntKind.i64.wrap ((↑x : Int) - (1 : Int))) L.length) with | true => (match (at' (0 : Int) L (IntKind.i64.wrap ((↑x : Int) - (1 : Int))) != (0 : Int)) with | true => (match (slOk none (some (↑x : Int)) (some (↑x : Int)) (↑L.length : Int)) with | true => ((True ∧ True) ∧ ((L = L) ∧ ((cutD L = cutL none (some (↑x : Int)) L) ∧ True))) | false => False) | false => (∃ x' : Nat, (((x' ≤ L.length) ∧ (cutTo L L.length = cutTo L x')) ∧ ((x' < x) ∧ ((True ∧ (((↑x' : Int) = IntKind.i64.wrap ((↑x : Int) - (1 : Int))) ∧ True)) ∧ ((L = L) ∧ True)))))) | false => False) | false => False) | false => (match (slOk none (some (↑x : Int)) (some (↑x : Int)) (↑L.length : Int)) with | true => ((True ∧ True) ∧ ((L = L) ∧ ((cutD L = cutL none (some (↑x : Int)) L) ∧ True))) | false => False)))))
theorem natCutVc (L : List Int) : fnX { X0 with frz := true } (oneLoop 2 { σ := Nat, st := fun S x => (S.keep [0]).int 3 x, inv := fun _ x => x ≤ L.length ∧ cutTo L L.length = cutTo L x, m := fun x => x }) Try.f94 [.own 0] [.vec 2 L 104] (ends [.vec 2 L 104] ⟨some (.own 1), [(0, some (.ro 2 L)), (1, some (.ro 2 (cutD L)))]⟩) = natCutText L := by kernel_rfl
theorem natCutHolds (L : List Int) (hp : L.length ≤ 3000) : natCutText L := by
  unfold natCutText
  refine ⟨⟨L.length, ⟨Nat.le_refl _, rfl⟩, by repeat' first | trivial | rfl | apply And.intro⟩, ?_⟩
  rintro x ⟨hx, hs⟩
  have hcut : ∀ n, cutTo L L.length = n → n ≤ L.length → cutD L = cutL none (some (n : Int)) L := by
    intro n e _
    show L.take (cutTo L L.length) = L.take n
    rw [e]
  cases x with
  | zero =>
    rw [show decide (((0 : Nat) : Int) > 0) = false from rfl, slOk_max (Nat.zero_le _)]
    have e := hcut 0 hs (Nat.zero_le _)
    repeat' first | exact e | trivial | rfl | apply And.intro
  | succ k =>
    have hk : k < L.length := by omega
    rw [show decide (((k + 1 : Nat) : Int) > 0) = true from decide_eq_true (by omega), show IntKind.i64.wrap (((k + 1 : Nat) : Int) - 1) = (k : Int) by rw [wrap_id (by omega) (by omega)]; omega, inb_nat hk]
    simp only [cutTo] at hs
    cases e : at' 0 L (k : Int) == 0
    · rw [e, cond_false] at hs
      rw [show (at' 0 L (k : Int) != 0) = true by rw [bne, e]; rfl, slOk_max hx]
      have e := hcut (k + 1) hs hx
      repeat' first | exact e | trivial | rfl | apply And.intro
    · rw [e, cond_true] at hs
      rw [show (at' 0 L (k : Int) != 0) = false by rw [bne, e]; rfl]
      refine ⟨k, ⟨by omega, hs⟩, by omega, ?_⟩
      repeat' first | trivial | rfl | apply And.intro
noncomputable def natCutCon : Con T O := fun args cs => match args, cs with
  | [.own 0], [.vec 2 L 104] => chk (decide (L.length ≤ 3000)) (.ret ⟨some (.own 1), [(0, some (.ro 2 L)), (1, some (.ro 2 (cutD L)))]⟩)
  | _, _ => .fail
theorem natCutOk : ConOk R Try.prog 94 natCutCon := con_of_fn R ({ X0 with frz := true }) (TabOk.con R X0Ok) mixed Try.call94 Try.func94 natCutCon (by
  intro args cs K h
  unfold natCutCon at h
  split at h
  · rename_i L
    rw [Tree.holds_chk] at h
    obtain ⟨hp, h⟩ := h
    refine ⟨oneLoop 2 { σ := Nat, st := fun S x => (S.keep [0]).int 3 x, inv := fun _ x => x ≤ L.length ∧ cutTo L L.length = cutTo L x, m := fun x => x }, _, fun v S hv => ⟨_, h, hv⟩, ?_⟩
    rw [natCutVc L]
    exact natCutHolds L (of_decide_eq_true hp)
  · exact h.elim)
/-! ### regatta/nat.at -/
def natAtText (A : List Int) (i : Int) : Prop := (match (decide (i < (↑A.length : Int))) with | true => (match (inb i A.length) with | true => (match (inb i A.length) with | true => ((((↑(gd A i.toNat) : Int) = IntKind.u64.wrap (at' (0 : Int) A i)) ∧ True) ∧ ((A = A) ∧ True)) | false => False) | false => False) | false => ((((↑(gd A i.toNat) : Int) = (0 : Int)) ∧ True) ∧ ((A = A) ∧ True)))
theorem natAtVc (A : List Int) (i : Int) : fnX X0 (noAnn) Try.f93 [.own 0, .raw (.int .i64 i)] [.ro 2 A] (ends [.ro 2 A] ⟨some (.raw (.int .u64 (gd A i.toNat : Nat))), []⟩) = natAtText A i := by kernel_rfl
theorem natAtHolds (A : List Int) (i : Int) (hp : 0 ≤ i ∧ OkB b32 A) : natAtText A i := by
  unfold natAtText
  obtain ⟨h0, hok⟩ := hp
  obtain ⟨k, rfl⟩ := Int.eq_ofNat_of_zero_le h0
  rw [Int.toNat_natCast]
  by_cases h : k < A.length
  · rw [dec_lt h, inb_nat h]
    have hx : 0 ≤ A[k] ∧ A[k] < 4294967296 := hok _ (List.getElem_mem h)
    have e : ((gd A k : Nat) : Int) = IntKind.u64.wrap (at' 0 A (k : Int)) := by rw [gd_lt h, at_nat h, u64_id (by omega) (by omega)]; omega
    repeat' first | exact e | trivial | rfl | apply And.intro
  · rw [dec_ge (by omega)]
    have e : ((gd A k : Nat) : Int) = 0 := by rw [gd_ge (by omega)]; rfl
    repeat' first | exact e | trivial | rfl | apply And.intro
noncomputable def natAtBCon : Con T O := fun args cs => match args, cs with
  | [.own 0, .raw (.int .i64 i)], [.ro 2 A] => chk (decide (0 ≤ i ∧ OkB b32 A)) (.ret ⟨some (.raw (.int .u64 (gd A i.toNat : Nat))), []⟩)
  | _, _ => .fail
theorem natAtBOk : ConOk R Try.prog 93 natAtBCon := con_of_fn R (X0) (TabOk.con R X0Ok) mixed Try.call93 Try.func93 natAtBCon (by
  intro args cs K h
  unfold natAtBCon at h
  split at h
  · rename_i i A
    rw [Tree.holds_chk] at h
    obtain ⟨hp, h⟩ := h
    refine ⟨noAnn, _, fun v S hv => ⟨_, h, hv⟩, ?_⟩
    rw [natAtVc A i]
    exact natAtHolds A i (of_decide_eq_true hp)
  · exact h.elim)
noncomputable def natAtCon : Con T O := relax 2 natAtBCon
theorem natAtOk : ConOk R Try.prog 93 natAtCon := relax_ok R 2 natAtBOk
/-! ### regatta/nat.carrier -/
def natCarrierK0Text (L : List Int) : Prop := (((True ∧ (True ∧ True)) ∧ True) ∧ ((L = L) ∧ ((True ∧ True) ∧ ((((0 : Int) = (0 : Int)) ∧ True) ∧ True))))
theorem natCarrierK0Vc (L : List Int) : fnX X0 (noAnn) Try.f92 [.own 0] [.vec 2 L 104] (ends [.vec 2 L 104] ⟨some (.fn 106 [.ptr 2 0, .ptr 1 0]), [(0, some (.vec 2 L 104)), (1, some (.cells [.own 0] 33)), (2, some (.cells [.raw (.int .u64 0)] 73))]⟩) = natCarrierK0Text L := by kernel_rfl
theorem natCarrierK0Holds (L : List Int) : natCarrierK0Text L := by
  unfold natCarrierK0Text
  repeat' first | trivial | rfl | apply And.intro
def natCarrierK1Text (L : List Int) (lo n : Int) : Prop := (((True ∧ (True ∧ True)) ∧ True) ∧ ((L = L) ∧ ((((lo = lo) ∧ (n = n)) ∧ True) ∧ ((((0 : Int) = (0 : Int)) ∧ True) ∧ True))))
theorem natCarrierK1Vc (L : List Int) (lo n : Int) : fnX X0 (noAnn) Try.f92 [.view 0 lo n 1] [.vec 2 L 104] (ends [.vec 2 L 104] ⟨some (.fn 106 [.ptr 2 0, .ptr 1 0]), [(0, some (.vec 2 L 104)), (1, some (.cells [.view 0 lo n 1] 33)), (2, some (.cells [.raw (.int .u64 0)] 73))]⟩) = natCarrierK1Text L lo n := by kernel_rfl
theorem natCarrierK1Holds (L : List Int) (lo n : Int) : natCarrierK1Text L lo n := by
  unfold natCarrierK1Text
  repeat' first | trivial | rfl | apply And.intro
noncomputable def natCarrierCon : Con T O := fun args cs => match args, cs with
  | [.own 0], [.vec 2 L 104] => .ret ⟨some (.fn 106 [.ptr 2 0, .ptr 1 0]), [(0, some (.vec 2 L 104)), (1, some (.cells [.own 0] 33)), (2, some (.cells [.raw (.int .u64 0)] 73))]⟩
  | [.view 0 lo n 1], [.vec 2 L 104] => .ret ⟨some (.fn 106 [.ptr 2 0, .ptr 1 0]), [(0, some (.vec 2 L 104)), (1, some (.cells [.view 0 lo n 1] 33)), (2, some (.cells [.raw (.int .u64 0)] 73))]⟩
  | _, _ => .fail
theorem natCarrierOk : ConOk R Try.prog 92 natCarrierCon := con_of_fn R (X0) (TabOk.con R X0Ok) mixed Try.call92 Try.func92 natCarrierCon (by
  intro args cs K h
  unfold natCarrierCon at h
  split at h
  · rename_i L
    refine ⟨noAnn, _, fun v S hv => ⟨_, h, hv⟩, ?_⟩
    rw [natCarrierK0Vc L]
    exact natCarrierK0Holds L
  · rename_i lo n L
    refine ⟨noAnn, _, fun v S hv => ⟨_, h, hv⟩, ?_⟩
    rw [natCarrierK1Vc L lo n]
    exact natCarrierK1Holds L lo n
  · exact h.elim)
/-! ### regatta/nat.carrier$1 -/
def natPutK0Text (L : List Int) (i n c : Int) : Prop := (match (inb i L.length) with | true => (match (inb i L.length) with | true => ((True ∧ True) ∧ ((((n + c) / (4294967296 : Int) = (IntKind.u64.wrap (n + c)).fdiv ((2 : Int) ^ min (Int.toNat (32 : Int)) IntKind.u64.bits)) ∧ True) ∧ ((True ∧ True) ∧ ((L.set i.toNat ((n + c) % (4294967296 : Int)) = L.set i.toNat (IntKind.u32.wrap (IntKind.u64.wrap (n + c)))) ∧ True)))) | false => False) | false => False)
theorem natPutK0Vc (L : List Int) (i n c : Int) : fnX X0 (noAnn) Try.f106 [.raw (.int .i64 i), .raw (.int .u64 n), .ptr 0 0, .ptr 1 0] [.cells [.raw (.int .u64 c)] 73, .cells [.own 2] 33, .vec 2 L 104] (ends [.cells [.raw (.int .u64 c)] 73, .cells [.own 2] 33, .vec 2 L 104] ⟨some (.tup []), [(0, some (.cells [.raw (.int .u64 ((n + c) / 4294967296))] 73)), (2, some (.vec 2 (L.set i.toNat ((n + c) % 4294967296)) 104))]⟩) = natPutK0Text L i n c := by kernel_rfl
theorem natPutK0Holds (L : List Int) (i n c : Int) (hp : 0 ≤ i ∧ i < L.length ∧ 0 ≤ n ∧ 0 ≤ c ∧ n + c < 18446744073709551616) : natPutK0Text L i n c := by
  unfold natPutK0Text
  obtain ⟨h1, h2, h3, h4, h5⟩ := hp
  rw [u64_id (by omega) h5, inb_iff.2 ⟨h1, h2⟩]
  have e : (n + c) / 4294967296 = (n + c).fdiv ((2 : Int) ^ min (Int.toNat (32 : Int)) IntKind.u64.bits) := (shr32 _).symm
  repeat' first | exact e | trivial | rfl | apply And.intro
def natPutK1Text (L : List Int) (lo m i n c : Int) : Prop := (match (inb i m.toNat && decide ((0 : Int) ≤ lo) && decide (lo + m ≤ (↑L.length : Int))) with | true => (match (inb (lo + i) L.length) with | true => ((True ∧ True) ∧ ((((n + c) / (4294967296 : Int) = (IntKind.u64.wrap (n + c)).fdiv ((2 : Int) ^ min (Int.toNat (32 : Int)) IntKind.u64.bits)) ∧ True) ∧ ((((lo = lo) ∧ (m = m)) ∧ True) ∧ ((L.set (lo + i).toNat ((n + c) % (4294967296 : Int)) = L.set (lo + i).toNat (IntKind.u32.wrap (IntKind.u64.wrap (n + c)))) ∧ True)))) | false => False) | false => False)
theorem natPutK1Vc (L : List Int) (lo m i n c : Int) : fnX X0 (noAnn) Try.f106 [.raw (.int .i64 i), .raw (.int .u64 n), .ptr 0 0, .ptr 1 0] [.cells [.raw (.int .u64 c)] 73, .cells [.view 2 lo m 1] 33, .vec 2 L 104] (ends [.cells [.raw (.int .u64 c)] 73, .cells [.view 2 lo m 1] 33, .vec 2 L 104] ⟨some (.tup []), [(0, some (.cells [.raw (.int .u64 ((n + c) / 4294967296))] 73)), (2, some (.vec 2 (L.set (lo + i).toNat ((n + c) % 4294967296)) 104))]⟩) = natPutK1Text L lo m i n c := by kernel_rfl
theorem natPutK1Holds (L : List Int) (lo m i n c : Int) (hp : 0 ≤ i ∧ i < m ∧ 0 ≤ lo ∧ lo + m ≤ L.length ∧ 0 ≤ n ∧ 0 ≤ c ∧ n + c < 18446744073709551616) : natPutK1Text L lo m i n c := by
  unfold natPutK1Text
  obtain ⟨h1, h2, h3, h4, h5, h6, h7⟩ := hp
  rw [u64_id (by omega) h7, show (inb i m.toNat && decide (0 ≤ lo) && decide (lo + m ≤ (L.length : Int))) = true by simp only [Bool.and_eq_true, decide_eq_true_eq]; exact ⟨⟨inb_iff.2 ⟨h1, by omega⟩, h3⟩, h4⟩, inb_iff.2 ⟨by omega, by omega⟩]
  have e : (n + c) / 4294967296 = (n + c).fdiv ((2 : Int) ^ min (Int.toNat (32 : Int)) IntKind.u64.bits) := (shr32 _).symm
  repeat' first | exact e | trivial | rfl | apply And.intro
noncomputable def natPutCon : Con T O := fun args cs => match args, cs with
  | [.raw (.int .i64 i), .raw (.int .u64 n), .ptr 0 0, .ptr 1 0], [.cells [.raw (.int .u64 c)] 73, .cells [.own 2] 33, .vec 2 L 104] => chk (decide (0 ≤ i ∧ i < L.length ∧ 0 ≤ n ∧ 0 ≤ c ∧ n + c < 18446744073709551616)) (.ret ⟨some (.tup []), [(0, some (.cells [.raw (.int .u64 ((n + c) / 4294967296))] 73)), (2, some (.vec 2 (L.set i.toNat ((n + c) % 4294967296)) 104))]⟩)
  | [.raw (.int .i64 i), .raw (.int .u64 n), .ptr 0 0, .ptr 1 0], [.cells [.raw (.int .u64 c)] 73, .cells [.view 2 lo m 1] 33, .vec 2 L 104] => chk (decide (0 ≤ i ∧ i < m ∧ 0 ≤ lo ∧ lo + m ≤ L.length ∧ 0 ≤ n ∧ 0 ≤ c ∧ n + c < 18446744073709551616)) (.ret ⟨some (.tup []), [(0, some (.cells [.raw (.int .u64 ((n + c) / 4294967296))] 73)), (2, some (.vec 2 (L.set (lo + i).toNat ((n + c) % 4294967296)) 104))]⟩)
  | _, _ => .fail
theorem natPutOk : ConOk R Try.prog 106 natPutCon := con_of_fn R (X0) (TabOk.con R X0Ok) mixed Try.call106 Try.func106 natPutCon (by
  intro args cs K h
  unfold natPutCon at h
  split at h
  · rename_i i n c L
    rw [Tree.holds_chk] at h
    obtain ⟨hp, h⟩ := h
    refine ⟨noAnn, _, fun v S hv => ⟨_, h, hv⟩, ?_⟩
    rw [natPutK0Vc L i n c]
    exact natPutK0Holds L i n c (of_decide_eq_true hp)
  · rename_i i n c lo m L
    rw [Tree.holds_chk] at h
    obtain ⟨hp, h⟩ := h
    refine ⟨noAnn, _, fun v S hv => ⟨_, h, hv⟩, ?_⟩
    rw [natPutK1Vc L lo m i n c]
    exact natPutK1Holds L lo m i n c (of_decide_eq_true hp)
  · exact h.elim)
/-! ### cmp.isNaN[int] -/
def nanI (a0 : Int) : Bool := (a0 != a0)
noncomputable def nanICon : Con T O := fun args cs => match args, cs with
  | [.raw (.int .i64 a0)], [] => retv (.raw (.bool (nanI a0)))
  | _, _ => .fail
theorem nanIVc (a0 : Int) : fnX X0 noAnn Try.f100 [.raw (.int .i64 a0)] [] (ends [] ⟨some (.raw (.bool (nanI a0))), []⟩) = (((nanI a0 = (a0 != a0)) ∧ True) ∧ True) := by kernel_rfl
theorem nanIOk : ConOk R Try.prog 100 nanICon := con_of_fn R X0 (TabOk.con R X0Ok) mixed Try.call100 Try.func100 nanICon (by
  intro args cs K h
  unfold nanICon at h
  split at h
  · rename_i a0
    refine ⟨noAnn, _, fun v S hv => ⟨_, h, hv⟩, ?_⟩
    rw [nanIVc a0]
    unfold nanI
    exact ⟨⟨rfl, trivial⟩, trivial⟩
  · exact h.elim)
/-! ### cmp.isNaN[uint32] -/
def nanU (a0 : Int) : Bool := (a0 != a0)
noncomputable def nanUCon : Con T O := fun args cs => match args, cs with
  | [.raw (.int .u32 a0)], [] => retv (.raw (.bool (nanU a0)))
  | _, _ => .fail
theorem nanUVc (a0 : Int) : fnX X0 noAnn Try.f105 [.raw (.int .u32 a0)] [] (ends [] ⟨some (.raw (.bool (nanU a0))), []⟩) = (((nanU a0 = (a0 != a0)) ∧ True) ∧ True) := by kernel_rfl
theorem nanUOk : ConOk R Try.prog 105 nanUCon := con_of_fn R X0 (TabOk.con R X0Ok) mixed Try.call105 Try.func105 nanUCon (by
  intro args cs K h
  unfold nanUCon at h
  split at h
  · rename_i a0
    refine ⟨noAnn, _, fun v S hv => ⟨_, h, hv⟩, ?_⟩
    rw [nanUVc a0]
    unfold nanU
    exact ⟨⟨rfl, trivial⟩, trivial⟩
  · exact h.elim)
noncomputable def tab1 : Tab T O := (94, natCutCon) :: (93, natAtCon) :: (92, natCarrierCon) :: (106, natPutCon) :: (100, nanICon) :: (105, nanUCon) :: tab0
theorem tabOk1 : TabOk R Try.prog tab1 := TabOk.cons R natCutOk <| TabOk.cons R natAtOk <| TabOk.cons R natCarrierOk <| TabOk.cons R natPutOk <| TabOk.cons R nanIOk <| TabOk.cons R nanUOk <| tabOk0
noncomputable def X1 : Ctx T O := { X0 with con := conOf tab1 }
theorem X1Ok : TabOk R X1.P tab1 := tabOk1
end Go.Proofs.Ytmnnjclnldaejaa

namespace Go.Proofs.Ytmnnjclnldaejaa
open Go.Sx Go.Proofs Classical
/-! ### cmp.Compare[int] -/
def cmpI (a0 : Int) (a1 : Int) : Int := (match (nanI a0) with | true => (match (nanI a1) with | true => ((0 : Int)) | false => ((-1 : Int))) | false => (match (nanI a1) with | true => ((1 : Int)) | false => (match (decide (a0 < a1)) with | true => ((-1 : Int)) | false => (match (decide (a0 > a1)) with | true => ((1 : Int)) | false => ((0 : Int))))))
noncomputable def cmpICon : Con T O := fun args cs => match args, cs with
  | [.raw (.int .i64 a0), .raw (.int .i64 a1)], [] => retv (.raw (.int .i64 (cmpI a0 a1)))
  | _, _ => .fail
theorem cmpIVc (a0 : Int) (a1 : Int) : fnX X1 noAnn Try.f82 [.raw (.int .i64 a0), .raw (.int .i64 a1)] [] (ends [] ⟨some (.raw (.int .i64 (cmpI a0 a1))), []⟩) = ((match (nanI a0) with | true => (match (nanI a1) with | true => ((cmpI a0 a1 = ((0 : Int))) ∧ True) ∧ True | false => ((cmpI a0 a1 = ((-1 : Int))) ∧ True) ∧ True) | false => (match (nanI a1) with | true => ((cmpI a0 a1 = ((1 : Int))) ∧ True) ∧ True | false => (match (decide (a0 < a1)) with | true => ((cmpI a0 a1 = ((-1 : Int))) ∧ True) ∧ True | false => (match (decide (a0 > a1)) with | true => ((cmpI a0 a1 = ((1 : Int))) ∧ True) ∧ True | false => ((cmpI a0 a1 = ((0 : Int))) ∧ True) ∧ True))))) := by kernel_rfl
theorem cmpIOk : ConOk R Try.prog 82 cmpICon := con_of_fn R X1 (TabOk.con R X1Ok) mixed Try.call82 Try.func82 cmpICon (by
  intro args cs K h
  unfold cmpICon at h
  split at h
  · rename_i a0 a1
    refine ⟨noAnn, _, fun v S hv => ⟨_, h, hv⟩, ?_⟩
    rw [cmpIVc a0 a1]
    unfold cmpI
    cases (nanI a0)
    ·
      cases (nanI a1)
      ·
        cases (decide (a0 < a1))
        ·
          cases (decide (a0 > a1))
          ·
            exact ⟨⟨rfl, trivial⟩, trivial⟩
          ·
            exact ⟨⟨rfl, trivial⟩, trivial⟩
        ·
          exact ⟨⟨rfl, trivial⟩, trivial⟩
      ·
        exact ⟨⟨rfl, trivial⟩, trivial⟩
    ·
      cases (nanI a1)
      ·
        exact ⟨⟨rfl, trivial⟩, trivial⟩
      ·
        exact ⟨⟨rfl, trivial⟩, trivial⟩
  · exact h.elim)
/-! ### cmp.Compare[uint32] -/
def cmpU (a0 : Int) (a1 : Int) : Int := (match (nanU a0) with | true => (match (nanU a1) with | true => ((0 : Int)) | false => ((-1 : Int))) | false => (match (nanU a1) with | true => ((1 : Int)) | false => (match (decide (a0 < a1)) with | true => ((-1 : Int)) | false => (match (decide (a0 > a1)) with | true => ((1 : Int)) | false => ((0 : Int))))))
noncomputable def cmpUCon : Con T O := fun args cs => match args, cs with
  | [.raw (.int .u32 a0), .raw (.int .u32 a1)], [] => retv (.raw (.int .i64 (cmpU a0 a1)))
  | _, _ => .fail
theorem cmpUVc (a0 : Int) (a1 : Int) : fnX X1 noAnn Try.f91 [.raw (.int .u32 a0), .raw (.int .u32 a1)] [] (ends [] ⟨some (.raw (.int .i64 (cmpU a0 a1))), []⟩) = ((match (nanU a0) with | true => (match (nanU a1) with | true => ((cmpU a0 a1 = ((0 : Int))) ∧ True) ∧ True | false => ((cmpU a0 a1 = ((-1 : Int))) ∧ True) ∧ True) | false => (match (nanU a1) with | true => ((cmpU a0 a1 = ((1 : Int))) ∧ True) ∧ True | false => (match (decide (a0 < a1)) with | true => ((cmpU a0 a1 = ((-1 : Int))) ∧ True) ∧ True | false => (match (decide (a0 > a1)) with | true => ((cmpU a0 a1 = ((1 : Int))) ∧ True) ∧ True | false => ((cmpU a0 a1 = ((0 : Int))) ∧ True) ∧ True))))) := by kernel_rfl
theorem cmpUOk : ConOk R Try.prog 91 cmpUCon := con_of_fn R X1 (TabOk.con R X1Ok) mixed Try.call91 Try.func91 cmpUCon (by
  intro args cs K h
  unfold cmpUCon at h
  split at h
  · rename_i a0 a1
    refine ⟨noAnn, _, fun v S hv => ⟨_, h, hv⟩, ?_⟩
    rw [cmpUVc a0 a1]
    unfold cmpU
    cases (nanU a0)
    ·
      cases (nanU a1)
      ·
        cases (decide (a0 < a1))
        ·
          cases (decide (a0 > a1))
          ·
            exact ⟨⟨rfl, trivial⟩, trivial⟩
          ·
            exact ⟨⟨rfl, trivial⟩, trivial⟩
        ·
          exact ⟨⟨rfl, trivial⟩, trivial⟩
      ·
        exact ⟨⟨rfl, trivial⟩, trivial⟩
    ·
      cases (nanU a1)
      ·
        exact ⟨⟨rfl, trivial⟩, trivial⟩
      ·
        exact ⟨⟨rfl, trivial⟩, trivial⟩
  · exact h.elim)
/-! ### regatta/nat.Of -/
def natOfText (n : Int) : Prop := ((True ∧ True) ∧ ((lim n.toNat = cutD [IntKind.u32.wrap n, IntKind.u32.wrap (n.fdiv ((2 : Int) ^ min (Int.toNat (32 : Int)) IntKind.u64.bits))]) ∧ True))
theorem natOfVc (n : Int) : fnX X1 (noAnn) Try.f72 [.raw (.int .u64 n)] [] (ends [] ⟨some (.own 0), [(0, some (.ro 2 (lim n.toNat)))]⟩) = natOfText n := by kernel_rfl
theorem natOfHolds (n : Int) (hp : 0 ≤ n ∧ n < 18446744073709551616) : natOfText n := by
  unfold natOfText
  obtain ⟨h0, h1⟩ := hp
  obtain ⟨n, rfl⟩ := Int.eq_ofNat_of_zero_le h0
  rw [shr32, u32_mod, u32_mod, Int.toNat_natCast]
  have e : lim n = cutD [(n : Int) % 4294967296, (n : Int) / 4294967296 % 4294967296] := by
    have hok : OkB b32 [(n : Int) % 4294967296, (n : Int) / 4294967296 % 4294967296] := by
      intro x hx
      simp only [List.mem_cons, List.not_mem_nil, or_false] at hx
      show 0 ≤ x ∧ x < 4294967296
      rcases hx with rfl | rfl <;> omega
    rw [cutD_lim b32_gt hok]
    unfold lim
    congr 1
    simp only [nvB]
    rw [show b32 = 4294967296 from rfl]
    omega
  exact ⟨⟨trivial, trivial⟩, e, trivial⟩
noncomputable def natOfCon : Con T O := fun args cs => match args, cs with
  | [.raw (.int .u64 n)], [] => chk (decide (0 ≤ n ∧ n < 18446744073709551616)) (.ret ⟨some (.own 0), [(0, some (.ro 2 (lim n.toNat)))]⟩)
  | _, _ => .fail
theorem natOfOk : ConOk R Try.prog 72 natOfCon := con_of_fn R (X1) (TabOk.con R X1Ok) mixed Try.call72 Try.func72 natOfCon (by
  intro args cs K h
  unfold natOfCon at h
  split at h
  · rename_i n
    rw [Tree.holds_chk] at h
    obtain ⟨hp, h⟩ := h
    refine ⟨noAnn, _, fun v S hv => ⟨_, h, hv⟩, ?_⟩
    rw [natOfVc n]
    exact natOfHolds n (of_decide_eq_true hp)
  · exact h.elim)
noncomputable def tab2 : Tab T O := (82, cmpICon) :: (91, cmpUCon) :: (72, natOfCon) :: tab1
theorem tabOk2 : TabOk R Try.prog tab2 := TabOk.cons R cmpIOk <| TabOk.cons R cmpUOk <| TabOk.cons R natOfOk <| tabOk1
noncomputable def X2 : Ctx T O := { X0 with con := conOf tab2 }
theorem X2Ok : TabOk R X2.P tab2 := tabOk2
end Go.Proofs.Ytmnnjclnldaejaa

namespace Go.Proofs.Ytmnnjclnldaejaa
open Go.Sx Go.Proofs Classical

theorem cmpI_spec (x y : Int) : cmpI x y = if x < y then -1 else if y < x then 1 else 0 := by
  have hn : ∀ x : Int, nanI x = false := fun x => by unfold nanI; simp
  unfold cmpI
  rw [hn, hn]
  by_cases h : x < y
  · rw [decide_eq_true h, if_pos h]
  · rw [decide_eq_false h, if_neg h]
    by_cases g : x > y
    · rw [decide_eq_true g, if_pos g]
    · rw [decide_eq_false g, if_neg g]
theorem cmpU_spec (x y : Int) : cmpU x y = if x < y then -1 else if y < x then 1 else 0 := by
  have hn : ∀ x : Int, nanU x = false := fun x => by unfold nanU; simp
  unfold cmpU
  rw [hn, hn]
  by_cases h : x < y
  · rw [decide_eq_true h, if_pos h]
  · rw [decide_eq_false h, if_neg h]
    by_cases g : x > y
    · rw [decide_eq_true g, if_pos g]
    · rw [decide_eq_false g, if_neg g]
theorem cmpN_lt {a b : Nat} (h : a < b) : cmpN a b = -1 := by unfold cmpN; rw [decide_eq_true h]; rfl
theorem cmpN_eq {a : Nat} : cmpN a a = 0 := by unfold cmpN; simp
theorem cmpN_gt {a b : Nat} (h : b < a) : cmpN a b = 1 := by unfold cmpN; rw [decide_eq_false (by omega), decide_eq_false (by omega)]; rfl

/-! ### regatta/nat.Cmp -/
def natCmpText (A B : List Int) : Prop := (match ((↑A.length : Int) != (↑B.length : Int)) with | true => (((cmpN (nvB b32 A) (nvB b32 B) = cmpI (↑A.length : Int) (↑B.length : Int)) ∧ True) ∧ ((A = A) ∧ ((B = B) ∧ True))) | false => ((∃ x : Nat, (((x ≤ A.length) ∧ (List.drop (A.length - x) A = List.drop (A.length - x) B)) ∧ ((True ∧ (True ∧ (((↑A.length : Int) = (↑A.length : Int)) ∧ (((↑x : Int) = (0 : Int)) ∧ True)))) ∧ ((A = A) ∧ ((B = B) ∧ True))))) ∧ (∀ x : Nat, (((x ≤ A.length) ∧ (List.drop (A.length - x) A = List.drop (A.length - x) B)) → (match (decide ((↑x : Int) < (↑A.length : Int))) with | true => (match (inb (IntKind.i64.wrap (IntKind.i64.wrap ((↑A.length : Int) - (1 : Int)) - (↑x : Int))) A.length) with | true => (match (inb (IntKind.i64.wrap (IntKind.i64.wrap ((↑A.length : Int) - (1 : Int)) - (↑x : Int))) A.length) with | true => (match (inb (IntKind.i64.wrap (IntKind.i64.wrap ((↑A.length : Int) - (1 : Int)) - (↑x : Int))) B.length) with | true => (match (inb (IntKind.i64.wrap (IntKind.i64.wrap ((↑A.length : Int) - (1 : Int)) - (↑x : Int))) B.length) with | true => (match (at' (0 : Int) A (IntKind.i64.wrap (IntKind.i64.wrap ((↑A.length : Int) - (1 : Int)) - (↑x : Int))) != at' (0 : Int) B (IntKind.i64.wrap (IntKind.i64.wrap ((↑A.length : Int) - (1 : Int)) - (↑x : Int)))) with | true => (match (inb (IntKind.i64.wrap (IntKind.i64.wrap ((↑A.length : Int) - (1 : Int)) - (↑x : Int))) A.length) with | true => (match (inb (IntKind.i64.wrap (IntKind.i64.wrap ((↑A.length : Int) - (1 : Int)) - (↑x : Int))) A.length) with | true => (match (inb (IntKind.i64.wrap (IntKind.i64.wrap ((↑A.length : Int) - (1 : Int)) - (↑x : Int))) B.length) with | true => (match (inb (IntKind.i64.wrap (IntKind.i64.wrap ((↑A.length : Int) - (1 : Int)) - (↑x : Int))) B.length) with | true => (((cmpN (nvB b32 A) (nvB b32 B) = cmpU (at' (0 : Int) A (IntKind.i64.wrap (IntKind.i64.wrap ((↑A.length : Int) - (1 : Int)) - (↑x : Int)))) (at' (0 : Int) B (IntKind.i64.wrap (IntKind.i64.wrap ((↑A.length : Int) - (1 : Int)) - (↑x : Int))))) ∧ True) ∧ ((A = A) ∧ ((B = B) ∧ True))) | false => False) | false => False) | false => False) | false => False) | false => (∃ x' : Nat, (((x' ≤ A.length) ∧ (List.drop (A.length - x') A = List.drop (A.length - x') B)) ∧ ((A.length - x' < A.length - x) ∧ ((True ∧ (True ∧ (((↑A.length : Int) = (↑A.length : Int)) ∧ (((↑x' : Int) = IntKind.i64.wrap ((↑x : Int) + (1 : Int))) ∧ True)))) ∧ ((A = A) ∧ ((B = B) ∧ True))))))) | false => False) | false => False) | false => False) | false => False) | false => (((cmpN (nvB b32 A) (nvB b32 B) = (0 : Int)) ∧ True) ∧ ((A = A) ∧ ((B = B) ∧ True))))))))
theorem natCmpVc (A B : List Int) : fnX X2 (oneLoop 4 { σ := Nat, st := fun S x => (S.keep [0, 1, 18]).int 19 x, inv := fun _ x => x ≤ A.length ∧ A.drop (A.length - x) = B.drop (A.length - x), m := fun x => A.length - x }) Try.f70 [.own 0, .own 1] [.ro 2 A, .ro 2 B] (ends [.ro 2 A, .ro 2 B] ⟨some (.raw (.int .i64 (cmpN (nvB b32 A) (nvB b32 B)))), []⟩) = natCmpText A B := by kernel_rfl
theorem natCmpHolds (A B : List Int) (hp : isN A ∧ isN B ∧ A.length ≤ 1000 ∧ B.length ≤ 1000) : natCmpText A B := by
  unfold natCmpText
  obtain ⟨ha, hb, la, lb⟩ := hp
  by_cases hl : A.length = B.length
  · rw [show ((A.length : Int) != (B.length : Int)) = false by simp [hl]]
    refine ⟨⟨0, ⟨Nat.zero_le _, by rw [Nat.sub_zero, List.drop_of_length_le (Nat.le_refl _), List.drop_of_length_le (by omega)]⟩, by repeat' first | trivial | rfl | apply And.intro⟩, ?_⟩
    rintro x ⟨hx, hd⟩
    by_cases h : x < A.length
    · have hwx := wrap_succ h (show A.length ≤ 140737488355328 by omega)
      obtain ⟨k, hk⟩ : ∃ k, A.length - x = k + 1 := ⟨A.length - x - 1, by omega⟩
      rw [hk] at hd
      have hkA : k < A.length := by omega
      have hkB : k < B.length := by omega
      rw [dec_lt h, show IntKind.i64.wrap (IntKind.i64.wrap ((A.length : Int) - 1) - (x : Int)) = (k : Int) by rw [wrap_id (n := (A.length : Int) - 1) (by omega) (by omega), wrap_id (by omega) (by omega)]; omega, inb_nat hkA, inb_nat hkB, at_nat hkA, at_nat hkB]
      by_cases he : A[k] = B[k]
      · rw [show (A[k] != B[k]) = false by rw [he]; simp]
        refine ⟨x + 1, ⟨h, ?_⟩, by omega, ?_⟩
        · rw [show A.length - (x + 1) = k by omega, List.drop_eq_getElem_cons hkA, List.drop_eq_getElem_cons hkB, he, hd]
        · repeat' first | exact hwx.symm | trivial | rfl | apply And.intro
      · rw [show (A[k] != B[k]) = true from bne_iff_ne.2 he]
        have e : cmpN (nvB b32 A) (nvB b32 B) = cmpU A[k] B[k] := by
          rw [cmpU_spec]
          rcases Int.lt_trichotomy A[k] B[k] with g | g | g
          · have := nvB_lt_of b32_gt ha.ok hkA hkB hd g hb.ok
            rw [cmpN_lt this, if_pos g]
          · exact absurd g he
          · have := nvB_lt_of b32_gt hb.ok hkB hkA hd.symm g ha.ok
            rw [cmpN_gt this, if_neg (by omega), if_pos g]
        repeat' first | exact e | trivial | rfl | apply And.intro
    · rw [dec_ge (by omega)]
      have e : cmpN (nvB b32 A) (nvB b32 B) = 0 := by
        rw [show A.length - x = 0 by omega, List.drop_zero, List.drop_zero] at hd
        rw [hd, cmpN_eq]
      repeat' first | exact e | trivial | rfl | apply And.intro
  · rw [show ((A.length : Int) != (B.length : Int)) = true by rw [bne_iff_ne]; omega]
    have e : cmpN (nvB b32 A) (nvB b32 B) = cmpI (A.length : Int) (B.length : Int) := by
      rw [cmpI_spec]
      rcases Nat.lt_or_ge A.length B.length with g | g
      · have : nvB b32 A < nvB b32 B := nvB_len_lt b32_gt (by show (lim _).length < (lim _).length; rw [← ha, ← hb]; exact g)
        rw [cmpN_lt this, if_pos (by omega)]
      · have : nvB b32 B < nvB b32 A := nvB_len_lt b32_gt (by show (lim _).length < (lim _).length; rw [← ha, ← hb]; omega)
        rw [cmpN_gt this, if_neg (by omega), if_pos (by omega)]
    repeat' first | exact e | trivial | rfl | apply And.intro
noncomputable def natCmpBCon : Con T O := fun args cs => match args, cs with
  | [.own 0, .own 1], [.ro 2 A, .ro 2 B] => chk (decide (isN A ∧ isN B ∧ A.length ≤ 1000 ∧ B.length ≤ 1000)) (.ret ⟨some (.raw (.int .i64 (cmpN (nvB b32 A) (nvB b32 B)))), []⟩)
  | _, _ => .fail
theorem natCmpBOk : ConOk R Try.prog 70 natCmpBCon := con_of_fn R (X2) (TabOk.con R X2Ok) mixed Try.call70 Try.func70 natCmpBCon (by
  intro args cs K h
  unfold natCmpBCon at h
  split at h
  · rename_i A B
    rw [Tree.holds_chk] at h
    obtain ⟨hp, h⟩ := h
    refine ⟨oneLoop 4 { σ := Nat, st := fun S x => (S.keep [0, 1, 18]).int 19 x, inv := fun _ x => x ≤ A.length ∧ A.drop (A.length - x) = B.drop (A.length - x), m := fun x => A.length - x }, _, fun v S hv => ⟨_, h, hv⟩, ?_⟩
    rw [natCmpVc A B]
    exact natCmpHolds A B (of_decide_eq_true hp)
  · exact h.elim)
noncomputable def natCmpCon : Con T O := relax 2 natCmpBCon
theorem natCmpOk : ConOk R Try.prog 70 natCmpCon := relax_ok R 2 natCmpBOk
/-! ### regatta/nat.Add -/
def natAddText (A B : List Int) : Prop := (match (decide ((0 : Int) ≤ IntKind.i64.wrap ((if (↑B.length : Int) > (↑A.length : Int) then (↑B.length : Int) else (↑A.length : Int)) + (1 : Int))) && decide (IntKind.i64.wrap ((if (↑B.length : Int) > (↑A.length : Int) then (↑B.length : Int) else (↑A.length : Int)) + (1 : Int)) = IntKind.i64.wrap ((if (↑B.length : Int) > (↑A.length : Int) then (↑B.length : Int) else (↑A.length : Int)) + (1 : Int))) && roomy (IntKind.i64.wrap ((if (↑B.length : Int) > (↑A.length : Int) then (↑B.length : Int) else (↑A.length : Int)) + (1 : Int))).toNat (nat_lit 4)) with | true => ((∃ x : Nat, ((x.le (max A.length B.length + (1 : Nat))) ∧ ((True ∧ (True ∧ (True ∧ ((True ∧ (True ∧ True)) ∧ (((↑(List.replicate (IntKind.i64.wrap ((if (↑B.length : Int) > (↑A.length : Int) then (↑B.length : Int) else (↑A.length : Int)) + (1 : Int))).toNat (0 : Int)).length : Int) = (↑(List.replicate (IntKind.i64.wrap ((if (↑B.length : Int) > (↑A.length : Int) then (↑B.length : Int) else (↑A.length : Int)) + (1 : Int))).toNat (0 : Int)).length : Int)) ∧ (((↑x : Int) = (0 : Int)) ∧ True)))))) ∧ ((A = A) ∧ ((B = B) ∧ ((padN b32 x (max A.length B.length + (1 : Nat)) (nvB b32 A + nvB b32 B) = List.replicate (IntKind.i64.wrap ((if (↑B.length : Int) > (↑A.length : Int) then (↑B.length : Int) else (↑A.length : Int)) + (1 : Int))).toNat (0 : Int)) ∧ ((True ∧ True) ∧ ((((↑((nvB b32 (List.take x A) + nvB b32 (List.take x B)) / b32 ^ x) : Int) = (0 : Int)) ∧ True) ∧ True)))))))) ∧ (∀ x : Nat, ((x.le (max A.length B.length + (1 : Nat))) → (match (decide ((↑x : Int) < (↑(List.replicate (IntKind.i64.wrap ((if (↑B.length : Int) > (↑A.length : Int) then (↑B.length : Int) else (↑A.length : Int)) + (1 : Int))).toNat (0 : Int)).length : Int))) with | true => (match (decide ((0 : Int) ≤ (↑x : Int) ∧ OkB b32 A)) with | true => (match (decide ((0 : Int) ≤ (↑x : Int) ∧ OkB b32 B)) with | true => (match (decide ((0 : Int) ≤ (↑x : Int) ∧ (↑x : Int) < (↑(padN b32 x (max A.length B.length + (1 : Nat)) (nvB b32 A + nvB b32 B)).length : Int) ∧ (0 : Int) ≤ IntKind.u64.wrap ((↑(gd A (↑x : Int).toNat) : Int) + (↑(gd B (↑x : Int).toNat) : Int)) ∧ (0 : Int) ≤ (↑((nvB b32 (List.take x A) + nvB b32 (List.take x B)) / b32 ^ x) : Int) ∧ IntKind.u64.wrap ((↑(gd A (↑x : Int).toNat) : Int) + (↑(gd B (↑x : Int).toNat) : Int)) + (↑((nvB b32 (List.take x A) + nvB b32 (List.take x B)) / b32 ^ x) : Int) < (18446744073709551616 : Int))) with | true => (∃ x' : Nat, ((x'.le (max A.length B.length + (1 : Nat))) ∧ ((max A.length B.length + (1 : Nat) - x' < max A.length B.length + (1 : Nat) - x) ∧ ((True ∧ (True ∧ (True ∧ ((True ∧ (True ∧ True)) ∧ (((↑(List.replicate (IntKind.i64.wrap ((if (↑B.length : Int) > (↑A.length : Int) then (↑B.length : Int) else (↑A.length : Int)) + (1 : Int))).toNat (0 : Int)).length : Int) = (↑(List.replicate (IntKind.i64.wrap ((if (↑B.length : Int) > (↑A.length : Int) then (↑B.length : Int) else (↑A.length : Int)) + (1 : Int))).toNat (0 : Int)).length : Int)) ∧ (((↑x' : Int) = IntKind.i64.wrap ((↑x : Int) + (1 : Int))) ∧ True)))))) ∧ ((A = A) ∧ ((B = B) ∧ ((padN b32 x' (max A.length B.length + (1 : Nat)) (nvB b32 A + nvB b32 B) = (padN b32 x (max A.length B.length + (1 : Nat)) (nvB b32 A + nvB b32 B)).set (↑x : Int).toNat ((IntKind.u64.wrap ((↑(gd A (↑x : Int).toNat) : Int) + (↑(gd B (↑x : Int).toNat) : Int)) + (↑((nvB b32 (List.take x A) + nvB b32 (List.take x B)) / b32 ^ x) : Int)) % (4294967296 : Int))) ∧ ((True ∧ True) ∧ ((((↑((nvB b32 (List.take x' A) + nvB b32 (List.take x' B)) / b32 ^ x') : Int) = (IntKind.u64.wrap ((↑(gd A (↑x : Int).toNat) : Int) + (↑(gd B (↑x : Int).toNat) : Int)) + (↑((nvB b32 (List.take x A) + nvB b32 (List.take x B)) / b32 ^ x) : Int)) / (4294967296 : Int)) ∧ True) ∧ True))))))))) | false => False) | false => False) | false => False) | false => (match (decide ((padN b32 x (max A.length B.length + (1 : Nat)) (nvB b32 A + nvB b32 B)).length ≤ (3000 : Nat))) with | true => ((True ∧ True) ∧ ((A = A) ∧ ((B = B) ∧ ((lim (nvB b32 A + nvB b32 B) = cutD (padN b32 x (max A.length B.length + (1 : Nat)) (nvB b32 A + nvB b32 B))) ∧ True)))) | false => False))))) | false => False)
theorem natAddVc (A B : List Int) : fnX X2 (oneLoop 4 { σ := Nat, st := fun S x => atCap (((S.keep [0, 1, 5, 6, 18]).int 19 x).at' 5 (.vec 2 (padN b32 x (max A.length B.length + 1) (nvB b32 A + nvB b32 B)) 104)) 6 0 (.cells [.raw (.int .u64 (((nvB b32 (A.take x) + nvB b32 (B.take x)) / b32 ^ x : Nat) : Int))] 73), inv := fun _ x => x ≤ max A.length B.length + 1, m := fun x => max A.length B.length + 1 - x }) Try.f104 [.own 0, .own 1] [.ro 2 A, .ro 2 B] (ends [.ro 2 A, .ro 2 B] ⟨some (.own 2), [(2, some (.ro 2 (lim (nvB b32 A + nvB b32 B))))]⟩) = natAddText A B := by kernel_rfl
theorem natAddHolds (A B : List Int) (hp : isN A ∧ isN B ∧ A.length ≤ 1000 ∧ B.length ≤ 1000) : natAddText A B := by
  unfold natAddText
  obtain ⟨ha, hb, la, lb⟩ := hp
  have hw : IntKind.i64.wrap ((if (B.length : Int) > (A.length : Int) then (B.length : Int) else (A.length : Int)) + 1) = ((max A.length B.length + 1 : Nat) : Int) := by
    split <;> (rw [wrap_id (by omega) (by omega)]; omega)
  have hS : nvB b32 A + nvB b32 B < b32 ^ (max A.length B.length + 1) := by
    have h1 := Nat.lt_of_lt_of_le (nv_lt ha) (Nat.pow_le_pow_right (show 0 < b32 by decide) (Nat.le_max_left A.length B.length))
    have h2 := Nat.lt_of_lt_of_le (nv_lt hb) (Nat.pow_le_pow_right (show 0 < b32 by decide) (Nat.le_max_right A.length B.length))
    rw [Nat.pow_succ]
    have : b32 ^ max A.length B.length * 2 ≤ b32 ^ max A.length B.length * b32 := Nat.mul_le_mul_left _ (by decide)
    omega
  have hN : max A.length B.length + 1 ≤ 1001 := by omega
  rw [hw, Int.toNat_natCast, List.length_replicate]
  generalize max A.length B.length + 1 = N at hN hS ⊢
  rw [show (decide (0 ≤ (N : Int)) && decide ((N : Int) = (N : Int)) && roomy N 4) = true by simp [roomy]; omega]
  have e0 : (((nvB b32 (A.take 0) + nvB b32 (B.take 0)) / b32 ^ 0 : Nat) : Int) = 0 := by simp [nvB]
  refine ⟨⟨0, Nat.zero_le _, by repeat' first | exact e0 | trivial | rfl | apply And.intro⟩, ?_⟩
  intro x hx
  have hx : x ≤ N := hx
  rw [Int.toNat_natCast, padN_length hx]
  by_cases h : x < N
  · have hwx := wrap_succ h (show N ≤ 140737488355328 by omega)
    obtain ⟨c1, c2⟩ := carry_step (k := x) b32_gt (nvB b32 (A.take x)) (gd A x) (nvB b32 (A.drop (x + 1))) (nvB b32 (B.take x)) (gd B x) (nvB b32 (B.drop (x + 1)))
    rw [← nvB_at, ← nvB_at] at c1
    rw [← nvB_take_succ, ← nvB_take_succ] at c2
    have g1 : gd A x < 4294967296 := gd_ok (by decide) ha.ok x
    have g2 : gd B x < 4294967296 := gd_ok (by decide) hb.ok x
    have g3 : (nvB b32 (A.take x) + nvB b32 (B.take x)) / b32 ^ x < 2 := by
      rw [Nat.div_lt_iff_lt_mul (Nat.pow_pos (by decide))]
      have h1 := nvB_take_lt b32_gt ha.ok x
      have h2 := nvB_take_lt b32_gt hb.ok x
      omega
    generalize (nvB b32 (A.take x) + nvB b32 (B.take x)) / b32 ^ x = c at c1 c2 g3 ⊢
    rw [dec_lt h, decide_eq_true (⟨by omega, ha.ok⟩ : 0 ≤ (x : Int) ∧ OkB b32 A), decide_eq_true (⟨by omega, hb.ok⟩ : 0 ≤ (x : Int) ∧ OkB b32 B), u64_id (n := ((gd A x : Nat) : Int) + ((gd B x : Nat) : Int)) (by omega) (by omega)]
    rw [decide_eq_true (show 0 ≤ (x : Int) ∧ (x : Int) < (N : Int) ∧ 0 ≤ ((gd A x : Nat) : Int) + ((gd B x : Nat) : Int) ∧ 0 ≤ (c : Int) ∧ ((gd A x : Nat) : Int) + ((gd B x : Nat) : Int) + (c : Int) < 18446744073709551616 by omega)]
    have e1 : padN b32 (x + 1) N (nvB b32 A + nvB b32 B) = (padN b32 x N (nvB b32 A + nvB b32 B)).set x ((((gd A x : Nat) : Int) + ((gd B x : Nat) : Int) + (c : Int)) % 4294967296) := by
      rw [← padN_set h, c1]
      congr 1
    have e2 : (((nvB b32 (A.take (x + 1)) + nvB b32 (B.take (x + 1))) / b32 ^ (x + 1) : Nat) : Int) = (((gd A x : Nat) : Int) + ((gd B x : Nat) : Int) + (c : Int)) / 4294967296 := by
      rw [c2]
      show ((_ / 4294967296 : Nat) : Int) = _
      omega
    refine ⟨x + 1, h, by omega, ?_⟩
    repeat' first | exact hwx.symm | exact e1 | exact e2 | trivial | rfl | apply And.intro
  · obtain rfl : x = N := by omega
    rw [dec_ge (Nat.le_refl _), decide_eq_true (show x ≤ 3000 by omega), padN_all]
    have e : lim (nvB b32 A + nvB b32 B) = cutD (digN b32 x (nvB b32 A + nvB b32 B)) := (cutD_digN b32_gt hS).symm
    repeat' first | exact e | trivial | rfl | apply And.intro
noncomputable def natAddBCon : Con T O := fun args cs => match args, cs with
  | [.own 0, .own 1], [.ro 2 A, .ro 2 B] => chk (decide (isN A ∧ isN B ∧ A.length ≤ 1000 ∧ B.length ≤ 1000)) (.ret ⟨some (.own 2), [(2, some (.ro 2 (lim (nvB b32 A + nvB b32 B))))]⟩)
  | _, _ => .fail
theorem natAddBOk : ConOk R Try.prog 104 natAddBCon := con_of_fn R (X2) (TabOk.con R X2Ok) mixed Try.call104 Try.func104 natAddBCon (by
  intro args cs K h
  unfold natAddBCon at h
  split at h
  · rename_i A B
    rw [Tree.holds_chk] at h
    obtain ⟨hp, h⟩ := h
    refine ⟨oneLoop 4 { σ := Nat, st := fun S x => atCap (((S.keep [0, 1, 5, 6, 18]).int 19 x).at' 5 (.vec 2 (padN b32 x (max A.length B.length + 1) (nvB b32 A + nvB b32 B)) 104)) 6 0 (.cells [.raw (.int .u64 (((nvB b32 (A.take x) + nvB b32 (B.take x)) / b32 ^ x : Nat) : Int))] 73), inv := fun _ x => x ≤ max A.length B.length + 1, m := fun x => max A.length B.length + 1 - x }, _, fun v S hv => ⟨_, h, hv⟩, ?_⟩
    rw [natAddVc A B]
    exact natAddHolds A B (of_decide_eq_true hp)
  · exact h.elim)
noncomputable def natAddCon : Con T O := relax 2 natAddBCon
theorem natAddOk : ConOk R Try.prog 104 natAddCon := relax_ok R 2 natAddBOk
/-! ### regatta/nat.Mul -/
def natMulText (A B : List Int) : Prop := (match (decide ((0 : Int) ≤ IntKind.i64.wrap (IntKind.i64.wrap ((↑A.length : Int) + (↑B.length : Int)) + (1 : Int))) && decide (IntKind.i64.wrap (IntKind.i64.wrap ((↑A.length : Int) + (↑B.length : Int)) + (1 : Int)) = IntKind.i64.wrap (IntKind.i64.wrap ((↑A.length : Int) + (↑B.length : Int)) + (1 : Int))) && roomy (IntKind.i64.wrap (IntKind.i64.wrap ((↑A.length : Int) + (↑B.length : Int)) + (1 : Int))).toNat (nat_lit 4)) with | true => ((∃ x : Nat, ((x.le A.length) ∧ ((True ∧ (True ∧ (True ∧ (True ∧ (((↑A.length : Int) = (↑A.length : Int)) ∧ (((↑x : Int) = (0 : Int)) ∧ True)))))) ∧ ((A = A) ∧ ((B = B) ∧ ((digN b32 (A.length + B.length + (1 : Nat)) (nvB b32 (List.take x A) * nvB b32 B) = List.replicate (IntKind.i64.wrap (IntKind.i64.wrap ((↑A.length : Int) + (↑B.length : Int)) + (1 : Int))).toNat (0 : Int)) ∧ True)))))) ∧ (∀ x : Nat, ((x.le A.length) → (match (decide ((↑x : Int) < (↑A.length : Int))) with | true => (match (inb (↑x : Int) A.length) with | true => (match (inb (↑x : Int) A.length) with | true => (match (slOk (some (↑x : Int)) none none (↑(digN b32 (A.length + B.length + (1 : Nat)) (nvB b32 (List.take x A) * nvB b32 B)).length : Int)) with | true => ((∃ x1 : Nat, ((((↑x : Int).toNat + x1).le (A.length + B.length + (1 : Nat))) ∧ ((True ∧ (True ∧ (True ∧ (((↑x : Int) = (↑x : Int)) ∧ ((at' (0 : Int) A (↑x : Int) = at' (0 : Int) A (↑x : Int)) ∧ ((True ∧ (True ∧ True)) ∧ (True ∧ (((↑A.length : Int) = (↑A.length : Int)) ∧ (((↑x : Int) = (↑x : Int)) ∧ ((IntKind.i64.wrap ((↑(digN b32 (A.length + B.length + (1 : Nat)) (nvB b32 (List.take x A) * nvB b32 B)).length : Int) - (↑x : Int)) = IntKind.i64.wrap ((↑(digN b32 (A.length + B.length + (1 : Nat)) (nvB b32 (List.take x A) * nvB b32 B)).length : Int) - (↑x : Int))) ∧ (((↑x1 : Int) = (0 : Int)) ∧ True))))))))))) ∧ ((A = A) ∧ ((B = B) ∧ ((mixN b32 ((↑x : Int).toNat + x1) (A.length + B.length + (1 : Nat)) (nvB b32 (List.take (↑x : Int).toNat A) * nvB b32 B + b32 ^ (↑x : Int).toNat * (Int.toNat (at' (0 : Int) A (↑x : Int)) * nvB b32 B)) (nvB b32 (List.take (↑x : Int).toNat A) * nvB b32 B) = digN b32 (A.length + B.length + (1 : Nat)) (nvB b32 (List.take x A) * nvB b32 B)) ∧ ((((optB (some (↑x : Int)) (0 : Int) = optB (some (↑x : Int)) (0 : Int)) ∧ ((↑(digN b32 (A.length + B.length + (1 : Nat)) (nvB b32 (List.take x A) * nvB b32 B)).length : Int) - optB (some (↑x : Int)) (0 : Int) = (↑(digN b32 (A.length + B.length + (1 : Nat)) (nvB b32 (List.take x A) * nvB b32 B)).length : Int) - optB (some (↑x : Int)) (0 : Int))) ∧ True) ∧ ((((↑(mulC b32 (↑x : Int).toNat x1 (nvB b32 (List.take (↑x : Int).toNat A) * nvB b32 B) (Int.toNat (at' (0 : Int) A (↑x : Int))) B) : Int) = (0 : Int)) ∧ True) ∧ True)))))))) ∧ (∀ x1 : Nat, ((((↑x : Int).toNat + x1).le (A.length + B.length + (1 : Nat))) → (match (decide ((↑x1 : Int) < IntKind.i64.wrap ((↑(digN b32 (A.length + B.length + (1 : Nat)) (nvB b32 (List.take x A) * nvB b32 B)).length : Int) - (↑x : Int)))) with | true => (match (decide ((0 : Int) ≤ (↑x1 : Int) ∧ OkB b32 B)) with | true => (match (inb (IntKind.i64.wrap ((↑x : Int) + (↑x1 : Int))) (mixN b32 ((↑x : Int).toNat + x1) (A.length + B.length + (1 : Nat)) (nvB b32 (List.take (↑x : Int).toNat A) * nvB b32 B + b32 ^ (↑x : Int).toNat * (Int.toNat (at' (0 : Int) A (↑x : Int)) * nvB b32 B)) (nvB b32 (List.take (↑x : Int).toNat A) * nvB b32 B)).length) with | true => (match (inb (IntKind.i64.wrap ((↑x : Int) + (↑x1 : Int))) (mixN b32 ((↑x : Int).toNat + x1) (A.length + B.length + (1 : Nat)) (nvB b32 (List.take (↑x : Int).toNat A) * nvB b32 B + b32 ^ (↑x : Int).toNat * (Int.toNat (at' (0 : Int) A (↑x : Int)) * nvB b32 B)) (nvB b32 (List.take (↑x : Int).toNat A) * nvB b32 B)).length) with | true => (match (decide ((0 : Int) ≤ (↑x1 : Int) ∧ (↑x1 : Int) < (↑(digN b32 (A.length + B.length + (1 : Nat)) (nvB b32 (List.take x A) * nvB b32 B)).length : Int) - optB (some (↑x : Int)) (0 : Int) ∧ (0 : Int) ≤ optB (some (↑x : Int)) (0 : Int) ∧ optB (some (↑x : Int)) (0 : Int) + ((↑(digN b32 (A.length + B.length + (1 : Nat)) (nvB b32 (List.take x A) * nvB b32 B)).length : Int) - optB (some (↑x : Int)) (0 : Int)) ≤ (↑(mixN b32 ((↑x : Int).toNat + x1) (A.length + B.length + (1 : Nat)) (nvB b32 (List.take (↑x : Int).toNat A) * nvB b32 B + b32 ^ (↑x : Int).toNat * (Int.toNat (at' (0 : Int) A (↑x : Int)) * nvB b32 B)) (nvB b32 (List.take (↑x : Int).toNat A) * nvB b32 B)).length : Int) ∧ (0 : Int) ≤ IntKind.u64.wrap (IntKind.u64.wrap (IntKind.u64.wrap (at' (0 : Int) A (↑x : Int)) * (↑(gd B (↑x1 : Int).toNat) : Int)) + IntKind.u64.wrap (at' (0 : Int) (mixN b32 ((↑x : Int).toNat + x1) (A.length + B.length + (1 : Nat)) (nvB b32 (List.take (↑x : Int).toNat A) * nvB b32 B + b32 ^ (↑x : Int).toNat * (Int.toNat (at' (0 : Int) A (↑x : Int)) * nvB b32 B)) (nvB b32 (List.take (↑x : Int).toNat A) * nvB b32 B)) (IntKind.i64.wrap ((↑x : Int) + (↑x1 : Int))))) ∧ (0 : Int) ≤ (↑(mulC b32 (↑x : Int).toNat x1 (nvB b32 (List.take (↑x : Int).toNat A) * nvB b32 B) (Int.toNat (at' (0 : Int) A (↑x : Int))) B) : Int) ∧ IntKind.u64.wrap (IntKind.u64.wrap (IntKind.u64.wrap (at' (0 : Int) A (↑x : Int)) * (↑(gd B (↑x1 : Int).toNat) : Int)) + IntKind.u64.wrap (at' (0 : Int) (mixN b32 ((↑x : Int).toNat + x1) (A.length + B.length + (1 : Nat)) (nvB b32 (List.take (↑x : Int).toNat A) * nvB b32 B + b32 ^ (↑x : Int).toNat * (Int.toNat (at' (0 : Int) A (↑x : Int)) * nvB b32 B)) (nvB b32 (List.take (↑x : Int).toNat A) * nvB b32 B)) (IntKind.i64.wrap ((↑x : Int) + (↑x1 : Int))))) + (↑(mulC b32 (↑x : Int).toNat x1 (nvB b32 (List.take (↑x : Int).toNat A) * nvB b32 B) (Int.toNat (at' (0 : Int) A (↑x : Int))) B) : Int) < (18446744073709551616 : Int))) with | true => (∃ x' : Nat, ((((↑x : Int).toNat + x').le (A.length + B.length + (1 : Nat))) ∧ ((A.length + B.length + (1 : Nat) - x' < A.length + B.length + (1 : Nat) - x1) ∧ ((True ∧ (True ∧ (True ∧ (((↑x : Int) = (↑x : Int)) ∧ ((at' (0 : Int) A (↑x : Int) = at' (0 : Int) A (↑x : Int)) ∧ ((True ∧ (True ∧ True)) ∧ (True ∧ (((↑A.length : Int) = (↑A.length : Int)) ∧ (((↑x : Int) = (↑x : Int)) ∧ ((IntKind.i64.wrap ((↑(digN b32 (A.length + B.length + (1 : Nat)) (nvB b32 (List.take x A) * nvB b32 B)).length : Int) - (↑x : Int)) = IntKind.i64.wrap ((↑(digN b32 (A.length + B.length + (1 : Nat)) (nvB b32 (List.take x A) * nvB b32 B)).length : Int) - (↑x : Int))) ∧ (((↑x' : Int) = IntKind.i64.wrap ((↑x1 : Int) + (1 : Int))) ∧ True))))))))))) ∧ ((A = A) ∧ ((B = B) ∧ ((mixN b32 ((↑x : Int).toNat + x') (A.length + B.length + (1 : Nat)) (nvB b32 (List.take (↑x : Int).toNat A) * nvB b32 B + b32 ^ (↑x : Int).toNat * (Int.toNat (at' (0 : Int) A (↑x : Int)) * nvB b32 B)) (nvB b32 (List.take (↑x : Int).toNat A) * nvB b32 B) = (mixN b32 ((↑x : Int).toNat + x1) (A.length + B.length + (1 : Nat)) (nvB b32 (List.take (↑x : Int).toNat A) * nvB b32 B + b32 ^ (↑x : Int).toNat * (Int.toNat (at' (0 : Int) A (↑x : Int)) * nvB b32 B)) (nvB b32 (List.take (↑x : Int).toNat A) * nvB b32 B)).set (optB (some (↑x : Int)) (0 : Int) + (↑x1 : Int)).toNat ((IntKind.u64.wrap (IntKind.u64.wrap (IntKind.u64.wrap (at' (0 : Int) A (↑x : Int)) * (↑(gd B (↑x1 : Int).toNat) : Int)) + IntKind.u64.wrap (at' (0 : Int) (mixN b32 ((↑x : Int).toNat + x1) (A.length + B.length + (1 : Nat)) (nvB b32 (List.take (↑x : Int).toNat A) * nvB b32 B + b32 ^ (↑x : Int).toNat * (Int.toNat (at' (0 : Int) A (↑x : Int)) * nvB b32 B)) (nvB b32 (List.take (↑x : Int).toNat A) * nvB b32 B)) (IntKind.i64.wrap ((↑x : Int) + (↑x1 : Int))))) + (↑(mulC b32 (↑x : Int).toNat x1 (nvB b32 (List.take (↑x : Int).toNat A) * nvB b32 B) (Int.toNat (at' (0 : Int) A (↑x : Int))) B) : Int)) % (4294967296 : Int))) ∧ ((((optB (some (↑x : Int)) (0 : Int) = optB (some (↑x : Int)) (0 : Int)) ∧ ((↑(digN b32 (A.length + B.length + (1 : Nat)) (nvB b32 (List.take x A) * nvB b32 B)).length : Int) - optB (some (↑x : Int)) (0 : Int) = (↑(digN b32 (A.length + B.length + (1 : Nat)) (nvB b32 (List.take x A) * nvB b32 B)).length : Int) - optB (some (↑x : Int)) (0 : Int))) ∧ True) ∧ ((((↑(mulC b32 (↑x : Int).toNat x' (nvB b32 (List.take (↑x : Int).toNat A) * nvB b32 B) (Int.toNat (at' (0 : Int) A (↑x : Int))) B) : Int) = (IntKind.u64.wrap (IntKind.u64.wrap (IntKind.u64.wrap (at' (0 : Int) A (↑x : Int)) * (↑(gd B (↑x1 : Int).toNat) : Int)) + IntKind.u64.wrap (at' (0 : Int) (mixN b32 ((↑x : Int).toNat + x1) (A.length + B.length + (1 : Nat)) (nvB b32 (List.take (↑x : Int).toNat A) * nvB b32 B + b32 ^ (↑x : Int).toNat * (Int.toNat (at' (0 : Int) A (↑x : Int)) * nvB b32 B)) (nvB b32 (List.take (↑x : Int).toNat A) * nvB b32 B)) (IntKind.i64.wrap ((↑x : Int) + (↑x1 : Int))))) + (↑(mulC b32 (↑x : Int).toNat x1 (nvB b32 (List.take (↑x : Int).toNat A) * nvB b32 B) (Int.toNat (at' (0 : Int) A (↑x : Int))) B) : Int)) / (4294967296 : Int)) ∧ True) ∧ True))))))))) | false => False) | false => False) | false => False) | false => False) | false => (∃ x' : Nat, ((x'.le A.length) ∧ ((A.length - x' < A.length - x) ∧ ((True ∧ (True ∧ (True ∧ (True ∧ (((↑A.length : Int) = (↑A.length : Int)) ∧ (((↑x' : Int) = IntKind.i64.wrap ((↑x : Int) + (1 : Int))) ∧ True)))))) ∧ ((A = A) ∧ ((B = B) ∧ ((digN b32 (A.length + B.length + (1 : Nat)) (nvB b32 (List.take x' A) * nvB b32 B) = mixN b32 ((↑x : Int).toNat + x1) (A.length + B.length + (1 : Nat)) (nvB b32 (List.take (↑x : Int).toNat A) * nvB b32 B + b32 ^ (↑x : Int).toNat * (Int.toNat (at' (0 : Int) A (↑x : Int)) * nvB b32 B)) (nvB b32 (List.take (↑x : Int).toNat A) * nvB b32 B)) ∧ True))))))))))) | false => False) | false => False) | false => False) | false => (match (decide ((digN b32 (A.length + B.length + (1 : Nat)) (nvB b32 (List.take x A) * nvB b32 B)).length ≤ (3000 : Nat))) with | true => ((True ∧ True) ∧ ((A = A) ∧ ((B = B) ∧ ((lim (nvB b32 A * nvB b32 B) = cutD (digN b32 (A.length + B.length + (1 : Nat)) (nvB b32 (List.take x A) * nvB b32 B))) ∧ True)))) | false => False))))) | false => False)
theorem natMulVc (A B : List Int) : fnX { X2 with vw := true } (annOf [(3, { σ := Nat, st := fun S x => ((S.keep [0, 1, 5, 17, 18]).int 19 x).at' 5 (.vec 2 (digN b32 (A.length + B.length + 1) (nvB b32 (A.take x) * nvB b32 B)) 104), inv := fun _ x => x ≤ A.length, m := fun x => A.length - x }), (7, { σ := Nat, st := fun S x => atCap (((S.keep [0, 1, 5, 6, 7, 8, 17, 18, 19, 31]).int 32 x).at' 5 (.vec 2 (mixN b32 ((S.gi 6).toNat + x) (A.length + B.length + 1) (nvB b32 (A.take (S.gi 6).toNat) * nvB b32 B + b32 ^ (S.gi 6).toNat * ((S.gi 7).toNat * nvB b32 B)) (nvB b32 (A.take (S.gi 6).toNat) * nvB b32 B)) 104)) 8 0 (.cells [.raw (.int .u64 ((mulC b32 (S.gi 6).toNat x (nvB b32 (A.take (S.gi 6).toNat) * nvB b32 B) (S.gi 7).toNat B : Nat) : Int))] 73), inv := fun S x => (S.gi 6).toNat + x ≤ A.length + B.length + 1, m := fun x => A.length + B.length + 1 - x })] []) Try.f71 [.own 0, .own 1] [.ro 2 A, .ro 2 B] (ends [.ro 2 A, .ro 2 B] ⟨some (.own 2), [(2, some (.ro 2 (lim (nvB b32 A * nvB b32 B))))]⟩) = natMulText A B := by kernel_rfl
theorem natMulHolds (A B : List Int) (hp : isN A ∧ isN B ∧ A.length ≤ 1000 ∧ B.length ≤ 1000) : natMulText A B := by
  unfold natMulText
  obtain ⟨ha, hb, la, lb⟩ := hp
  have hw : IntKind.i64.wrap (IntKind.i64.wrap ((A.length : Int) + (B.length : Int)) + 1) = ((A.length + B.length + 1 : Nat) : Int) := by
    rw [wrap_id (n := (A.length : Int) + (B.length : Int)) (by omega) (by omega), wrap_id (by omega) (by omega)]; omega
  have hV : nvB b32 A * nvB b32 B < b32 ^ (A.length + B.length + 1) := by
    have h1 : nvB b32 A * nvB b32 B ≤ b32 ^ A.length * b32 ^ B.length := Nat.mul_le_mul (Nat.le_of_lt (nv_lt ha)) (Nat.le_of_lt (nv_lt hb))
    rw [← Nat.pow_add] at h1
    exact Nat.lt_of_le_of_lt h1 (Nat.pow_lt_pow_right (by decide) (by omega))
  have hN : A.length + B.length + 1 ≤ 2001 := by omega
  have hNA : A.length < A.length + B.length + 1 := by omega
  rw [hw]
  generalize A.length + B.length + 1 = N at hN hV hNA ⊢
  rw [Int.toNat_natCast, show (decide (0 ≤ (N : Int)) && decide ((N : Int) = (N : Int)) && roomy N 4) = true by simp [roomy]; omega]
  have e0 : digN b32 N (nvB b32 (A.take 0) * nvB b32 B) = List.replicate N 0 := by rw [List.take_zero, show nvB b32 [] = 0 from rfl, Nat.zero_mul, digN_zero]
  refine ⟨⟨0, Nat.zero_le _, by repeat' first | exact e0 | trivial | rfl | apply And.intro⟩, ?_⟩
  intro i hi
  have hi : i ≤ A.length := hi
  by_cases h : i < A.length
  · have hwi := wrap_succ h (show A.length ≤ 140737488355328 by omega)
    have hAi : 0 ≤ A[i] ∧ A[i] < 4294967296 := ha.ok _ (List.getElem_mem h)
    obtain ⟨d, hd⟩ : ∃ d : Nat, A[i] = (d : Int) := ⟨A[i].toNat, by omega⟩
    have hV2 : nvB b32 (A.take (i + 1)) * nvB b32 B = nvB b32 (A.take i) * nvB b32 B + b32 ^ i * (d * nvB b32 B) := by
      rw [nvB_take_succ, gd_lt h, hd, Int.toNat_natCast, Nat.add_mul, Nat.mul_assoc]
    rw [dec_lt h, inb_nat h, digN_length, slOk_from (show i ≤ N by omega), Int.toNat_natCast, at_nat h, hd, Int.toNat_natCast, show IntKind.i64.wrap ((N : Int) - (i : Int)) = ((N - i : Nat) : Int) by rw [wrap_id (by omega) (by omega)]; omega, show optB (some (i : Int)) 0 = (i : Int) from rfl]
    generalize nvB b32 (A.take i) * nvB b32 B = V at hV2 ⊢
    refine ⟨⟨0, by show i + 0 ≤ N; omega, ?_⟩, ?_⟩
    · have e1 : mixN b32 (i + 0) N (V + b32 ^ i * (d * nvB b32 B)) V = digN b32 N V := mixN_none fun k hk => dig_add b32_gt hk
      have e2 : ((mulC b32 i 0 V d B : Nat) : Int) = 0 := by rw [mulC_zero]; rfl
      repeat' first | exact e1 | exact e2 | trivial | rfl | apply And.intro
    intro k hk
    have hk : i + k ≤ N := hk
    rw [Int.toNat_natCast, mixN_length]
    by_cases g : k < N - i
    · have hwk : ((k + 1 : Nat) : Int) = IntKind.i64.wrap ((k : Int) + 1) := by rw [wrap_id (by omega) (by omega)]; omega
      obtain ⟨m1, m2⟩ := mul_step (i := i) (k := k) (v := V) (x := d) b32_gt B
      have g1 : gd B k < 4294967296 := gd_ok (by decide) hb.ok k
      have g2 : dig b32 (i + k) V < 4294967296 := dig_lt (by decide)
      have g3 : mulC b32 i k V d B < 4294967296 := mulC_lt b32_gt hb.ok (by omega : d < 4294967296)
      have g4 : d * gd B k ≤ 4294967295 * 4294967295 := Nat.mul_le_mul (by omega) (by omega)
      rw [dec_lt g, decide_eq_true (⟨by omega, hb.ok⟩ : 0 ≤ (k : Int) ∧ OkB b32 B), show IntKind.i64.wrap ((i : Int) + (k : Int)) = ((i + k : Nat) : Int) by rw [wrap_id (by omega) (by omega)]; omega, inb_nat (show i + k < N by omega), mixN_at (by omega) (i + k) (Nat.le_refl _) (by omega)]
      rw [u64_id (n := (d : Int)) (by omega) (by omega), ← Int.natCast_mul]
      generalize gd B k = bk at g1 g4 m1 m2 ⊢
      generalize d * bk = p at g4 m1 m2 ⊢
      generalize dig b32 (i + k) V = q at g2 m1 m2 ⊢
      generalize mulC b32 i k V d B = c at g3 m1 m2 ⊢
      rw [u64_id (n := (p : Int)) (by omega) (by omega), u64_id (n := (q : Int)) (by omega) (by omega), u64_id (n := (p : Int) + (q : Int)) (by omega) (by omega), decide_eq_true (show 0 ≤ (k : Int) ∧ (k : Int) < (N : Int) - (i : Int) ∧ 0 ≤ (i : Int) ∧ (i : Int) + ((N : Int) - (i : Int)) ≤ (N : Int) ∧ 0 ≤ (p : Int) + (q : Int) ∧ 0 ≤ (c : Int) ∧ (p : Int) + (q : Int) + (c : Int) < 18446744073709551616 by omega), show ((i : Int) + (k : Int)).toNat = i + k by omega]
      have e1 : mixN b32 (i + (k + 1)) N (V + b32 ^ i * (d * nvB b32 B)) V = (mixN b32 (i + k) N (V + b32 ^ i * (d * nvB b32 B)) V).set (i + k) (((p : Int) + (q : Int) + (c : Int)) % 4294967296) := by
        rw [← Nat.add_assoc, ← mixN_set (show i + k < N by omega), m1]
        congr 1
      have e2 : ((mulC b32 i (k + 1) V d B : Nat) : Int) = ((p : Int) + (q : Int) + (c : Int)) / 4294967296 := by rw [m2]; show ((_ / 4294967296 : Nat) : Int) = _; omega
      refine ⟨k + 1, by show i + (k + 1) ≤ N; omega, by omega, ?_⟩
      repeat' first | exact hwk | exact e1 | exact e2 | trivial | rfl | apply And.intro
    · rw [dec_ge (by omega)]
      have e : digN b32 N (nvB b32 (A.take (i + 1)) * nvB b32 B) = mixN b32 (i + k) N (V + b32 ^ i * (d * nvB b32 B)) V := by rw [hV2, mixN_all (by omega)]
      refine ⟨i + 1, h, by omega, ?_⟩
      repeat' first | exact hwi.symm | exact e | trivial | rfl | apply And.intro
  · obtain rfl : i = A.length := by omega
    rw [dec_ge (Nat.le_refl _), digN_length, decide_eq_true (show N ≤ 3000 by omega), List.take_length]
    have e : lim (nvB b32 A * nvB b32 B) = cutD (digN b32 N (nvB b32 A * nvB b32 B)) := (cutD_digN b32_gt hV).symm
    repeat' first | exact e | trivial | rfl | apply And.intro
noncomputable def natMulBCon : Con T O := fun args cs => match args, cs with
  | [.own 0, .own 1], [.ro 2 A, .ro 2 B] => chk (decide (isN A ∧ isN B ∧ A.length ≤ 1000 ∧ B.length ≤ 1000)) (.ret ⟨some (.own 2), [(2, some (.ro 2 (lim (nvB b32 A * nvB b32 B))))]⟩)
  | _, _ => .fail
theorem natMulBOk : ConOk R Try.prog 71 natMulBCon := con_of_fn R ({ X2 with vw := true }) (TabOk.con R X2Ok) mixed Try.call71 Try.func71 natMulBCon (by
  intro args cs K h
  unfold natMulBCon at h
  split at h
  · rename_i A B
    rw [Tree.holds_chk] at h
    obtain ⟨hp, h⟩ := h
    refine ⟨annOf [(3, { σ := Nat, st := fun S x => ((S.keep [0, 1, 5, 17, 18]).int 19 x).at' 5 (.vec 2 (digN b32 (A.length + B.length + 1) (nvB b32 (A.take x) * nvB b32 B)) 104), inv := fun _ x => x ≤ A.length, m := fun x => A.length - x }), (7, { σ := Nat, st := fun S x => atCap (((S.keep [0, 1, 5, 6, 7, 8, 17, 18, 19, 31]).int 32 x).at' 5 (.vec 2 (mixN b32 ((S.gi 6).toNat + x) (A.length + B.length + 1) (nvB b32 (A.take (S.gi 6).toNat) * nvB b32 B + b32 ^ (S.gi 6).toNat * ((S.gi 7).toNat * nvB b32 B)) (nvB b32 (A.take (S.gi 6).toNat) * nvB b32 B)) 104)) 8 0 (.cells [.raw (.int .u64 ((mulC b32 (S.gi 6).toNat x (nvB b32 (A.take (S.gi 6).toNat) * nvB b32 B) (S.gi 7).toNat B : Nat) : Int))] 73), inv := fun S x => (S.gi 6).toNat + x ≤ A.length + B.length + 1, m := fun x => A.length + B.length + 1 - x })] [], _, fun v S hv => ⟨_, h, hv⟩, ?_⟩
    rw [natMulVc A B]
    exact natMulHolds A B (of_decide_eq_true hp)
  · exact h.elim)
noncomputable def natMulCon : Con T O := relax 2 natMulBCon
theorem natMulOk : ConOk R Try.prog 71 natMulCon := relax_ok R 2 natMulBOk
noncomputable def tab3 : Tab T O := (70, natCmpCon) :: (104, natAddCon) :: (71, natMulCon) :: tab2
theorem tabOk3 : TabOk R Try.prog tab3 := TabOk.cons R natCmpOk <| TabOk.cons R natAddOk <| TabOk.cons R natMulOk <| tabOk2
noncomputable def X3 : Ctx T O := { X0 with con := conOf tab3 }
theorem X3Ok : TabOk R X3.P tab3 := tabOk3
end Go.Proofs.Ytmnnjclnldaejaa

namespace Go.Proofs.Ytmnnjclnldaejaa
open Go.Sx Go.Proofs Classical

theorem sub64 {a b w w' : Nat} (ha : a < 4294967296) (hb : b < 4294967296) (hw : w ≤ 1) (hw' : w' = if a < b + w then 1 else 0) :
    IntKind.u32.wrap (IntKind.u64.wrap (IntKind.u64.wrap ((a : Int) - (b : Int)) - (w : Int))) = ((a + 4294967296 * w' - b - w : Nat) : Int) ∧ (IntKind.u64.wrap (IntKind.u64.wrap ((a : Int) - (b : Int)) - (w : Int))).fdiv ((2 : Int) ^ min (Int.toNat (63 : Int)) IntKind.u64.bits) = (w' : Int) := by
  have e : IntKind.u64.wrap (IntKind.u64.wrap ((a : Int) - (b : Int)) - (w : Int)) = ((a : Int) - (b : Int) - (w : Int)) % 18446744073709551616 := by
    show (((a : Int) - (b : Int)) % 18446744073709551616 - (w : Int)) % 18446744073709551616 = _
    omega
  rw [e, u32_mod]
  have e2 : ∀ n : Int, n.fdiv ((2 : Int) ^ min (Int.toNat (63 : Int)) IntKind.u64.bits) = n / 9223372036854775808 := fun n => by
    show n.fdiv 9223372036854775808 = _
    exact Int.fdiv_eq_ediv_of_nonneg _ (by omega)
  rw [e2]
  subst hw'
  split <;> omega
theorem slen {n m : Nat} (h : n ≤ m) {A : List Int} (hA : isN A) (hv : nvB b32 A = m) : (lim n).length ≤ A.length := by
  rw [hA, hv]; exact len_mono h
theorem len_two {n : Nat} {A : List Int} (hA : isN A) (h : n ≤ 2 * nvB b32 A) : (lim n).length ≤ A.length + 1 := by
  refine lim_lt ?_
  have := nv_lt hA
  rw [Nat.pow_succ]
  have : b32 ^ A.length * 2 ≤ b32 ^ A.length * b32 := Nat.mul_le_mul_left _ (by decide)
  omega
theorem lim_pos {n : Nat} (h : 0 < n) : (lim n).length ≠ 0 := by
  unfold lim
  rw [limB_pos b32_gt h]
  simp
theorem isN_pos {A : List Int} (h : isN A) (h0 : A.length ≠ 0) : 0 < nvB b32 A := by
  rcases Nat.eq_zero_or_pos (nvB b32 A) with g | g
  · rw [h, g] at h0; exact absurd rfl h0
  · exact g
theorem isN_last {A : List Int} (h : isN A) (hl : A.length - 1 < A.length) : A[A.length - 1] ≠ 0 := by
  have hp := isN_pos h (by omega)
  obtain ⟨B, x, e, hx⟩ := limB_last b32_gt _ hp
  have e : A = B ++ [x] := h.trans e
  subst e
  simpa using hx
theorem div_of {a b q r : Nat} (h : a = b * q + r) (hr : r < b) : a / b = q ∧ a % b = r :=
  (Nat.div_mod_unique (by omega)).2 ⟨by omega, hr⟩
theorem isN_zero {A : List Int} (h : isN A) (h0 : A.length = 0) : nvB b32 A = 0 := by rw [List.eq_nil_of_length_eq_zero h0]; rfl

/-! ### regatta/nat.Sub -/
def natSubText (A B : List Int) : Prop := (match (decide (isN A ∧ isN B ∧ A.length ≤ (1000 : Nat) ∧ B.length ≤ (1000 : Nat))) with | true => (match (decide (cmpN (nvB b32 A) (nvB b32 B) < (0 : Int))) with | true => (((True ∧ (((bif decide (nvB b32 A < nvB b32 B) then (16 : Int) else (0 : Int)) = (16 : Int)) ∧ True)) ∧ True) ∧ ((A = A) ∧ ((B = B) ∧ ((lim (nvB b32 A - nvB b32 B) = []) ∧ True)))) | false => (match (decide ((0 : Int) ≤ (↑A.length : Int)) && decide ((↑A.length : Int) = (↑A.length : Int)) && roomy (↑A.length : Int).toNat (nat_lit 4)) with | true => ((∃ x : Nat, ((x.le A.length) ∧ ((True ∧ (True ∧ (True ∧ (((↑(bor b32 A B x) : Int) = (0 : Int)) ∧ (((↑A.length : Int) = (↑A.length : Int)) ∧ (((↑x : Int) = (0 : Int)) ∧ True)))))) ∧ ((A = A) ∧ ((B = B) ∧ ((padN b32 x A.length (subT b32 A B x) = List.replicate (↑A.length : Int).toNat (0 : Int)) ∧ True)))))) ∧ (∀ x : Nat, ((x.le A.length) → (match (decide ((↑x : Int) < (↑A.length : Int))) with | true => (match (decide ((0 : Int) ≤ (↑x : Int) ∧ OkB b32 A)) with | true => (match (decide ((0 : Int) ≤ (↑x : Int) ∧ OkB b32 B)) with | true => (match (inb (↑x : Int) (padN b32 x A.length (subT b32 A B x)).length) with | true => (match (inb (↑x : Int) (padN b32 x A.length (subT b32 A B x)).length) with | true => (∃ x' : Nat, ((x'.le A.length) ∧ ((A.length - x' < A.length - x) ∧ ((True ∧ (True ∧ (True ∧ (((↑(bor b32 A B x') : Int) = (IntKind.u64.wrap (IntKind.u64.wrap ((↑(gd A (↑x : Int).toNat) : Int) - (↑(gd B (↑x : Int).toNat) : Int)) - (↑(bor b32 A B x) : Int))).fdiv ((2 : Int) ^ min (Int.toNat (63 : Int)) IntKind.u64.bits)) ∧ (((↑A.length : Int) = (↑A.length : Int)) ∧ (((↑x' : Int) = IntKind.i64.wrap ((↑x : Int) + (1 : Int))) ∧ True)))))) ∧ ((A = A) ∧ ((B = B) ∧ ((padN b32 x' A.length (subT b32 A B x') = (padN b32 x A.length (subT b32 A B x)).set (↑x : Int).toNat (IntKind.u32.wrap (IntKind.u64.wrap (IntKind.u64.wrap ((↑(gd A (↑x : Int).toNat) : Int) - (↑(gd B (↑x : Int).toNat) : Int)) - (↑(bor b32 A B x) : Int))))) ∧ True))))))) | false => False) | false => False) | false => False) | false => False) | false => (match (decide ((padN b32 x A.length (subT b32 A B x)).length ≤ (3000 : Nat))) with | true => (((True ∧ (((bif decide (nvB b32 A < nvB b32 B) then (16 : Int) else (0 : Int)) = (0 : Int)) ∧ True)) ∧ True) ∧ ((A = A) ∧ ((B = B) ∧ ((lim (nvB b32 A - nvB b32 B) = cutD (padN b32 x A.length (subT b32 A B x))) ∧ True)))) | false => False))))) | false => False)) | false => False)
theorem natSubVc (A B : List Int) : fnX X3 (oneLoop 6 { σ := Nat, st := fun S x => (((S.keep [0, 1, 6, 18]).int 19 x).slot 7 (.raw (.int .u64 ((bor b32 A B x : Nat) : Int)))).at' 6 (.vec 2 (padN b32 x A.length (subT b32 A B x)) 104), inv := fun _ x => x ≤ A.length, m := fun x => A.length - x }) Try.f113 [.own 0, .own 1] [.ro 2 A, .ro 2 B] (ends [.ro 2 A, .ro 2 B] ⟨some (.tup [.own 2, .raw (.int .i64 (bif decide (nvB b32 A < nvB b32 B) then 16 else 0))]), [(2, some (.ro 2 (lim (nvB b32 A - nvB b32 B))))]⟩) = natSubText A B := by kernel_rfl
theorem natSubHolds (A B : List Int) (hp : isN A ∧ isN B ∧ A.length ≤ 1000 ∧ B.length ≤ 1000) : natSubText A B := by
  unfold natSubText
  obtain ⟨ha, hb, la, lb⟩ := hp
  rw [decide_eq_true (⟨ha, hb, la, lb⟩ : isN A ∧ isN B ∧ A.length ≤ 1000 ∧ B.length ≤ 1000)]
  by_cases hlt : nvB b32 A < nvB b32 B
  · rw [cmpN_lt hlt, show decide ((-1 : Int) < 0) = true from rfl]
    have e1 : (bif decide (nvB b32 A < nvB b32 B) then (16 : Int) else 0) = 16 := by rw [decide_eq_true hlt]; rfl
    have e2 : lim (nvB b32 A - nvB b32 B) = [] := by rw [show nvB b32 A - nvB b32 B = 0 by omega]; rfl
    repeat' first | exact e1 | exact e2 | trivial | rfl | apply And.intro
  · have hc : decide (cmpN (nvB b32 A) (nvB b32 B) < 0) = false := by
      rcases Nat.eq_or_lt_of_le (Nat.le_of_not_lt hlt) with g | g
      · rw [g, cmpN_eq]; rfl
      · rw [cmpN_gt g]; rfl
    have hl : B.length ≤ A.length := by rw [ha, hb]; exact len_mono (by omega)
    rw [hc, show (decide (0 ≤ (A.length : Int)) && decide ((A.length : Int) = (A.length : Int)) && roomy ((A.length : Int)).toNat 4) = true by simp [roomy]; omega, Int.toNat_natCast]
    have e0 : padN b32 0 A.length (subT b32 A B 0) = List.replicate A.length 0 := rfl
    have e1 : ((bor b32 A B 0 : Nat) : Int) = 0 := by simp [bor]
    refine ⟨⟨0, Nat.zero_le _, by repeat' first | exact e0 | exact e1 | trivial | rfl | apply And.intro⟩, ?_⟩
    intro x hx
    have hx : x ≤ A.length := hx
    by_cases h : x < A.length
    · have hwx := wrap_succ h (show A.length ≤ 140737488355328 by omega)
      obtain ⟨s1, s2, s3, s4⟩ := sub_step b32_gt ha.ok hb.ok x
      have g1 : gd A x < 4294967296 := gd_ok (by decide) ha.ok x
      have g2 : gd B x < 4294967296 := gd_ok (by decide) hb.ok x
      obtain ⟨t1, t2⟩ := sub64 g1 g2 (bor_le b32 A B x) s1
      rw [dec_lt h, decide_eq_true (⟨by omega, ha.ok⟩ : 0 ≤ (x : Int) ∧ OkB b32 A), decide_eq_true (⟨by omega, hb.ok⟩ : 0 ≤ (x : Int) ∧ OkB b32 B), Int.toNat_natCast, t1, t2, padN_length hx, inb_nat h]
      have e2 : padN b32 (x + 1) A.length (subT b32 A B (x + 1)) = (padN b32 x A.length (subT b32 A B x)).set x ((gd A x + 4294967296 * bor b32 A B (x + 1) - gd B x - bor b32 A B x : Nat) : Int) := by
        rw [s2]
        exact (padN_push b32_gt h (subT_lt b32_gt ha.ok hb.ok x) s3).symm
      refine ⟨x + 1, h, by omega, ?_⟩
      repeat' first | exact hwx.symm | exact e2 | trivial | rfl | apply And.intro
    · obtain rfl : x = A.length := by omega
      rw [dec_ge (Nat.le_refl _), padN_length (Nat.le_refl _), decide_eq_true (show A.length ≤ 3000 by omega), padN_all]
      have hT : subT b32 A B A.length = nvB b32 A - nvB b32 B := by
        unfold subT bor
        rw [List.take_length, List.take_of_length_le hl, if_neg hlt]
        omega
      have e2 : lim (nvB b32 A - nvB b32 B) = cutD (digN b32 A.length (subT b32 A B A.length)) := by
        rw [cutD_digN b32_gt (subT_lt b32_gt ha.ok hb.ok _), hT]
        rfl
      have e3 : (bif decide (nvB b32 A < nvB b32 B) then (16 : Int) else 0) = 0 := by rw [decide_eq_false hlt]; rfl
      repeat' first | exact e2 | exact e3 | trivial | rfl | apply And.intro
noncomputable def natSubBCon : Con T O := fun args cs => match args, cs with
  | [.own 0, .own 1], [.ro 2 A, .ro 2 B] => chk (decide (isN A ∧ isN B ∧ A.length ≤ 1000 ∧ B.length ≤ 1000)) (.ret ⟨some (.tup [.own 2, .raw (.int .i64 (bif decide (nvB b32 A < nvB b32 B) then 16 else 0))]), [(2, some (.ro 2 (lim (nvB b32 A - nvB b32 B))))]⟩)
  | _, _ => .fail
theorem natSubBOk : ConOk R Try.prog 113 natSubBCon := con_of_fn R (X3) (TabOk.con R X3Ok) mixed Try.call113 Try.func113 natSubBCon (by
  intro args cs K h
  unfold natSubBCon at h
  split at h
  · rename_i A B
    rw [Tree.holds_chk] at h
    obtain ⟨hp, h⟩ := h
    refine ⟨oneLoop 6 { σ := Nat, st := fun S x => (((S.keep [0, 1, 6, 18]).int 19 x).slot 7 (.raw (.int .u64 ((bor b32 A B x : Nat) : Int)))).at' 6 (.vec 2 (padN b32 x A.length (subT b32 A B x)) 104), inv := fun _ x => x ≤ A.length, m := fun x => A.length - x }, _, fun v S hv => ⟨_, h, hv⟩, ?_⟩
    rw [natSubVc A B]
    exact natSubHolds A B (of_decide_eq_true hp)
  · exact h.elim)
noncomputable def natSubCon : Con T O := relax 2 natSubBCon
theorem natSubOk : ConOk R Try.prog 113 natSubCon := relax_ok R 2 natSubBOk
/-! ### regatta/nat.Check -/
def natCheckText (A : List Int) : Prop := (match ((↑A.length : Int) == (0 : Int)) with | true => (((true = true) ∧ True) ∧ ((A = A) ∧ True)) | false => (match (inb (IntKind.i64.wrap ((↑A.length : Int) - (1 : Int))) A.length) with | true => (match (inb (IntKind.i64.wrap ((↑A.length : Int) - (1 : Int))) A.length) with | true => (((true = (at' (0 : Int) A (IntKind.i64.wrap ((↑A.length : Int) - (1 : Int))) != (0 : Int))) ∧ True) ∧ ((A = A) ∧ True)) | false => False) | false => False))
theorem natCheckVc (A : List Int) : fnX X3 (noAnn) Try.f112 [.own 0] [.ro 2 A] (ends [.ro 2 A] ⟨some (.raw (.bool true)), []⟩) = natCheckText A := by kernel_rfl
theorem natCheckHolds (A : List Int) (hp : isN A ∧ A.length ≤ 1000) : natCheckText A := by
  unfold natCheckText
  have hl0 := hp.2
  by_cases h : A.length = 0
  · rw [show ((A.length : Int) == 0) = true by rw [h]; rfl]
    repeat' first | trivial | rfl | apply And.intro
  · have hl : A.length - 1 < A.length := by omega
    rw [show ((A.length : Int) == 0) = false by rw [beq_eq_false_iff_ne]; omega, show IntKind.i64.wrap ((A.length : Int) - 1) = ((A.length - 1 : Nat) : Int) by rw [wrap_id (by omega) (by omega)]; omega, inb_nat hl, at_nat hl]
    have e : A[A.length - 1] ≠ 0 := isN_last hp.1 hl
    have e2 : true = (A[A.length - 1] != 0) := (bne_iff_ne.2 e).symm
    repeat' first | exact e2 | trivial | rfl | apply And.intro
noncomputable def natCheckBCon : Con T O := fun args cs => match args, cs with
  | [.own 0], [.ro 2 A] => chk (decide (isN A ∧ A.length ≤ 1000)) (.ret ⟨some (.raw (.bool true)), []⟩)
  | _, _ => .fail
theorem natCheckBOk : ConOk R Try.prog 112 natCheckBCon := con_of_fn R (X3) (TabOk.con R X3Ok) mixed Try.call112 Try.func112 natCheckBCon (by
  intro args cs K h
  unfold natCheckBCon at h
  split at h
  · rename_i A
    rw [Tree.holds_chk] at h
    obtain ⟨hp, h⟩ := h
    refine ⟨noAnn, _, fun v S hv => ⟨_, h, hv⟩, ?_⟩
    rw [natCheckVc A]
    exact natCheckHolds A (of_decide_eq_true hp)
  · exact h.elim)
noncomputable def natCheckCon : Con T O := relax 2 natCheckBCon
theorem natCheckOk : ConOk R Try.prog 112 natCheckCon := relax_ok R 2 natCheckBOk
noncomputable def tab4 : Tab T O := (113, natSubCon) :: (112, natCheckCon) :: tab3
theorem tabOk4 : TabOk R Try.prog tab4 := TabOk.cons R natSubOk <| TabOk.cons R natCheckOk <| tabOk3
noncomputable def X4 : Ctx T O := { X0 with con := conOf tab4 }
theorem X4Ok : TabOk R X4.P tab4 := tabOk4
end Go.Proofs.Ytmnnjclnldaejaa

namespace Go.Proofs.Ytmnnjclnldaejaa
open Go.Sx Go.Proofs Classical
noncomputable def natQuoBConN (nrec : Nat) : Con T O := fun args cs => match args, cs with
  | [.own 0, .own 1], [.ro 2 A, .ro 2 B] => chk (decide ((isN A ∧ isN B ∧ 0 < nvB b32 B ∧ A.length ≤ 900 ∧ B.length ≤ 901) ∧ (nvB b32 A / nvB b32 B) < nrec)) (.ret ⟨some (.tup [.own 2, .own 3]), [(2, some (.ro 2 (lim (nvB b32 A / nvB b32 B)))), (3, some (.ro 2 (lim (nvB b32 A % nvB b32 B))))]⟩)
  | _, _ => .fail
/-! ### regatta/ratio.quo -/
def natQuoText (nrec : Nat) (A B : List Int) : Prop := (match (decide (isN A ∧ isN B ∧ A.length ≤ (1000 : Nat) ∧ B.length ≤ (1000 : Nat))) with | true => (match (decide (cmpN (nvB b32 A) (nvB b32 B) < (0 : Int))) with | true => (((True ∧ (True ∧ True)) ∧ True) ∧ ((A = A) ∧ ((B = B) ∧ ((lim (nvB b32 A / nvB b32 B) = []) ∧ ((lim (nvB b32 A % nvB b32 B) = A) ∧ True))))) | false => (match (decide (isN B ∧ isN B ∧ B.length ≤ (1000 : Nat) ∧ B.length ≤ (1000 : Nat))) with | true => (match (decide ((isN A ∧ isN (lim (nvB b32 B + nvB b32 B)) ∧ (0 : Nat) < nvB b32 (lim (nvB b32 B + nvB b32 B)) ∧ A.length ≤ (900 : Nat) ∧ (lim (nvB b32 B + nvB b32 B)).length ≤ (901 : Nat)) ∧ nvB b32 A / nvB b32 (lim (nvB b32 B + nvB b32 B)) < nrec)) with | true => (match (decide (isN (lim (nvB b32 A / nvB b32 (lim (nvB b32 B + nvB b32 B)))) ∧ isN (lim (nvB b32 A / nvB b32 (lim (nvB b32 B + nvB b32 B)))) ∧ (lim (nvB b32 A / nvB b32 (lim (nvB b32 B + nvB b32 B)))).length ≤ (1000 : Nat) ∧ (lim (nvB b32 A / nvB b32 (lim (nvB b32 B + nvB b32 B)))).length ≤ (1000 : Nat))) with | true => (match (decide (isN (lim (nvB b32 A % nvB b32 (lim (nvB b32 B + nvB b32 B)))) ∧ isN B ∧ (lim (nvB b32 A % nvB b32 (lim (nvB b32 B + nvB b32 B)))).length ≤ (1000 : Nat) ∧ B.length ≤ (1000 : Nat))) with | true => (match (decide (cmpN (nvB b32 (lim (nvB b32 A % nvB b32 (lim (nvB b32 B + nvB b32 B))))) (nvB b32 B) < (0 : Int))) with | true => (((True ∧ (True ∧ True)) ∧ True) ∧ ((A = A) ∧ ((B = B) ∧ ((lim (nvB b32 A / nvB b32 B) = lim (nvB b32 (lim (nvB b32 A / nvB b32 (lim (nvB b32 B + nvB b32 B)))) + nvB b32 (lim (nvB b32 A / nvB b32 (lim (nvB b32 B + nvB b32 B)))))) ∧ ((lim (nvB b32 A % nvB b32 B) = lim (nvB b32 A % nvB b32 (lim (nvB b32 B + nvB b32 B)))) ∧ True))))) | false => (match (decide (isN (lim (nvB b32 A % nvB b32 (lim (nvB b32 B + nvB b32 B)))) ∧ isN B ∧ (lim (nvB b32 A % nvB b32 (lim (nvB b32 B + nvB b32 B)))).length ≤ (1000 : Nat) ∧ B.length ≤ (1000 : Nat))) with | true => (match (decide (isN (lim (nvB b32 (lim (nvB b32 A / nvB b32 (lim (nvB b32 B + nvB b32 B)))) + nvB b32 (lim (nvB b32 A / nvB b32 (lim (nvB b32 B + nvB b32 B)))))) ∧ isN (lim (Int.toNat (1 : Int))) ∧ (lim (nvB b32 (lim (nvB b32 A / nvB b32 (lim (nvB b32 B + nvB b32 B)))) + nvB b32 (lim (nvB b32 A / nvB b32 (lim (nvB b32 B + nvB b32 B)))))).length ≤ (1000 : Nat) ∧ (lim (Int.toNat (1 : Int))).length ≤ (1000 : Nat))) with | true => (((True ∧ (True ∧ True)) ∧ True) ∧ ((A = A) ∧ ((B = B) ∧ ((lim (nvB b32 A / nvB b32 B) = lim (nvB b32 (lim (nvB b32 (lim (nvB b32 A / nvB b32 (lim (nvB b32 B + nvB b32 B)))) + nvB b32 (lim (nvB b32 A / nvB b32 (lim (nvB b32 B + nvB b32 B)))))) + nvB b32 (lim (Int.toNat (1 : Int))))) ∧ ((lim (nvB b32 A % nvB b32 B) = lim (nvB b32 (lim (nvB b32 A % nvB b32 (lim (nvB b32 B + nvB b32 B)))) - nvB b32 B)) ∧ True))))) | false => False) | false => False)) | false => False) | false => False) | false => False) | false => False)) | false => False)
theorem natQuoVc (nrec : Nat) (A B : List Int) : fnX { X4 with con := conOf ((110, relax 2 (natQuoBConN nrec)) :: tab4) } (noAnn) Try.f110 [.own 0, .own 1] [.ro 2 A, .ro 2 B] (ends [.ro 2 A, .ro 2 B] ⟨some (.tup [.own 2, .own 3]), [(2, some (.ro 2 (lim (nvB b32 A / nvB b32 B)))), (3, some (.ro 2 (lim (nvB b32 A % nvB b32 B))))]⟩) = natQuoText nrec A B := by kernel_rfl
theorem natQuoHolds (nrec : Nat) (A B : List Int) (hp : isN A ∧ isN B ∧ 0 < nvB b32 B ∧ A.length ≤ 900 ∧ B.length ≤ 901) (hr : nvB b32 A / nvB b32 B < nrec + 1) : natQuoText nrec A B := by
  unfold natQuoText
  obtain ⟨ha, hb, h0, la, lb⟩ := hp
  rw [decide_eq_true (⟨ha, hb, by omega, by omega⟩ : isN A ∧ isN B ∧ A.length ≤ 1000 ∧ B.length ≤ 1000), decide_eq_true (⟨hb, hb, by omega, by omega⟩ : isN B ∧ isN B ∧ B.length ≤ 1000 ∧ B.length ≤ 1000)]
  generalize hva : nvB b32 A = a at hr ⊢
  generalize hvb : nvB b32 B = b at h0 hr ⊢
  by_cases hlt : a < b
  · rw [cmpN_lt hlt, show decide ((-1 : Int) < 0) = true from rfl]
    have e1 : lim (a / b) = [] := by rw [Nat.div_eq_of_lt hlt]; rfl
    have e2 : lim (a % b) = A := by rw [Nat.mod_eq_of_lt hlt, ← hva]; exact ha.symm
    repeat' first | exact e1 | exact e2 | trivial | rfl | apply And.intro
  · have hc : decide (cmpN a b < 0) = false := by
      rcases Nat.eq_or_lt_of_le (Nat.le_of_not_lt hlt) with g | g
      · rw [g, cmpN_eq]; rfl
      · rw [cmpN_gt g]; rfl
    simp only [nv_lim]
    have hd := Nat.div_add_mod a (b + b)
    have hm := Nat.mod_lt a (show 0 < b + b by omega)
    have l2 : (lim (b + b)).length ≤ A.length + 1 := len_two ha (by rw [hva]; omega)
    have l3 : (lim (a / (b + b))).length ≤ A.length := slen (Nat.div_le_self _ _) ha hva
    have l4 : (lim (a % (b + b))).length ≤ A.length := slen (Nat.mod_le _ _) ha hva
    have l5 : (lim (a / (b + b) + a / (b + b))).length ≤ A.length + 1 := len_two ha (by
      rw [hva]
      have := Nat.div_le_self a (b + b)
      omega)
    generalize hq : a / (b + b) = q at hd l3 l5 ⊢
    generalize hrr : a % (b + b) = r at hd hm l4 ⊢
    have hbq : (b + b) * q = b * (q + q) := by rw [Nat.add_mul, Nat.mul_add]
    have hab : 1 ≤ a / b := (Nat.le_div_iff_mul_le h0).2 (by omega)
    have key : (r < b ∧ a / b = q + q ∧ a % b = r) ∨ (¬ r < b ∧ a / b = q + q + 1 ∧ a % b = r - b) := by
      by_cases g : r < b
      · exact .inl ⟨g, div_of (by omega) g⟩
      · refine .inr ⟨g, div_of (q := q + q + 1) ?_ (by omega)⟩
        rw [Nat.mul_succ]
        omega
    have hqr : q < nrec := by
      rcases key with ⟨_, e, _⟩ | ⟨_, e, _⟩ <;> omega
    rw [hc, decide_eq_true (⟨⟨ha, isN_lim _, by omega, la, by omega⟩, hqr⟩ : (isN A ∧ isN (lim (b + b)) ∧ 0 < b + b ∧ A.length ≤ 900 ∧ (lim (b + b)).length ≤ 901) ∧ q < nrec), decide_eq_true (⟨isN_lim _, isN_lim _, by omega, by omega⟩ : isN (lim q) ∧ isN (lim q) ∧ (lim q).length ≤ 1000 ∧ (lim q).length ≤ 1000), decide_eq_true (⟨isN_lim _, hb, by omega, by omega⟩ : isN (lim r) ∧ isN B ∧ (lim r).length ≤ 1000 ∧ B.length ≤ 1000), decide_eq_true (⟨isN_lim _, isN_lim _, by omega, Nat.le_trans (lim_lt (k := 1) (by decide)) (by omega)⟩ : isN (lim (q + q)) ∧ isN (lim (Int.toNat 1)) ∧ (lim (q + q)).length ≤ 1000 ∧ (lim (Int.toNat 1)).length ≤ 1000)]
    rcases key with ⟨g, k1, k2⟩ | ⟨g, k1, k2⟩
    · rw [cmpN_lt g, show decide ((-1 : Int) < 0) = true from rfl, k1, k2]
      repeat' first | trivial | rfl | apply And.intro
    · have hc2 : decide (cmpN r b < 0) = false := by
        rcases Nat.eq_or_lt_of_le (Nat.le_of_not_lt g) with g | g
        · rw [g, cmpN_eq]; rfl
        · rw [cmpN_gt g]; rfl
      rw [hc2, k1, k2]
      repeat' first | trivial | rfl | apply And.intro
noncomputable def natQuoBCon : Con T O := fun args cs => match args, cs with
  | [.own 0, .own 1], [.ro 2 A, .ro 2 B] => chk (decide (isN A ∧ isN B ∧ 0 < nvB b32 B ∧ A.length ≤ 900 ∧ B.length ≤ 901)) (.ret ⟨some (.tup [.own 2, .own 3]), [(2, some (.ro 2 (lim (nvB b32 A / nvB b32 B)))), (3, some (.ro 2 (lim (nvB b32 A % nvB b32 B))))]⟩)
  | _, _ => .fail
theorem natQuoBOkN : ∀ nrec, ConOk R Try.prog 110 (natQuoBConN nrec)
  | 0 => by
    intro args cs K h
    exfalso
    unfold natQuoBConN at h
    split at h <;> first | exact h.elim | (rw [Tree.holds_chk] at h; exact Nat.not_lt_zero _ (of_decide_eq_true h.1).2)
  | nrec + 1 => con_of_fn R ({ X4 with con := conOf ((110, relax 2 (natQuoBConN nrec)) :: tab4) }) (TabOk.con R (TabOk.cons R (relax_ok R 2 (natQuoBOkN nrec)) X4Ok)) mixed Try.call110 Try.func110 (natQuoBConN (nrec + 1)) (by
    intro args cs K h
    unfold natQuoBConN at h
    split at h
    · rename_i A B
      rw [Tree.holds_chk] at h
      obtain ⟨hp, h⟩ := h
      obtain ⟨hp, hr⟩ := of_decide_eq_true hp
      refine ⟨noAnn, _, fun v S hv => ⟨_, h, hv⟩, ?_⟩
      rw [natQuoVc nrec A B]
      exact natQuoHolds nrec A B hp hr
    · exact h.elim)
theorem natQuoBOk : ConOk R Try.prog 110 natQuoBCon := by
  intro args cs K h
  unfold natQuoBCon at h
  split at h
  · rename_i A B
    rw [Tree.holds_chk] at h
    refine natQuoBOkN (nvB b32 A / nvB b32 B + 1) _ _ K ?_
    unfold natQuoBConN
    show Tree.holds K (chk _ _)
    rw [Tree.holds_chk]
    exact ⟨decide_eq_true ⟨of_decide_eq_true h.1, Nat.lt_succ_self _⟩, h.2⟩
  · exact h.elim
noncomputable def natQuoCon : Con T O := relax 2 natQuoBCon
theorem natQuoOk : ConOk R Try.prog 110 natQuoCon := relax_ok R 2 natQuoBOk
noncomputable def tab5 : Tab T O := (110, natQuoCon) :: tab4
theorem tabOk5 : TabOk R Try.prog tab5 := TabOk.cons R natQuoOk <| tabOk4
noncomputable def X5 : Ctx T O := { X0 with con := conOf tab5 }
theorem X5Ok : TabOk R X5.P tab5 := tabOk5
end Go.Proofs.Ytmnnjclnldaejaa

namespace Go.Proofs.Ytmnnjclnldaejaa
open Go.Sx Go.Proofs Classical
/-! ### regatta/ratio.gcd -/
def natGcdText (A B : List Int) : Prop := ((∃ x : List Int × List Int, (((x.fst = lim (nvB b32 x.fst)) ∧ ((x.snd = lim (nvB b32 x.snd)) ∧ ((x.fst.length ≤ (900 : Nat)) ∧ ((x.snd.length ≤ (900 : Nat)) ∧ ((nvB b32 A).gcd (nvB b32 B) = (nvB b32 x.fst).gcd (nvB b32 x.snd)))))) ∧ ((True ∧ (True ∧ True)) ∧ ((A = A) ∧ ((B = B) ∧ ((x.fst = A) ∧ ((x.snd = B) ∧ True))))))) ∧ (∀ x : List Int × List Int, (((x.fst = lim (nvB b32 x.fst)) ∧ ((x.snd = lim (nvB b32 x.snd)) ∧ ((x.fst.length ≤ (900 : Nat)) ∧ ((x.snd.length ≤ (900 : Nat)) ∧ ((nvB b32 A).gcd (nvB b32 B) = (nvB b32 x.fst).gcd (nvB b32 x.snd)))))) → (match ((↑x.snd.length : Int) == (0 : Int)) with | true => ((True ∧ True) ∧ ((A = A) ∧ ((B = B) ∧ ((lim ((nvB b32 A).gcd (nvB b32 B)) = x.fst) ∧ True)))) | false => (match (decide (isN x.fst ∧ isN x.snd ∧ (0 : Nat) < nvB b32 x.snd ∧ x.fst.length ≤ (900 : Nat) ∧ x.snd.length ≤ (901 : Nat))) with | true => (∃ x' : List Int × List Int, (((x'.fst = lim (nvB b32 x'.fst)) ∧ ((x'.snd = lim (nvB b32 x'.snd)) ∧ ((x'.fst.length ≤ (900 : Nat)) ∧ ((x'.snd.length ≤ (900 : Nat)) ∧ ((nvB b32 A).gcd (nvB b32 B) = (nvB b32 x'.fst).gcd (nvB b32 x'.snd)))))) ∧ ((nvB b32 x'.snd < nvB b32 x.snd) ∧ ((True ∧ (True ∧ True)) ∧ ((A = A) ∧ ((B = B) ∧ ((x'.fst = x.snd) ∧ ((x'.snd = lim (nvB b32 x.fst % nvB b32 x.snd)) ∧ True)))))))) | false => False)))))
theorem natGcdVc (A B : List Int) : fnX X5 (oneLoop 1 { σ := List Int × List Int, st := fun S x => ((S.keep []).new 0 (.ro 2 x.1)).new 1 (.ro 2 x.2), inv := fun _ x => isN x.1 ∧ isN x.2 ∧ x.1.length ≤ 900 ∧ x.2.length ≤ 900 ∧ Nat.gcd (nvB b32 A) (nvB b32 B) = Nat.gcd (nvB b32 x.1) (nvB b32 x.2), m := fun x => nvB b32 x.2 }) Try.f109 [.own 0, .own 1] [.ro 2 A, .ro 2 B] (ends [.ro 2 A, .ro 2 B] ⟨some (.own 2), [(2, some (.ro 2 (lim (Nat.gcd (nvB b32 A) (nvB b32 B)))))]⟩) = natGcdText A B := by kernel_rfl
theorem natGcdHolds (A B : List Int) (hp : isN A ∧ isN B ∧ A.length ≤ 900 ∧ B.length ≤ 900) : natGcdText A B := by
  unfold natGcdText
  obtain ⟨ha, hb, la, lb⟩ := hp
  refine ⟨⟨(A, B), ⟨ha, hb, la, lb, rfl⟩, by repeat' first | trivial | rfl | apply And.intro⟩, ?_⟩
  rintro ⟨P, Q⟩ ⟨h1, h2, h3, h4, h5⟩
  dsimp only at h1 h2 h3 h4 h5 ⊢
  have hQ : isN Q := h2
  by_cases h : Q.length = 0
  · rw [show ((Q.length : Int) == 0) = true by rw [h]; rfl]
    have e : lim (Nat.gcd (nvB b32 A) (nvB b32 B)) = P := by
      rw [h5, isN_zero hQ h, Nat.gcd_zero_right]
      exact h1.symm
    repeat' first | exact e | trivial | rfl | apply And.intro
  · have hpos := isN_pos hQ h
    rw [show ((Q.length : Int) == 0) = false by rw [beq_eq_false_iff_ne]; omega, decide_eq_true (⟨h1, hQ, hpos, h3, by omega⟩ : isN P ∧ isN Q ∧ 0 < nvB b32 Q ∧ P.length ≤ 900 ∧ Q.length ≤ 901)]
    have hm := Nat.mod_lt (nvB b32 P) hpos
    refine ⟨(Q, lim (nvB b32 P % nvB b32 Q)), ⟨h2, isN_lim _, h4, Nat.le_trans (slen (Nat.mod_le _ _) (A := P) h1 rfl) h3, ?_⟩, ?_, ?_⟩
    · dsimp only
      rw [nv_lim, h5, Nat.gcd_comm, Nat.gcd_rec, Nat.gcd_comm]
    · dsimp only
      rw [nv_lim]
      exact hm
    · repeat' first | trivial | rfl | apply And.intro
noncomputable def natGcdBCon : Con T O := fun args cs => match args, cs with
  | [.own 0, .own 1], [.ro 2 A, .ro 2 B] => chk (decide (isN A ∧ isN B ∧ A.length ≤ 900 ∧ B.length ≤ 900)) (.ret ⟨some (.own 2), [(2, some (.ro 2 (lim (Nat.gcd (nvB b32 A) (nvB b32 B)))))]⟩)
  | _, _ => .fail
theorem natGcdBOk : ConOk R Try.prog 109 natGcdBCon := con_of_fn R (X5) (TabOk.con R X5Ok) mixed Try.call109 Try.func109 natGcdBCon (by
  intro args cs K h
  unfold natGcdBCon at h
  split at h
  · rename_i A B
    rw [Tree.holds_chk] at h
    obtain ⟨hp, h⟩ := h
    refine ⟨oneLoop 1 { σ := List Int × List Int, st := fun S x => ((S.keep []).new 0 (.ro 2 x.1)).new 1 (.ro 2 x.2), inv := fun _ x => isN x.1 ∧ isN x.2 ∧ x.1.length ≤ 900 ∧ x.2.length ≤ 900 ∧ Nat.gcd (nvB b32 A) (nvB b32 B) = Nat.gcd (nvB b32 x.1) (nvB b32 x.2), m := fun x => nvB b32 x.2 }, _, fun v S hv => ⟨_, h, hv⟩, ?_⟩
    rw [natGcdVc A B]
    exact natGcdHolds A B (of_decide_eq_true hp)
  · exact h.elim)
noncomputable def natGcdCon : Con T O := relax 2 natGcdBCon
theorem natGcdOk : ConOk R Try.prog 109 natGcdCon := relax_ok R 2 natGcdBOk
noncomputable def tab6 : Tab T O := (109, natGcdCon) :: tab5
theorem tabOk6 : TabOk R Try.prog tab6 := TabOk.cons R natGcdOk <| tabOk5
noncomputable def X6 : Ctx T O := { X0 with con := conOf tab6 }
theorem X6Ok : TabOk R X6.P tab6 := tabOk6
end Go.Proofs.Ytmnnjclnldaejaa

namespace Go.Proofs.Ytmnnjclnldaejaa
open Go.Sx Go.Proofs Classical

def small (A : List Int) : Prop := A.length ≤ 400
/-- a ratio: its denominator is not 0 -/
def isR (A B : List Int) : Prop := isN A ∧ isN B ∧ 0 < nvB b32 B
abbrev Qt : Type := Nat × Nat
def least (q : Qt) : Qt := (q.1 / Nat.gcd q.1 q.2, q.2 / Nat.gcd q.1 q.2)
def addQ (p q : Qt) : Qt := least (p.1 * q.2 + q.1 * p.2, p.2 * q.2)
def cmpQ (p q : Qt) : Int := cmpN (p.1 * q.2) (q.1 * p.2)
def qv (A B : List Int) : Qt := (nvB b32 A, nvB b32 B)
theorem lim_mul_len {m n a b : Nat} (h1 : m < b32 ^ a) (h2 : n < b32 ^ b) : (lim (m * n)).length ≤ a + b := by
  refine lim_lt ?_
  rw [Nat.pow_add]
  exact Nat.mul_lt_mul'' h1 h2
theorem lim_add_len {m n a : Nat} (h1 : m < b32 ^ a) (h2 : n < b32 ^ a) : (lim (m + n)).length ≤ a + 1 := by
  refine lim_lt ?_
  rw [Nat.pow_succ]
  have : b32 ^ a * 2 ≤ b32 ^ a * b32 := Nat.mul_le_mul_left _ (by decide)
  omega
theorem lim_len_lt {n : Nat} {k : Nat} (h : (lim n).length ≤ k) : n < b32 ^ k := by
  have := nvB_lt b32_gt (limB_ok b32_gt n)
  rw [nvB_limB b32_gt] at this
  exact Nat.lt_of_lt_of_le this (Nat.pow_le_pow_right (by decide) h)
theorem lim_add_len' {m n a : Nat} (h1 : (lim m).length ≤ a) (h2 : (lim n).length ≤ a) : (lim (m + n)).length ≤ a + 1 := lim_add_len (lim_len_lt h1) (lim_len_lt h2)

/-! ### regatta/ratio.Whole -/
def ratWholeText (n : Int) : Prop := (match (decide ((0 : Int) ≤ n ∧ n < (18446744073709551616 : Int))) with | true => (((True ∧ (True ∧ True)) ∧ True) ∧ ((lim n.toNat = lim n.toNat) ∧ ((lim (1 : Nat) = lim (Int.toNat (1 : Int))) ∧ True))) | false => False)
theorem ratWholeVc (n : Int) : fnX X6 (noAnn) Try.f38 [.raw (.int .u64 n)] [] (ends [] ⟨some (.agg [.own 0, .own 1]), [(0, some (.ro 2 (lim n.toNat))), (1, some (.ro 2 (lim 1)))]⟩) = ratWholeText n := by kernel_rfl
theorem ratWholeHolds (n : Int) (hp : 0 ≤ n ∧ n < 18446744073709551616) : ratWholeText n := by
  unfold ratWholeText
  rw [decide_eq_true hp]
  repeat' first | trivial | rfl | apply And.intro
noncomputable def ratWholeCon : Con T O := fun args cs => match args, cs with
  | [.raw (.int .u64 n)], [] => chk (decide (0 ≤ n ∧ n < 18446744073709551616)) (.ret ⟨some (.agg [.own 0, .own 1]), [(0, some (.ro 2 (lim n.toNat))), (1, some (.ro 2 (lim 1)))]⟩)
  | _, _ => .fail
theorem ratWholeOk : ConOk R Try.prog 38 ratWholeCon := con_of_fn R (X6) (TabOk.con R X6Ok) mixed Try.call38 Try.func38 ratWholeCon (by
  intro args cs K h
  unfold ratWholeCon at h
  split at h
  · rename_i n
    rw [Tree.holds_chk] at h
    obtain ⟨hp, h⟩ := h
    refine ⟨noAnn, _, fun v S hv => ⟨_, h, hv⟩, ?_⟩
    rw [ratWholeVc n]
    exact ratWholeHolds n (of_decide_eq_true hp)
  · exact h.elim)
/-! ### regatta/ratio.Of -/
def ratOfText (e p : Int) : Prop := (match (decide ((0 : Int) ≤ IntKind.u64.wrap (if (0 : Int) > e then (0 : Int) else e) ∧ IntKind.u64.wrap (if (0 : Int) > e then (0 : Int) else e) < (18446744073709551616 : Int))) with | true => (match (decide ((0 : Int) ≤ IntKind.u64.wrap (if (1 : Int) > p then (1 : Int) else p) ∧ IntKind.u64.wrap (if (1 : Int) > p then (1 : Int) else p) < (18446744073709551616 : Int))) with | true => (((True ∧ (True ∧ True)) ∧ True) ∧ ((lim e.toNat = lim (IntKind.u64.wrap (if (0 : Int) > e then (0 : Int) else e)).toNat) ∧ ((lim p.toNat = lim (IntKind.u64.wrap (if (1 : Int) > p then (1 : Int) else p)).toNat) ∧ True))) | false => False) | false => False)
theorem ratOfVc (e p : Int) : fnX X6 (noAnn) Try.f88 [.agg [.raw (.int .i64 e), .raw (.int .i64 p)]] [] (ends [] ⟨some (.agg [.own 0, .own 1]), [(0, some (.ro 2 (lim e.toNat))), (1, some (.ro 2 (lim p.toNat)))]⟩) = ratOfText e p := by kernel_rfl
theorem ratOfHolds (e p : Int) (hp : 0 ≤ e ∧ e < 9223372036854775808 ∧ 1 ≤ p ∧ p < 9223372036854775808) : ratOfText e p := by
  unfold ratOfText
  obtain ⟨h1, h2, h3, h4⟩ := hp
  rw [if_neg (show ¬ 0 > e by omega), if_neg (show ¬ 1 > p by omega), u64_id h1 (by omega), u64_id (n := p) (by omega) (by omega), decide_eq_true (show 0 ≤ e ∧ e < 18446744073709551616 by omega), decide_eq_true (show 0 ≤ p ∧ p < 18446744073709551616 by omega)]
  repeat' first | trivial | rfl | apply And.intro
noncomputable def ratOfCon : Con T O := fun args cs => match args, cs with
  | [.agg [.raw (.int .i64 e), .raw (.int .i64 p)]], [] => chk (decide (0 ≤ e ∧ e < 9223372036854775808 ∧ 1 ≤ p ∧ p < 9223372036854775808)) (.ret ⟨some (.agg [.own 0, .own 1]), [(0, some (.ro 2 (lim e.toNat))), (1, some (.ro 2 (lim p.toNat)))]⟩)
  | _, _ => .fail
theorem ratOfOk : ConOk R Try.prog 88 ratOfCon := con_of_fn R (X6) (TabOk.con R X6Ok) mixed Try.call88 Try.func88 ratOfCon (by
  intro args cs K h
  unfold ratOfCon at h
  split at h
  · rename_i e p
    rw [Tree.holds_chk] at h
    obtain ⟨hp, h⟩ := h
    refine ⟨noAnn, _, fun v S hv => ⟨_, h, hv⟩, ?_⟩
    rw [ratOfVc e p]
    exact ratOfHolds e p (of_decide_eq_true hp)
  · exact h.elim)
/-! ### regatta/ratio.Check -/
def ratCheckText (A B : List Int) : Prop := (match (decide (isN A ∧ A.length ≤ (1000 : Nat))) with | true => (match (decide (isN B ∧ B.length ≤ (1000 : Nat))) with | true => (((true = decide ((↑B.length : Int) > (0 : Int))) ∧ True) ∧ ((A = A) ∧ ((B = B) ∧ True))) | false => False) | false => False)
theorem ratCheckVc (A B : List Int) : fnX X6 (noAnn) Try.f108 [.agg [.own 0, .own 1]] [.ro 2 A, .ro 2 B] (ends [.ro 2 A, .ro 2 B] ⟨some (.raw (.bool true)), []⟩) = ratCheckText A B := by kernel_rfl
theorem ratCheckHolds (A B : List Int) (hp : isR A B ∧ A.length ≤ 1000 ∧ B.length ≤ 1000) : ratCheckText A B := by
  unfold ratCheckText
  obtain ⟨⟨h1, h2, h3⟩, h4, h5⟩ := hp
  rw [decide_eq_true (⟨h1, h4⟩ : isN A ∧ A.length ≤ 1000), decide_eq_true (⟨h2, h5⟩ : isN B ∧ B.length ≤ 1000)]
  have e : true = decide ((B.length : Int) > 0) := by
    have : B.length ≠ 0 := fun h0 => by rw [isN_zero h2 h0] at h3; omega
    exact (decide_eq_true (by omega)).symm
  repeat' first | exact e | trivial | rfl | apply And.intro
noncomputable def ratCheckBCon : Con T O := fun args cs => match args, cs with
  | [.agg [.own 0, .own 1]], [.ro 2 A, .ro 2 B] => chk (decide (isR A B ∧ A.length ≤ 1000 ∧ B.length ≤ 1000)) (.ret ⟨some (.raw (.bool true)), []⟩)
  | _, _ => .fail
theorem ratCheckBOk : ConOk R Try.prog 108 ratCheckBCon := con_of_fn R (X6) (TabOk.con R X6Ok) mixed Try.call108 Try.func108 ratCheckBCon (by
  intro args cs K h
  unfold ratCheckBCon at h
  split at h
  · rename_i A B
    rw [Tree.holds_chk] at h
    obtain ⟨hp, h⟩ := h
    refine ⟨noAnn, _, fun v S hv => ⟨_, h, hv⟩, ?_⟩
    rw [ratCheckVc A B]
    exact ratCheckHolds A B (of_decide_eq_true hp)
  · exact h.elim)
noncomputable def ratCheckCon : Con T O := relax 2 ratCheckBCon
theorem ratCheckOk : ConOk R Try.prog 108 ratCheckCon := relax_ok R 2 ratCheckBOk
/-! ### regatta/ratio.Cmp -/
def ratCmpText (A B C D : List Int) : Prop := (match (decide (isN A ∧ isN D ∧ A.length ≤ (1000 : Nat) ∧ D.length ≤ (1000 : Nat))) with | true => (match (decide (isN C ∧ isN B ∧ C.length ≤ (1000 : Nat) ∧ B.length ≤ (1000 : Nat))) with | true => (match (decide (isN (lim (nvB b32 A * nvB b32 D)) ∧ isN (lim (nvB b32 C * nvB b32 B)) ∧ (lim (nvB b32 A * nvB b32 D)).length ≤ (1000 : Nat) ∧ (lim (nvB b32 C * nvB b32 B)).length ≤ (1000 : Nat))) with | true => (((cmpQ (qv A B) (qv C D) = cmpN (nvB b32 (lim (nvB b32 A * nvB b32 D))) (nvB b32 (lim (nvB b32 C * nvB b32 B)))) ∧ True) ∧ ((A = A) ∧ ((B = B) ∧ ((C = C) ∧ ((D = D) ∧ True))))) | false => False) | false => False) | false => False)
theorem ratCmpVc (A B C D : List Int) : fnX X6 (noAnn) Try.f37 [.agg [.own 0, .own 1], .agg [.own 2, .own 3]] [.ro 2 A, .ro 2 B, .ro 2 C, .ro 2 D] (ends [.ro 2 A, .ro 2 B, .ro 2 C, .ro 2 D] ⟨some (.raw (.int .i64 (cmpQ (qv A B) (qv C D)))), []⟩) = ratCmpText A B C D := by kernel_rfl
theorem ratCmpHolds (A B C D : List Int) (hp : isR A B ∧ isR C D ∧ small A ∧ small B ∧ small C ∧ small D) : ratCmpText A B C D := by
  unfold ratCmpText
  obtain ⟨⟨a1, b1, b0⟩, ⟨c1, d1, d0⟩, sa, sb, sc, sd⟩ := hp
  unfold small at sa sb sc sd
  have l1 := lim_mul_len (nv_lt a1) (nv_lt d1)
  have l2 := lim_mul_len (nv_lt c1) (nv_lt b1)
  rw [decide_eq_true (⟨a1, d1, by omega, by omega⟩ : isN A ∧ isN D ∧ A.length ≤ 1000 ∧ D.length ≤ 1000), decide_eq_true (⟨c1, b1, by omega, by omega⟩ : isN C ∧ isN B ∧ C.length ≤ 1000 ∧ B.length ≤ 1000), decide_eq_true (⟨isN_lim _, isN_lim _, by omega, by omega⟩ : isN (lim (nvB b32 A * nvB b32 D)) ∧ isN (lim (nvB b32 C * nvB b32 B)) ∧ (lim (nvB b32 A * nvB b32 D)).length ≤ 1000 ∧ (lim (nvB b32 C * nvB b32 B)).length ≤ 1000)]
  have e : cmpQ (qv A B) (qv C D) = cmpN (nvB b32 (lim (nvB b32 A * nvB b32 D))) (nvB b32 (lim (nvB b32 C * nvB b32 B))) := by rw [nv_lim, nv_lim]; rfl
  repeat' first | exact e | trivial | rfl | apply And.intro
noncomputable def ratCmpBCon : Con T O := fun args cs => match args, cs with
  | [.agg [.own 0, .own 1], .agg [.own 2, .own 3]], [.ro 2 A, .ro 2 B, .ro 2 C, .ro 2 D] => chk (decide (isR A B ∧ isR C D ∧ small A ∧ small B ∧ small C ∧ small D)) (.ret ⟨some (.raw (.int .i64 (cmpQ (qv A B) (qv C D)))), []⟩)
  | _, _ => .fail
theorem ratCmpBOk : ConOk R Try.prog 37 ratCmpBCon := con_of_fn R (X6) (TabOk.con R X6Ok) mixed Try.call37 Try.func37 ratCmpBCon (by
  intro args cs K h
  unfold ratCmpBCon at h
  split at h
  · rename_i A B C D
    rw [Tree.holds_chk] at h
    obtain ⟨hp, h⟩ := h
    refine ⟨noAnn, _, fun v S hv => ⟨_, h, hv⟩, ?_⟩
    rw [ratCmpVc A B C D]
    exact ratCmpHolds A B C D (of_decide_eq_true hp)
  · exact h.elim)
noncomputable def ratCmpCon : Con T O := relax 2 ratCmpBCon
theorem ratCmpOk : ConOk R Try.prog 37 ratCmpCon := relax_ok R 2 ratCmpBOk
noncomputable def tab7 : Tab T O := (38, ratWholeCon) :: (88, ratOfCon) :: (108, ratCheckCon) :: (37, ratCmpCon) :: tab6
theorem tabOk7 : TabOk R Try.prog tab7 := TabOk.cons R ratWholeOk <| TabOk.cons R ratOfOk <| TabOk.cons R ratCheckOk <| TabOk.cons R ratCmpOk <| tabOk6
noncomputable def X7 : Ctx T O := { X0 with con := conOf tab7 }
theorem X7Ok : TabOk R X7.P tab7 := tabOk7
end Go.Proofs.Ytmnnjclnldaejaa

namespace Go.Proofs.Ytmnnjclnldaejaa
open Go.Sx Go.Proofs Classical
/-! ### regatta/ratio.Least -/
def ratLeastText (A B : List Int) : Prop := (match (decide (isR A B ∧ A.length ≤ (1000 : Nat) ∧ B.length ≤ (1000 : Nat))) with | true => (match (decide (isN A ∧ isN B ∧ A.length ≤ (900 : Nat) ∧ B.length ≤ (900 : Nat))) with | true => (match (decide (isN A ∧ isN (lim ((nvB b32 A).gcd (nvB b32 B))) ∧ (0 : Nat) < nvB b32 (lim ((nvB b32 A).gcd (nvB b32 B))) ∧ A.length ≤ (900 : Nat) ∧ (lim ((nvB b32 A).gcd (nvB b32 B))).length ≤ (901 : Nat))) with | true => (match (decide (isN B ∧ isN (lim ((nvB b32 A).gcd (nvB b32 B))) ∧ (0 : Nat) < nvB b32 (lim ((nvB b32 A).gcd (nvB b32 B))) ∧ B.length ≤ (900 : Nat) ∧ (lim ((nvB b32 A).gcd (nvB b32 B))).length ≤ (901 : Nat))) with | true => (((True ∧ (True ∧ True)) ∧ True) ∧ ((A = A) ∧ ((B = B) ∧ ((lim (least (qv A B)).fst = lim (nvB b32 A / nvB b32 (lim ((nvB b32 A).gcd (nvB b32 B))))) ∧ ((lim (least (qv A B)).snd = lim (nvB b32 B / nvB b32 (lim ((nvB b32 A).gcd (nvB b32 B))))) ∧ True))))) | false => False) | false => False) | false => False) | false => False)
theorem ratLeastVc (A B : List Int) : fnX X7 (noAnn) Try.f103 [.agg [.own 0, .own 1]] [.ro 2 A, .ro 2 B] (ends [.ro 2 A, .ro 2 B] ⟨some (.agg [.own 2, .own 3]), [(2, some (.ro 2 (lim (least (qv A B)).1))), (3, some (.ro 2 (lim (least (qv A B)).2)))]⟩) = ratLeastText A B := by kernel_rfl
theorem ratLeastHolds (A B : List Int) (hp : isR A B ∧ A.length ≤ 900 ∧ B.length ≤ 900) : ratLeastText A B := by
  unfold ratLeastText
  obtain ⟨⟨h1, h2, h3⟩, h4, h5⟩ := hp
  have g0 : 0 < Nat.gcd (nvB b32 A) (nvB b32 B) := Nat.gcd_pos_of_pos_right _ h3
  have gl : (lim (Nat.gcd (nvB b32 A) (nvB b32 B))).length ≤ B.length := slen (Nat.gcd_le_right _ h3) h2 rfl
  rw [decide_eq_true (⟨⟨h1, h2, h3⟩, by omega, by omega⟩ : isR A B ∧ A.length ≤ 1000 ∧ B.length ≤ 1000), decide_eq_true (⟨h1, h2, h4, h5⟩ : isN A ∧ isN B ∧ A.length ≤ 900 ∧ B.length ≤ 900), decide_eq_true (⟨h1, isN_lim _, by rw [nv_lim]; exact g0, h4, by omega⟩ : isN A ∧ isN (lim (Nat.gcd (nvB b32 A) (nvB b32 B))) ∧ 0 < nvB b32 (lim (Nat.gcd (nvB b32 A) (nvB b32 B))) ∧ A.length ≤ 900 ∧ (lim (Nat.gcd (nvB b32 A) (nvB b32 B))).length ≤ 901), decide_eq_true (⟨h2, isN_lim _, by rw [nv_lim]; exact g0, h5, by omega⟩ : isN B ∧ isN (lim (Nat.gcd (nvB b32 A) (nvB b32 B))) ∧ 0 < nvB b32 (lim (Nat.gcd (nvB b32 A) (nvB b32 B))) ∧ B.length ≤ 900 ∧ (lim (Nat.gcd (nvB b32 A) (nvB b32 B))).length ≤ 901), nv_lim]
  repeat' first | trivial | rfl | apply And.intro
noncomputable def ratLeastBCon : Con T O := fun args cs => match args, cs with
  | [.agg [.own 0, .own 1]], [.ro 2 A, .ro 2 B] => chk (decide (isR A B ∧ A.length ≤ 900 ∧ B.length ≤ 900)) (.ret ⟨some (.agg [.own 2, .own 3]), [(2, some (.ro 2 (lim (least (qv A B)).1))), (3, some (.ro 2 (lim (least (qv A B)).2)))]⟩)
  | _, _ => .fail
theorem ratLeastBOk : ConOk R Try.prog 103 ratLeastBCon := con_of_fn R (X7) (TabOk.con R X7Ok) mixed Try.call103 Try.func103 ratLeastBCon (by
  intro args cs K h
  unfold ratLeastBCon at h
  split at h
  · rename_i A B
    rw [Tree.holds_chk] at h
    obtain ⟨hp, h⟩ := h
    refine ⟨noAnn, _, fun v S hv => ⟨_, h, hv⟩, ?_⟩
    rw [ratLeastVc A B]
    exact ratLeastHolds A B (of_decide_eq_true hp)
  · exact h.elim)
noncomputable def ratLeastCon : Con T O := relax 2 ratLeastBCon
theorem ratLeastOk : ConOk R Try.prog 103 ratLeastCon := relax_ok R 2 ratLeastBOk
noncomputable def tab8 : Tab T O := (103, ratLeastCon) :: tab7
theorem tabOk8 : TabOk R Try.prog tab8 := TabOk.cons R ratLeastOk <| tabOk7
noncomputable def X8 : Ctx T O := { X0 with con := conOf tab8 }
theorem X8Ok : TabOk R X8.P tab8 := tabOk8
end Go.Proofs.Ytmnnjclnldaejaa

namespace Go.Proofs.Ytmnnjclnldaejaa
open Go.Sx Go.Proofs Classical
/-! ### regatta/ratio.Add -/
def ratAddText (A B C D : List Int) : Prop := (match (decide (isN A ∧ isN D ∧ A.length ≤ (1000 : Nat) ∧ D.length ≤ (1000 : Nat))) with | true => (match (decide (isN C ∧ isN B ∧ C.length ≤ (1000 : Nat) ∧ B.length ≤ (1000 : Nat))) with | true => (match (decide (isN (lim (nvB b32 A * nvB b32 D)) ∧ isN (lim (nvB b32 C * nvB b32 B)) ∧ (lim (nvB b32 A * nvB b32 D)).length ≤ (1000 : Nat) ∧ (lim (nvB b32 C * nvB b32 B)).length ≤ (1000 : Nat))) with | true => (match (decide (isN B ∧ isN D ∧ B.length ≤ (1000 : Nat) ∧ D.length ≤ (1000 : Nat))) with | true => (match (decide (isR (lim (nvB b32 (lim (nvB b32 A * nvB b32 D)) + nvB b32 (lim (nvB b32 C * nvB b32 B)))) (lim (nvB b32 B * nvB b32 D)) ∧ (lim (nvB b32 (lim (nvB b32 A * nvB b32 D)) + nvB b32 (lim (nvB b32 C * nvB b32 B)))).length ≤ (900 : Nat) ∧ (lim (nvB b32 B * nvB b32 D)).length ≤ (900 : Nat))) with | true => (((True ∧ (True ∧ True)) ∧ True) ∧ ((A = A) ∧ ((B = B) ∧ ((C = C) ∧ ((D = D) ∧ ((lim (addQ (qv A B) (qv C D)).fst = lim (least (qv (lim (nvB b32 (lim (nvB b32 A * nvB b32 D)) + nvB b32 (lim (nvB b32 C * nvB b32 B)))) (lim (nvB b32 B * nvB b32 D)))).fst) ∧ ((lim (addQ (qv A B) (qv C D)).snd = lim (least (qv (lim (nvB b32 (lim (nvB b32 A * nvB b32 D)) + nvB b32 (lim (nvB b32 C * nvB b32 B)))) (lim (nvB b32 B * nvB b32 D)))).snd) ∧ True))))))) | false => False) | false => False) | false => False) | false => False) | false => False)
theorem ratAddVc (A B C D : List Int) : fnX X8 (noAnn) Try.f87 [.agg [.own 0, .own 1], .agg [.own 2, .own 3]] [.ro 2 A, .ro 2 B, .ro 2 C, .ro 2 D] (ends [.ro 2 A, .ro 2 B, .ro 2 C, .ro 2 D] ⟨some (.agg [.own 4, .own 5]), [(4, some (.ro 2 (lim (addQ (qv A B) (qv C D)).1))), (5, some (.ro 2 (lim (addQ (qv A B) (qv C D)).2)))]⟩) = ratAddText A B C D := by kernel_rfl
theorem ratAddHolds (A B C D : List Int) (hp : isR A B ∧ isR C D ∧ small A ∧ small B ∧ small C ∧ small D) : ratAddText A B C D := by
  unfold ratAddText
  obtain ⟨⟨a1, b1, b0⟩, ⟨c1, d1, d0⟩, sa, sb, sc, sd⟩ := hp
  unfold small at sa sb sc sd
  have l1 := lim_mul_len (nv_lt a1) (nv_lt d1)
  have l2 := lim_mul_len (nv_lt c1) (nv_lt b1)
  have l3 := lim_mul_len (nv_lt b1) (nv_lt d1)
  have l4 : (lim (nvB b32 A * nvB b32 D + nvB b32 C * nvB b32 B)).length ≤ 801 := lim_add_len' (a := 800) (by omega) (by omega)
  rw [decide_eq_true (⟨a1, d1, by omega, by omega⟩ : isN A ∧ isN D ∧ A.length ≤ 1000 ∧ D.length ≤ 1000), decide_eq_true (⟨c1, b1, by omega, by omega⟩ : isN C ∧ isN B ∧ C.length ≤ 1000 ∧ B.length ≤ 1000), decide_eq_true (⟨isN_lim _, isN_lim _, by omega, by omega⟩ : isN (lim (nvB b32 A * nvB b32 D)) ∧ isN (lim (nvB b32 C * nvB b32 B)) ∧ (lim (nvB b32 A * nvB b32 D)).length ≤ 1000 ∧ (lim (nvB b32 C * nvB b32 B)).length ≤ 1000), decide_eq_true (⟨b1, d1, by omega, by omega⟩ : isN B ∧ isN D ∧ B.length ≤ 1000 ∧ D.length ≤ 1000)]
  rw [nv_lim, nv_lim, decide_eq_true (⟨⟨isN_lim _, isN_lim _, by rw [nv_lim]; exact Nat.mul_pos b0 d0⟩, by omega, by omega⟩ : isR (lim (nvB b32 A * nvB b32 D + nvB b32 C * nvB b32 B)) (lim (nvB b32 B * nvB b32 D)) ∧ (lim (nvB b32 A * nvB b32 D + nvB b32 C * nvB b32 B)).length ≤ 900 ∧ (lim (nvB b32 B * nvB b32 D)).length ≤ 900)]
  have e : qv (lim (nvB b32 A * nvB b32 D + nvB b32 C * nvB b32 B)) (lim (nvB b32 B * nvB b32 D)) = (nvB b32 A * nvB b32 D + nvB b32 C * nvB b32 B, nvB b32 B * nvB b32 D) := by unfold qv; rw [nv_lim, nv_lim]
  rw [e]
  repeat' first | trivial | rfl | apply And.intro
noncomputable def ratAddBCon : Con T O := fun args cs => match args, cs with
  | [.agg [.own 0, .own 1], .agg [.own 2, .own 3]], [.ro 2 A, .ro 2 B, .ro 2 C, .ro 2 D] => chk (decide (isR A B ∧ isR C D ∧ small A ∧ small B ∧ small C ∧ small D)) (.ret ⟨some (.agg [.own 4, .own 5]), [(4, some (.ro 2 (lim (addQ (qv A B) (qv C D)).1))), (5, some (.ro 2 (lim (addQ (qv A B) (qv C D)).2)))]⟩)
  | _, _ => .fail
theorem ratAddBOk : ConOk R Try.prog 87 ratAddBCon := con_of_fn R (X8) (TabOk.con R X8Ok) mixed Try.call87 Try.func87 ratAddBCon (by
  intro args cs K h
  unfold ratAddBCon at h
  split at h
  · rename_i A B C D
    rw [Tree.holds_chk] at h
    obtain ⟨hp, h⟩ := h
    refine ⟨noAnn, _, fun v S hv => ⟨_, h, hv⟩, ?_⟩
    rw [ratAddVc A B C D]
    exact ratAddHolds A B C D (of_decide_eq_true hp)
  · exact h.elim)
noncomputable def ratAddCon : Con T O := relax 2 ratAddBCon
theorem ratAddOk : ConOk R Try.prog 87 ratAddCon := relax_ok R 2 ratAddBOk
noncomputable def tab9 : Tab T O := (87, ratAddCon) :: tab8
theorem tabOk9 : TabOk R Try.prog tab9 := TabOk.cons R ratAddOk <| tabOk8
noncomputable def X9 : Ctx T O := { X0 with con := conOf tab9 }
theorem X9Ok : TabOk R X9.P tab9 := tabOk9
end Go.Proofs.Ytmnnjclnldaejaa

namespace Go.Proofs.Ytmnnjclnldaejaa
open Go.Sx Go.Proofs Classical

/-- a ratio in a variable behind a slot -/
def ratCell (S : SS T O) (nf t : Nat) (A B : List Int) : SS T O := (((S.at' t (.cells [.own S.next, .own (S.next + 1)] 35)).gc nf).add (.ro 2 A)).add (.ro 2 B)
def WOk (L : List Weight) : Prop := ∀ w ∈ L, 1 ≤ w.E ∧ w.E ≤ w.P ∧ w.P ≤ 1048576
def wq (w : Weight) : Qt := (w.E.toNat, w.P.toNat)
def sumQ (L : List Weight) : Qt := L.foldl (fun q w => addQ q (wq w)) (0, 1)
theorem sumQ_snoc (L : List Weight) (w : Weight) : sumQ (L ++ [w]) = addQ (sumQ L) (wq w) := by simp [sumQ]
theorem least_pos {q : Qt} (h : 0 < q.2) : 0 < (least q).2 := Nat.div_pos (Nat.gcd_le_right _ h) (Nat.gcd_pos_of_pos_right _ h)
theorem least_le (q : Qt) : (least q).1 ≤ q.1 ∧ (least q).2 ≤ q.2 := ⟨Nat.div_le_self _ _, Nat.div_le_self _ _⟩
/-- as much as ahead -/
theorem least_eq {q : Qt} (h : 0 < q.2) : (least q).1 * q.2 = q.1 * (least q).2 := by
  unfold least
  have g0 := Nat.gcd_pos_of_pos_right q.1 h
  obtain ⟨a, ha⟩ := Nat.gcd_dvd_left q.1 q.2
  obtain ⟨b, hb⟩ := Nat.gcd_dvd_right q.1 q.2
  generalize Nat.gcd q.1 q.2 = g at *
  have e1 : q.1 / g = a := by rw [ha, Nat.mul_div_cancel_left _ g0]
  have e2 : q.2 / g = b := by rw [hb, Nat.mul_div_cancel_left _ g0]
  simp only [e1, e2]
  rw [ha, hb]
  rw [Nat.mul_left_comm, Nat.mul_assoc]
theorem sumQ_bound : ∀ (k : Nat) (L : List Weight), L.length = k → WOk L → 0 < (sumQ L).2 ∧ (sumQ L).2 ≤ 1048576 ^ k ∧ (sumQ L).1 ≤ k * (sumQ L).2
  | 0, L, hk, _ => by
    rw [List.eq_nil_of_length_eq_zero hk]
    exact ⟨by decide, by decide, by decide⟩
  | k + 1, L, hk, h => by
    have hne : L ≠ [] := by intro e; rw [e] at hk; cases hk
    obtain ⟨l, w, rfl⟩ : ∃ l w, L = l ++ [w] := ⟨L.dropLast, L.getLast hne, (List.dropLast_concat_getLast hne).symm⟩
    have hl : l.length = k := by simpa using hk
    obtain ⟨i1, i2, i3⟩ := sumQ_bound k l hl (fun v hv => h v (List.mem_append_left _ hv))
    have hw := h w (by simp)
    rw [sumQ_snoc]
    have p0 : 0 < (wq w).2 := by show 0 < w.P.toNat; omega
    have pe : (wq w).1 ≤ (wq w).2 := by show w.E.toNat ≤ w.P.toNat; omega
    have pp : (wq w).2 ≤ 1048576 := by show w.P.toNat ≤ 1048576; omega
    generalize sumQ l = q at *
    generalize wq w = v at *
    unfold addQ
    have d0 : 0 < q.2 * v.2 := Nat.mul_pos i1 p0
    have hn : q.1 * v.2 + v.1 * q.2 ≤ (k + 1) * (q.2 * v.2) := by
      rw [Nat.succ_mul, ← Nat.mul_assoc]
      have a1 := Nat.mul_le_mul_right v.2 i3
      have a2 := Nat.mul_le_mul_right q.2 pe
      rw [Nat.mul_comm v.2 q.2] at a2
      omega
    refine ⟨least_pos d0, Nat.le_trans (least_le _).2 ?_, ?_⟩
    · rw [Nat.pow_succ]
      exact Nat.mul_le_mul i2 pp
    · have e := least_eq (q := (q.1 * v.2 + v.1 * q.2, q.2 * v.2)) d0
      have l0 := least_pos (q := (q.1 * v.2 + v.1 * q.2, q.2 * v.2)) d0
      generalize least (q.1 * v.2 + v.1 * q.2, q.2 * v.2) = r at e l0 ⊢
      dsimp only at e
      have a3 := Nat.mul_le_mul_right r.2 hn
      rw [← e] at a3
      rw [Nat.mul_right_comm] at a3
      exact Nat.le_of_mul_le_mul_right a3 d0
theorem WOk.take {L : List Weight} (h : WOk L) (n : Nat) : WOk (L.take n) := fun w hw => h w (List.mem_of_mem_take hw)
theorem sumQ_ok {L : List Weight} (h : WOk L) (hl : L.length ≤ 64) : isR (lim (sumQ L).1) (lim (sumQ L).2) ∧ small (lim (sumQ L).1) ∧ small (lim (sumQ L).2) := by
  obtain ⟨h1, h2, h3⟩ := sumQ_bound L.length L rfl h
  have h4 : 1048576 ^ L.length ≤ 1048576 ^ 64 := Nat.pow_le_pow_right (by decide) hl
  have h5 : 1048576 ^ 64 < b32 ^ 100 := by decide +kernel
  have h6 : 64 * 1048576 ^ 64 < b32 ^ 100 := by decide +kernel
  refine ⟨⟨isN_lim _, isN_lim _, by rw [nv_lim]; exact h1⟩, ?_, ?_⟩
  · refine Nat.le_trans (lim_lt (k := 100) ?_) (by decide)
    have := Nat.mul_le_mul hl (Nat.le_trans h2 h4)
    omega
  · refine Nat.le_trans (lim_lt (k := 100) ?_) (by decide)
    omega

/-! ### regatta/ratio.Sum -/
def ratSumText (L : List Weight) : Prop := ((∃ x : Nat, ((x.le L.length) ∧ ((True ∧ (True ∧ (True ∧ (((↑L.length : Int) = (↑L.length : Int)) ∧ (((↑x : Int) = (0 : Int)) ∧ True))))) ∧ ((L = L) ∧ (((Value.slice none (0 : Nat) (0 : Nat) = Value.slice none (0 : Nat) (0 : Nat)) ∧ ((Value.slice none (0 : Nat) (0 : Nat) = Value.slice none (0 : Nat) (0 : Nat)) ∧ True)) ∧ ((True ∧ (True ∧ True)) ∧ ((lim (sumQ (List.take x L)).fst = lim (Int.toNat (0 : Int))) ∧ ((lim (sumQ (List.take x L)).snd = lim (1 : Nat)) ∧ True)))))))) ∧ (∀ x : Nat, ((x.le L.length) → (match (decide ((↑x : Int) < (↑L.length : Int))) with | true => (match (inb (↑x : Int) L.length) with | true => (match (inb (↑x : Int) L.length) with | true => (match (decide ((0 : Int) ≤ (at' weightE.zero L (↑x : Int)).E ∧ (at' weightE.zero L (↑x : Int)).E < (9223372036854775808 : Int) ∧ (1 : Int) ≤ (at' weightE.zero L (↑x : Int)).P ∧ (at' weightE.zero L (↑x : Int)).P < (9223372036854775808 : Int))) with | true => (match (decide (isR (lim (sumQ (List.take x L)).fst) (lim (sumQ (List.take x L)).snd) ∧ isR (lim (at' weightE.zero L (↑x : Int)).E.toNat) (lim (at' weightE.zero L (↑x : Int)).P.toNat) ∧ small (lim (sumQ (List.take x L)).fst) ∧ small (lim (sumQ (List.take x L)).snd) ∧ small (lim (at' weightE.zero L (↑x : Int)).E.toNat) ∧ small (lim (at' weightE.zero L (↑x : Int)).P.toNat))) with | true => (∃ x' : Nat, ((x'.le L.length) ∧ ((L.length - x' < L.length - x) ∧ ((True ∧ (True ∧ (True ∧ (((↑L.length : Int) = (↑L.length : Int)) ∧ (((↑x' : Int) = IntKind.i64.wrap ((↑x : Int) + (1 : Int))) ∧ True))))) ∧ ((L = L) ∧ (((Value.slice none (0 : Nat) (0 : Nat) = Value.slice none (0 : Nat) (0 : Nat)) ∧ ((Value.slice none (0 : Nat) (0 : Nat) = Value.slice none (0 : Nat) (0 : Nat)) ∧ True)) ∧ ((True ∧ (True ∧ True)) ∧ ((lim (sumQ (List.take x' L)).fst = lim (addQ (qv (lim (sumQ (List.take x L)).fst) (lim (sumQ (List.take x L)).snd)) (qv (lim (at' weightE.zero L (↑x : Int)).E.toNat) (lim (at' weightE.zero L (↑x : Int)).P.toNat))).fst) ∧ ((lim (sumQ (List.take x' L)).snd = lim (addQ (qv (lim (sumQ (List.take x L)).fst) (lim (sumQ (List.take x L)).snd)) (qv (lim (at' weightE.zero L (↑x : Int)).E.toNat) (lim (at' weightE.zero L (↑x : Int)).P.toNat))).snd) ∧ True))))))))) | false => False) | false => False) | false => False) | false => False) | false => (((True ∧ (True ∧ True)) ∧ True) ∧ ((L = L) ∧ ((lim (sumQ L).fst = lim (sumQ (List.take x L)).fst) ∧ ((lim (sumQ L).snd = lim (sumQ (List.take x L)).snd) ∧ True))))))))
theorem ratSumVc (L : List Weight) : fnX X9 (oneLoop 3 { σ := Nat, st := fun S x => ratCell ((S.keep [2, 3, 7, 8]).int 9 x) 1 3 (lim (sumQ (L.take x)).1) (lim (sumQ (L.take x)).2), inv := fun _ x => x ≤ L.length, m := fun x => L.length - x }) Try.f66 [.own 0] [.ro 5 L] (ends [.ro 5 L] ⟨some (.agg [.own 1, .own 2]), [(1, some (.ro 2 (lim (sumQ L).1))), (2, some (.ro 2 (lim (sumQ L).2)))]⟩) = ratSumText L := by kernel_rfl
theorem ratSumHolds (L : List Weight) (hp : WOk L ∧ L.length ≤ 64) : ratSumText L := by
  unfold ratSumText
  obtain ⟨hw, hl⟩ := hp
  refine ⟨⟨0, Nat.zero_le _, by repeat' first | trivial | rfl | apply And.intro⟩, ?_⟩
  intro x hx
  have hx : x ≤ L.length := hx
  by_cases h : x < L.length
  · have hwx := wrap_succ h (show L.length ≤ 140737488355328 by omega)
    have he := hw _ (List.getElem_mem h)
    obtain ⟨s1, s2, s3⟩ := sumQ_ok (hw.take x) (by rw [List.length_take]; omega)
    have o1 : isR (lim L[x].E.toNat) (lim L[x].P.toNat) := ⟨isN_lim _, isN_lim _, by rw [nv_lim]; omega⟩
    have o2 : small (lim L[x].E.toNat) := Nat.le_trans (lim_lt (k := 1) (by show _ < 4294967296 ^ 1; omega)) (by decide)
    have o3 : small (lim L[x].P.toNat) := Nat.le_trans (lim_lt (k := 1) (by show _ < 4294967296 ^ 1; omega)) (by decide)
    rw [dec_lt h, inb_nat h, at_nat h, decide_eq_true (show 0 ≤ L[x].E ∧ L[x].E < 9223372036854775808 ∧ 1 ≤ L[x].P ∧ L[x].P < 9223372036854775808 by omega), decide_eq_true (⟨s1, o1, s2, s3, o2, o3⟩ : isR (lim (sumQ (List.take x L)).1) (lim (sumQ (List.take x L)).2) ∧ isR (lim L[x].E.toNat) (lim L[x].P.toNat) ∧ small (lim (sumQ (List.take x L)).1) ∧ small (lim (sumQ (List.take x L)).2) ∧ small (lim L[x].E.toNat) ∧ small (lim L[x].P.toNat))]
    have e : addQ (qv (lim (sumQ (List.take x L)).1) (lim (sumQ (List.take x L)).2)) (qv (lim L[x].E.toNat) (lim L[x].P.toNat)) = sumQ (L.take (x + 1)) := by
      rw [take_at h, sumQ_snoc]
      unfold qv
      rw [nv_lim, nv_lim, nv_lim, nv_lim]
      rfl
    rw [e]
    refine ⟨x + 1, h, by omega, ?_⟩
    repeat' first | exact hwx.symm | trivial | rfl | apply And.intro
  · obtain rfl : x = L.length := by omega
    rw [dec_ge (Nat.le_refl _), List.take_length]
    repeat' first | trivial | rfl | apply And.intro
noncomputable def ratSumCon : Con T O := fun args cs => match args, cs with
  | [.own 0], [.ro 5 L] => chk (decide (WOk L ∧ L.length ≤ 64)) (.ret ⟨some (.agg [.own 1, .own 2]), [(1, some (.ro 2 (lim (sumQ L).1))), (2, some (.ro 2 (lim (sumQ L).2)))]⟩)
  | _, _ => .fail
theorem ratSumOk : ConOk R Try.prog 66 ratSumCon := con_of_fn R (X9) (TabOk.con R X9Ok) mixed Try.call66 Try.func66 ratSumCon (by
  intro args cs K h
  unfold ratSumCon at h
  split at h
  · rename_i L
    rw [Tree.holds_chk] at h
    obtain ⟨hp, h⟩ := h
    refine ⟨oneLoop 3 { σ := Nat, st := fun S x => ratCell ((S.keep [2, 3, 7, 8]).int 9 x) 1 3 (lim (sumQ (L.take x)).1) (lim (sumQ (L.take x)).2), inv := fun _ x => x ≤ L.length, m := fun x => L.length - x }, _, fun v S hv => ⟨_, h, hv⟩, ?_⟩
    rw [ratSumVc L]
    exact ratSumHolds L (of_decide_eq_true hp)
  · exact h.elim)
noncomputable def tab10 : Tab T O := (66, ratSumCon) :: tab9
theorem tabOk10 : TabOk R Try.prog tab10 := TabOk.cons R ratSumOk <| tabOk9
noncomputable def X10 : Ctx T O := { X0 with con := conOf tab10 }
theorem X10Ok : TabOk R X10.P tab10 := tabOk10
end Go.Proofs.Ytmnnjclnldaejaa

namespace Go.Proofs.Ytmnnjclnldaejaa
open Go.Sx Go.Proofs Classical

def most64 : Int := 9223372036854775807
/-- a product, if it may be -/
def mulV (a b : Int) : Int := bif decide (a * b ≤ 9223372036854775807) then a * b else 0
def mulE (a b : Int) : Int := bif decide (a * b ≤ 9223372036854775807) then 0 else 16
def gcdI (a b : Int) : Int := (Nat.gcd a.toNat b.toNat : Nat)
/-- the least common multiple so far, if it may be -/
def lcmG : Int → List Int → Option Int
  | m, [] => some m
  | m, n :: l => bif decide (m / gcdI m n * n ≤ 9223372036854775807) then lcmG (m / gcdI m n * n) l else none
def lcmV (o : Option Int) : Int := match o with
  | some m => m
  | none => 0
def lcmE (o : Option Int) : Int := match o with
  | some _ => 0
  | none => 16
/-- so far, all fits -/
structure lcmI (L : List Int) (m : Int) (x : Nat) : Prop where
  le : x ≤ L.length
  lo : 1 ≤ m
  hi : m ≤ 9223372036854775807
  go : lcmG 1 L = lcmG m (L.drop x)
def Ones (L : List Int) : Prop := ∀ n ∈ L, 1 ≤ n ∧ n ≤ 9223372036854775807
theorem gcdI_pos {a b : Int} (h : 1 ≤ b) : 1 ≤ gcdI a b := by
  have : 0 < Nat.gcd a.toNat b.toNat := Nat.gcd_pos_of_pos_right _ (by omega)
  unfold gcdI
  omega
theorem gcdI_le {a b : Int} (h : 1 ≤ a) : gcdI a b ≤ a := by
  have : Nat.gcd a.toNat b.toNat ≤ a.toNat := Nat.gcd_le_left _ (by omega)
  unfold gcdI
  omega
theorem u64w (n : Int) : IntKind.u64.wrap n = n % 18446744073709551616 := rfl
theorem mulE_ok {a b : Int} (h : a * b ≤ 9223372036854775807) : mulE a b = 0 ∧ mulV a b = a * b := by
  unfold mulE mulV
  rw [decide_eq_true h]
  exact ⟨rfl, rfl⟩
theorem mulE_no {a b : Int} (h : ¬ a * b ≤ 9223372036854775807) : mulE a b = 16 ∧ mulV a b = 0 := by
  unfold mulE mulV
  rw [decide_eq_false h]
  exact ⟨rfl, rfl⟩
theorem lcmG_cons {m n : Int} {l : List Int} : lcmG m (n :: l) = bif decide (m / gcdI m n * n ≤ 9223372036854775807) then lcmG (m / gcdI m n * n) l else none := rfl
/-- a step -/
theorem lcmI.step {L : List Int} {m : Int} {x : Nat} (h : lcmI L m x) (hO : Ones L) (hx : x < L.length) :
    1 ≤ L[x] ∧ L[x] ≤ 9223372036854775807 ∧ 1 ≤ gcdI m L[x] ∧ 1 ≤ m / gcdI m L[x] ∧ m / gcdI m L[x] ≤ 9223372036854775807 ∧ 1 ≤ m / gcdI m L[x] * L[x] ∧
    ((m / gcdI m L[x] * L[x] ≤ 9223372036854775807 ∧ lcmI L (m / gcdI m L[x] * L[x]) (x + 1)) ∨ (¬ m / gcdI m L[x] * L[x] ≤ 9223372036854775807 ∧ lcmG 1 L = none)) := by
  obtain ⟨o1, o2⟩ := hO _ (List.getElem_mem hx)
  have g1 := gcdI_pos (a := m) o1
  have g2 := gcdI_le (b := L[x]) h.lo
  have h1 := h.lo
  have h2 := h.hi
  have q1 : 1 ≤ m / gcdI m L[x] := (Int.le_ediv_iff_mul_le (by omega)).2 (by omega)
  have q2 : m / gcdI m L[x] ≤ m := Int.ediv_le_self _ (by omega)
  have e := h.go
  rw [List.drop_eq_getElem_cons hx, lcmG_cons] at e
  have p1 : 1 * 1 ≤ m / gcdI m L[x] * L[x] := Int.mul_le_mul q1 o1 (by omega) (by omega)
  refine ⟨o1, o2, g1, q1, by omega, by omega, ?_⟩
  by_cases hm : m / gcdI m L[x] * L[x] ≤ 9223372036854775807
  · rw [decide_eq_true hm, cond_true] at e
    exact .inl ⟨hm, ⟨hx, by omega, hm, e⟩⟩
  · rw [decide_eq_false hm, cond_false] at e
    exact .inr ⟨hm, e⟩
theorem lcmI.init (L : List Int) : lcmI L 1 0 := ⟨Nat.zero_le _, by decide, by decide, rfl⟩
theorem lcmI.done {L : List Int} {m : Int} {x : Nat} (h : lcmI L m x) (hx : L.length ≤ x) : lcmG 1 L = some m := by
  rw [h.go, List.drop_of_length_le hx]
  rfl
theorem mask32 (n : Int) : bits .and .u64 n 4294967295 = n % 4294967296 := by
  have hc : (BitVec.ofInt 64 (4294967295 : Int)).toNat = 2 ^ 32 - 1 := by decide
  have key : (BitVec.ofInt 64 n &&& BitVec.ofInt 64 (4294967295 : Int)).toNat = (n % ((2 ^ 64 : Nat) : Int)).toNat % 2 ^ 32 := by
    rw [BitVec.toNat_and, BitVec.toNat_ofInt n, hc, Nat.and_two_pow_sub_one_eq_mod]
  show IntKind.u64.wrap ((BitVec.ofInt 64 n &&& BitVec.ofInt 64 (4294967295 : Int)).toNat : Nat) = n % 4294967296
  rw [key, u64w]
  omega
theorem mul64_hi (x1 x0 y1 y0 : Nat) (h1 : x1 < 4294967296) (h2 : x0 < 4294967296) (h3 : y1 < 4294967296) (h4 : y0 < 4294967296) :
    x1 * y1 + (x1 * y0 + x0 * y0 / 4294967296) / 4294967296 + ((x1 * y0 + x0 * y0 / 4294967296) % 4294967296 + x0 * y1) / 4294967296 = (x1 * 4294967296 + x0) * (y1 * 4294967296 + y0) / 18446744073709551616 ∧ x0 * y0 ≤ 18446744065119617025 ∧ x1 * y0 ≤ 18446744065119617025 ∧ x0 * y1 ≤ 18446744065119617025 ∧ x1 * y1 ≤ 18446744065119617025 := by
  have a1 : x0 * y0 ≤ 4294967295 * 4294967295 := Nat.mul_le_mul (by omega) (by omega)
  have a2 : x1 * y0 ≤ 4294967295 * 4294967295 := Nat.mul_le_mul (by omega) (by omega)
  have a3 : x0 * y1 ≤ 4294967295 * 4294967295 := Nat.mul_le_mul (by omega) (by omega)
  have a4 : x1 * y1 ≤ 4294967295 * 4294967295 := Nat.mul_le_mul (by omega) (by omega)
  have e : (x1 * 4294967296 + x0) * (y1 * 4294967296 + y0) = x1 * y1 * 18446744073709551616 + (x1 * y0 + x0 * y1) * 4294967296 + x0 * y0 := by
    rw [Nat.add_mul, Nat.mul_add, Nat.mul_add]
    have t1 : x1 * 4294967296 * (y1 * 4294967296) = x1 * y1 * (4294967296 * 4294967296) := Nat.mul_mul_mul_comm ..
    have t2 : x1 * 4294967296 * y0 = x1 * y0 * 4294967296 := Nat.mul_right_comm ..
    have t3 : x0 * (y1 * 4294967296) = x0 * y1 * 4294967296 := (Nat.mul_assoc ..).symm
    rw [t1, t2, t3]
    omega
  rw [e]
  generalize x0 * y0 = p at *
  generalize x1 * y0 = q at *
  generalize x0 * y1 = r at *
  generalize x1 * y1 = s at *
  omega

noncomputable def yGcdConN (nrec : Nat) : Con T O := fun args cs => match args, cs with
  | [.raw (.int .i64 a), .raw (.int .i64 b)], [] => chk (decide ((0 ≤ a ∧ a ≤ 9223372036854775807 ∧ 0 ≤ b ∧ b ≤ 9223372036854775807) ∧ (b.toNat) < nrec)) (.ret ⟨some (.tup [.raw (.int .i64 (gcdI a b)), .raw (.int .i64 0)]), []⟩)
  | _, _ => .fail
/-! ### regatta/exact.size -/
def xSizeText (a : Int) : Prop := (match (decide (a < (0 : Int))) with | true => (((a = IntKind.u64.wrap ((0 : Int) - IntKind.u64.wrap a)) ∧ True) ∧ True) | false => (((a = IntKind.u64.wrap a) ∧ True) ∧ True))
theorem xSizeVc (a : Int) : fnX X10 (noAnn) Try.f90 [.raw (.int .i64 a)] [] (ends [] ⟨some (.raw (.int .u64 a)), []⟩) = xSizeText a := by kernel_rfl
theorem xSizeHolds (a : Int) (hp : 0 ≤ a ∧ a ≤ 9223372036854775807) : xSizeText a := by
  unfold xSizeText
  obtain ⟨h0, h1⟩ := hp
  rw [decide_eq_false (show ¬ a < 0 by omega), u64_id h0 (by omega)]
  clear h0 h1
  repeat' first | apply And.intro | exact True.intro | exact rfl
noncomputable def xSizeCon : Con T O := fun args cs => match args, cs with
  | [.raw (.int .i64 a)], [] => chk (decide (0 ≤ a ∧ a ≤ 9223372036854775807)) (.ret ⟨some (.raw (.int .u64 a)), []⟩)
  | _, _ => .fail
theorem xSizeOk : ConOk R Try.prog 90 xSizeCon := con_of_fn R (X10) (TabOk.con R X10Ok) mixed Try.call90 Try.func90 xSizeCon (by
  intro args cs K h
  unfold xSizeCon at h
  split at h
  · rename_i a
    rw [Tree.holds_chk] at h
    obtain ⟨hp, h⟩ := h
    refine ⟨noAnn, _, fun v S hv => ⟨_, h, hv⟩, ?_⟩
    rw [xSizeVc a]
    exact xSizeHolds a (of_decide_eq_true hp)
  · exact h.elim)
/-! ### math/bits.Mul64 -/
def xMul64Text (a b : Int) : Prop := ((((a * b / (18446744073709551616 : Int) = IntKind.u64.wrap (IntKind.u64.wrap (IntKind.u64.wrap (a.fdiv ((2 : Int) ^ min (Int.toNat (32 : Int)) IntKind.u64.bits) * b.fdiv ((2 : Int) ^ min (Int.toNat (32 : Int)) IntKind.u64.bits)) + (IntKind.u64.wrap (IntKind.u64.wrap (a.fdiv ((2 : Int) ^ min (Int.toNat (32 : Int)) IntKind.u64.bits) * bits BinOp.and IntKind.u64 b (4294967295 : Int)) + (IntKind.u64.wrap (bits BinOp.and IntKind.u64 a (4294967295 : Int) * bits BinOp.and IntKind.u64 b (4294967295 : Int))).fdiv ((2 : Int) ^ min (Int.toNat (32 : Int)) IntKind.u64.bits))).fdiv ((2 : Int) ^ min (Int.toNat (32 : Int)) IntKind.u64.bits)) + (IntKind.u64.wrap (bits BinOp.and IntKind.u64 (IntKind.u64.wrap (IntKind.u64.wrap (a.fdiv ((2 : Int) ^ min (Int.toNat (32 : Int)) IntKind.u64.bits) * bits BinOp.and IntKind.u64 b (4294967295 : Int)) + (IntKind.u64.wrap (bits BinOp.and IntKind.u64 a (4294967295 : Int) * bits BinOp.and IntKind.u64 b (4294967295 : Int))).fdiv ((2 : Int) ^ min (Int.toNat (32 : Int)) IntKind.u64.bits))) (4294967295 : Int) + IntKind.u64.wrap (bits BinOp.and IntKind.u64 a (4294967295 : Int) * b.fdiv ((2 : Int) ^ min (Int.toNat (32 : Int)) IntKind.u64.bits)))).fdiv ((2 : Int) ^ min (Int.toNat (32 : Int)) IntKind.u64.bits))) ∧ ((a * b % (18446744073709551616 : Int) = IntKind.u64.wrap (a * b)) ∧ True)) ∧ True) ∧ True)
theorem xMul64Vc (a b : Int) : fnX X10 (noAnn) Try.f89 [.raw (.int .u64 a), .raw (.int .u64 b)] [] (ends [] ⟨some (.tup [.raw (.int .u64 (a * b / 18446744073709551616)), .raw (.int .u64 (a * b % 18446744073709551616))]), []⟩) = xMul64Text a b := by kernel_rfl
theorem xMul64Holds (a b : Int) (hp : 0 ≤ a ∧ a < 18446744073709551616 ∧ 0 ≤ b ∧ b < 18446744073709551616) : xMul64Text a b := by
  unfold xMul64Text
  obtain ⟨h0, h1, h2, h3⟩ := hp
  obtain ⟨a, rfl⟩ := Int.eq_ofNat_of_zero_le h0
  obtain ⟨b, rfl⟩ := Int.eq_ofNat_of_zero_le h2
  obtain ⟨x1, x0, g1, g2, rfl⟩ : ∃ x1 x0, x1 < 4294967296 ∧ x0 < 4294967296 ∧ a = x1 * 4294967296 + x0 := ⟨a / 4294967296, a % 4294967296, by omega, by omega, by omega⟩
  obtain ⟨y1, y0, g3, g4, rfl⟩ : ∃ y1 y0, y1 < 4294967296 ∧ y0 < 4294967296 ∧ b = y1 * 4294967296 + y0 := ⟨b / 4294967296, b % 4294967296, by omega, by omega, by omega⟩
  obtain ⟨k1, k2, k3, k4, k5⟩ := mul64_hi x1 x0 y1 y0 g1 g2 g3 g4
  simp only [shr32, mask32, u64w]
  rw [show ((x1 * 4294967296 + x0 : Nat) : Int) / 4294967296 = (x1 : Int) by omega, show ((x1 * 4294967296 + x0 : Nat) : Int) % 4294967296 = (x0 : Int) by omega, show ((y1 * 4294967296 + y0 : Nat) : Int) / 4294967296 = (y1 : Int) by omega, show ((y1 * 4294967296 + y0 : Nat) : Int) % 4294967296 = (y0 : Int) by omega]
  rw [← Int.natCast_mul, ← Int.natCast_mul, ← Int.natCast_mul, ← Int.natCast_mul, ← Int.natCast_mul]
  have e : (((x1 * 4294967296 + x0) * (y1 * 4294967296 + y0) : Nat) : Int) / 18446744073709551616 = ((x1 * y1 + (x1 * y0 + x0 * y0 / 4294967296) / 4294967296 + ((x1 * y0 + x0 * y0 / 4294967296) % 4294967296 + x0 * y1) / 4294967296 : Nat) : Int) := by rw [k1]; rfl
  rw [e]
  clear e k1 h0 h1 h2 h3
  generalize x0 * y0 = p at *
  generalize x1 * y0 = q at *
  generalize x0 * y1 = r at *
  generalize x1 * y1 = s at *
  refine ⟨⟨⟨?_, ?_⟩, trivial⟩, trivial⟩
  · omega
  · repeat' first | apply And.intro | exact True.intro | exact rfl
noncomputable def xMul64Con : Con T O := fun args cs => match args, cs with
  | [.raw (.int .u64 a), .raw (.int .u64 b)], [] => chk (decide (0 ≤ a ∧ a < 18446744073709551616 ∧ 0 ≤ b ∧ b < 18446744073709551616)) (.ret ⟨some (.tup [.raw (.int .u64 (a * b / 18446744073709551616)), .raw (.int .u64 (a * b % 18446744073709551616))]), []⟩)
  | _, _ => .fail
theorem xMul64Ok : ConOk R Try.prog 89 xMul64Con := con_of_fn R (X10) (TabOk.con R X10Ok) mixed Try.call89 Try.func89 xMul64Con (by
  intro args cs K h
  unfold xMul64Con at h
  split at h
  · rename_i a b
    rw [Tree.holds_chk] at h
    obtain ⟨hp, h⟩ := h
    refine ⟨noAnn, _, fun v S hv => ⟨_, h, hv⟩, ?_⟩
    rw [xMul64Vc a b]
    exact xMul64Holds a b (of_decide_eq_true hp)
  · exact h.elim)
/-! ### regatta/exact.Gcd -/
def xGcdText (a b : Int) : Prop := (match (decide (a < (0 : Int))) with | true => ((((gcdI a b = (0 : Int)) ∧ (((0 : Int) = (1 : Int)) ∧ True)) ∧ True) ∧ True) | false => (match (decide (b < (0 : Int))) with | true => ((((gcdI a b = (0 : Int)) ∧ (((0 : Int) = (1 : Int)) ∧ True)) ∧ True) ∧ True) | false => ((∃ x : Nat × Nat, (((x.fst ≤ (9223372036854775807 : Nat)) ∧ ((x.snd ≤ (9223372036854775807 : Nat)) ∧ (gcdI a b = (↑(x.fst.gcd x.snd) : Int)))) ∧ ((((↑x.fst : Int) = a) ∧ (((↑x.snd : Int) = b) ∧ True)) ∧ True))) ∧ (∀ x : Nat × Nat, (((x.fst ≤ (9223372036854775807 : Nat)) ∧ ((x.snd ≤ (9223372036854775807 : Nat)) ∧ (gcdI a b = (↑(x.fst.gcd x.snd) : Int)))) → (match ((↑x.snd : Int) != (0 : Int)) with | true => (match ((↑x.snd : Int) != (0 : Int)) with | true => (∃ x' : Nat × Nat, (((x'.fst ≤ (9223372036854775807 : Nat)) ∧ ((x'.snd ≤ (9223372036854775807 : Nat)) ∧ (gcdI a b = (↑(x'.fst.gcd x'.snd) : Int)))) ∧ ((x'.snd < x.snd) ∧ ((((↑x'.fst : Int) = (↑x.snd : Int)) ∧ (((↑x'.snd : Int) = (↑x.fst : Int).tmod (↑x.snd : Int)) ∧ True)) ∧ True)))) | false => False) | false => ((((gcdI a b = (↑x.fst : Int)) ∧ (((0 : Int) = (0 : Int)) ∧ True)) ∧ True) ∧ True)))))))
theorem xGcdVc (a b : Int) : fnX X10 (oneLoop 3 { σ := Nat × Nat, st := fun S x => ((S.keep []).int 0 x.1).int 1 x.2, inv := fun _ x => x.1 ≤ 9223372036854775807 ∧ x.2 ≤ 9223372036854775807 ∧ gcdI a b = (Nat.gcd x.1 x.2 : Nat), m := fun x => x.2 }) Try.f68 [.raw (.int .i64 a), .raw (.int .i64 b)] [] (ends [] ⟨some (.tup [.raw (.int .i64 (gcdI a b)), .raw (.int .i64 0)]), []⟩) = xGcdText a b := by kernel_rfl
theorem xGcdHolds (a b : Int) (hp : 0 ≤ a ∧ a ≤ 9223372036854775807 ∧ 0 ≤ b ∧ b ≤ 9223372036854775807) : xGcdText a b := by
  unfold xGcdText
  obtain ⟨h0, h1, h2, h3⟩ := hp
  obtain ⟨a, rfl⟩ := Int.eq_ofNat_of_zero_le h0
  obtain ⟨b, rfl⟩ := Int.eq_ofNat_of_zero_le h2
  rw [decide_eq_false (show ¬ (a : Int) < 0 by omega), decide_eq_false (show ¬ (b : Int) < 0 by omega)]
  refine ⟨⟨(a, b), ⟨by dsimp only; omega, by dsimp only; omega, rfl⟩, by repeat' first | trivial | rfl | apply And.intro⟩, ?_⟩
  rintro ⟨u, v⟩ ⟨i1, i2, i3⟩
  dsimp only at i1 i2 i3 ⊢
  by_cases h : v = 0
  · subst h
    rw [show (((0 : Nat) : Int) != 0) = false from rfl]
    have e : gcdI a b = (u : Int) := by rw [i3, Nat.gcd_zero_right]
    repeat' first | exact e | trivial | rfl | apply And.intro
  · rw [show ((v : Int) != 0) = true by rw [bne_iff_ne]; omega]
    have hm := Nat.mod_lt u (show 0 < v by omega)
    have e2 : ((u % v : Nat) : Int) = (u : Int).tmod (v : Int) := rfl
    refine ⟨(v, u % v), ⟨i2, by dsimp only; omega, ?_⟩, hm, ?_⟩
    · rw [i3]
      dsimp only
      rw [Nat.gcd_comm, Nat.gcd_rec, Nat.gcd_comm]
    · repeat' first | exact e2 | trivial | rfl | apply And.intro
noncomputable def xGcdCon : Con T O := fun args cs => match args, cs with
  | [.raw (.int .i64 a), .raw (.int .i64 b)], [] => chk (decide (0 ≤ a ∧ a ≤ 9223372036854775807 ∧ 0 ≤ b ∧ b ≤ 9223372036854775807)) (.ret ⟨some (.tup [.raw (.int .i64 (gcdI a b)), .raw (.int .i64 0)]), []⟩)
  | _, _ => .fail
theorem xGcdOk : ConOk R Try.prog 68 xGcdCon := con_of_fn R (X10) (TabOk.con R X10Ok) mixed Try.call68 Try.func68 xGcdCon (by
  intro args cs K h
  unfold xGcdCon at h
  split at h
  · rename_i a b
    rw [Tree.holds_chk] at h
    obtain ⟨hp, h⟩ := h
    refine ⟨oneLoop 3 { σ := Nat × Nat, st := fun S x => ((S.keep []).int 0 x.1).int 1 x.2, inv := fun _ x => x.1 ≤ 9223372036854775807 ∧ x.2 ≤ 9223372036854775807 ∧ gcdI a b = (Nat.gcd x.1 x.2 : Nat), m := fun x => x.2 }, _, fun v S hv => ⟨_, h, hv⟩, ?_⟩
    rw [xGcdVc a b]
    exact xGcdHolds a b (of_decide_eq_true hp)
  · exact h.elim)
/-! ### regatta/regattaref01.Gcd -/
def yGcdText (nrec : Nat) (a b : Int) : Prop := (match (decide (a < (0 : Int))) with | true => ((((gcdI a b = (0 : Int)) ∧ (((0 : Int) = (1 : Int)) ∧ True)) ∧ True) ∧ True) | false => (match (decide (b < (0 : Int))) with | true => ((((gcdI a b = (0 : Int)) ∧ (((0 : Int) = (1 : Int)) ∧ True)) ∧ True) ∧ True) | false => (match (b == (0 : Int)) with | true => ((((gcdI a b = a) ∧ (((0 : Int) = (0 : Int)) ∧ True)) ∧ True) ∧ True) | false => (match (b != (0 : Int)) with | true => (match (decide (((0 : Int) ≤ b ∧ b ≤ (9223372036854775807 : Int) ∧ (0 : Int) ≤ a.tmod b ∧ a.tmod b ≤ (9223372036854775807 : Int)) ∧ (a.tmod b).toNat < nrec)) with | true => ((((gcdI a b = gcdI b (a.tmod b)) ∧ (((0 : Int) = (0 : Int)) ∧ True)) ∧ True) ∧ True) | false => False) | false => False))))
theorem yGcdVc (nrec : Nat) (a b : Int) : fnX { X10 with con := conOf ((84, yGcdConN nrec) :: tab10) } (noAnn) Try.f84 [.raw (.int .i64 a), .raw (.int .i64 b)] [] (ends [] ⟨some (.tup [.raw (.int .i64 (gcdI a b)), .raw (.int .i64 0)]), []⟩) = yGcdText nrec a b := by kernel_rfl
theorem yGcdHolds (nrec : Nat) (a b : Int) (hp : 0 ≤ a ∧ a ≤ 9223372036854775807 ∧ 0 ≤ b ∧ b ≤ 9223372036854775807) (hr : b.toNat < nrec + 1) : yGcdText nrec a b := by
  unfold yGcdText
  obtain ⟨h0, h1, h2, h3⟩ := hp
  obtain ⟨a, rfl⟩ := Int.eq_ofNat_of_zero_le h0
  obtain ⟨b, rfl⟩ := Int.eq_ofNat_of_zero_le h2
  rw [Int.toNat_natCast] at hr
  rw [decide_eq_false (show ¬ (a : Int) < 0 by omega), decide_eq_false (show ¬ (b : Int) < 0 by omega)]
  by_cases h : b = 0
  · subst h
    rw [show (((0 : Nat) : Int) == 0) = true from rfl]
    have e : gcdI a ((0 : Nat) : Int) = (a : Int) := by
      show ((Nat.gcd a 0 : Nat) : Int) = _
      rw [Nat.gcd_zero_right]
    repeat' first | exact e | trivial | rfl | apply And.intro
  · have hm := Nat.mod_lt a (show 0 < b by omega)
    rw [show ((b : Int) == 0) = false by rw [beq_eq_false_iff_ne]; omega, show ((b : Int) != 0) = true by rw [bne_iff_ne]; omega, show (a : Int).tmod (b : Int) = ((a % b : Nat) : Int) from rfl, Int.toNat_natCast, decide_eq_true (⟨⟨h2, h3, by omega, by omega⟩, by omega⟩ : (0 ≤ (b : Int) ∧ (b : Int) ≤ 9223372036854775807 ∧ 0 ≤ ((a % b : Nat) : Int) ∧ ((a % b : Nat) : Int) ≤ 9223372036854775807) ∧ a % b < nrec)]
    have e : gcdI a b = gcdI b ((a % b : Nat) : Int) := by
      show ((Nat.gcd a b : Nat) : Int) = ((Nat.gcd b (a % b) : Nat) : Int)
      rw [Nat.gcd_comm, Nat.gcd_rec, Nat.gcd_comm]
    repeat' first | exact e | trivial | rfl | apply And.intro
noncomputable def yGcdCon : Con T O := fun args cs => match args, cs with
  | [.raw (.int .i64 a), .raw (.int .i64 b)], [] => chk (decide (0 ≤ a ∧ a ≤ 9223372036854775807 ∧ 0 ≤ b ∧ b ≤ 9223372036854775807)) (.ret ⟨some (.tup [.raw (.int .i64 (gcdI a b)), .raw (.int .i64 0)]), []⟩)
  | _, _ => .fail
theorem yGcdOkN : ∀ nrec, ConOk R Try.prog 84 (yGcdConN nrec)
  | 0 => by
    intro args cs K h
    exfalso
    unfold yGcdConN at h
    split at h <;> first | exact h.elim | (rw [Tree.holds_chk] at h; exact Nat.not_lt_zero _ (of_decide_eq_true h.1).2)
  | nrec + 1 => con_of_fn R ({ X10 with con := conOf ((84, yGcdConN nrec) :: tab10) }) (TabOk.con R (TabOk.cons R ((yGcdOkN nrec)) X10Ok)) mixed Try.call84 Try.func84 (yGcdConN (nrec + 1)) (by
    intro args cs K h
    unfold yGcdConN at h
    split at h
    · rename_i a b
      rw [Tree.holds_chk] at h
      obtain ⟨hp, h⟩ := h
      obtain ⟨hp, hr⟩ := of_decide_eq_true hp
      refine ⟨noAnn, _, fun v S hv => ⟨_, h, hv⟩, ?_⟩
      rw [yGcdVc nrec a b]
      exact yGcdHolds nrec a b hp hr
    · exact h.elim)
theorem yGcdOk : ConOk R Try.prog 84 yGcdCon := by
  intro args cs K h
  unfold yGcdCon at h
  split at h
  · rename_i a b
    rw [Tree.holds_chk] at h
    refine yGcdOkN (b.toNat + 1) _ _ K ?_
    unfold yGcdConN
    show Tree.holds K (chk _ _)
    rw [Tree.holds_chk]
    exact ⟨decide_eq_true ⟨of_decide_eq_true h.1, Nat.lt_succ_self _⟩, h.2⟩
  · exact h.elim
/-! ### regatta/regattaref01.Mul -/
def yMulText (a b : Int) : Prop := (match (a == (0 : Int)) with | true => ((((mulV a b = (0 : Int)) ∧ ((mulE a b = (0 : Int)) ∧ True)) ∧ True) ∧ True) | false => (match (b == (0 : Int)) with | true => ((((mulV a b = (0 : Int)) ∧ ((mulE a b = (0 : Int)) ∧ True)) ∧ True) ∧ True) | false => (match (decide (a > (0 : Int))) with | true => (match (decide (b > (0 : Int))) with | true => (match (b != (0 : Int)) with | true => (match (decide (a > IntKind.i64.wrap (Int.tdiv (9223372036854775807 : Int) b))) with | true => ((((mulV a b = (0 : Int)) ∧ ((mulE a b = (16 : Int)) ∧ True)) ∧ True) ∧ True) | false => (match (decide (a < (0 : Int))) with | true => (match (decide (b < (0 : Int))) with | true => (match (b != (0 : Int)) with | true => (match (decide (a < IntKind.i64.wrap (Int.tdiv (9223372036854775807 : Int) b))) with | true => ((((mulV a b = (0 : Int)) ∧ ((mulE a b = (16 : Int)) ∧ True)) ∧ True) ∧ True) | false => (match (decide (a > (0 : Int))) with | true => (match (decide (b < (0 : Int))) with | true => (match (a != (0 : Int)) with | true => (match (decide (b < IntKind.i64.wrap ((-9223372036854775808 : Int).tdiv a))) with | true => ((((mulV a b = (0 : Int)) ∧ ((mulE a b = (16 : Int)) ∧ True)) ∧ True) ∧ True) | false => (match (decide (a < (0 : Int))) with | true => (match (decide (b > (0 : Int))) with | true => (match (b != (0 : Int)) with | true => (match (decide (a < IntKind.i64.wrap ((-9223372036854775808 : Int).tdiv b))) with | true => ((((mulV a b = (0 : Int)) ∧ ((mulE a b = (16 : Int)) ∧ True)) ∧ True) ∧ True) | false => ((((mulV a b = IntKind.i64.wrap (a * b)) ∧ ((mulE a b = (0 : Int)) ∧ True)) ∧ True) ∧ True)) | false => False) | false => ((((mulV a b = IntKind.i64.wrap (a * b)) ∧ ((mulE a b = (0 : Int)) ∧ True)) ∧ True) ∧ True)) | false => ((((mulV a b = IntKind.i64.wrap (a * b)) ∧ ((mulE a b = (0 : Int)) ∧ True)) ∧ True) ∧ True))) | false => False) | false => (match (decide (a < (0 : Int))) with | true => (match (decide (b > (0 : Int))) with | true => (match (b != (0 : Int)) with | true => (match (decide (a < IntKind.i64.wrap ((-9223372036854775808 : Int).tdiv b))) with | true => ((((mulV a b = (0 : Int)) ∧ ((mulE a b = (16 : Int)) ∧ True)) ∧ True) ∧ True) | false => ((((mulV a b = IntKind.i64.wrap (a * b)) ∧ ((mulE a b = (0 : Int)) ∧ True)) ∧ True) ∧ True)) | false => False) | false => ((((mulV a b = IntKind.i64.wrap (a * b)) ∧ ((mulE a b = (0 : Int)) ∧ True)) ∧ True) ∧ True)) | false => ((((mulV a b = IntKind.i64.wrap (a * b)) ∧ ((mulE a b = (0 : Int)) ∧ True)) ∧ True) ∧ True))) | false => (match (decide (a < (0 : Int))) with | true => (match (decide (b > (0 : Int))) with | true => (match (b != (0 : Int)) with | true => (match (decide (a < IntKind.i64.wrap ((-9223372036854775808 : Int).tdiv b))) with | true => ((((mulV a b = (0 : Int)) ∧ ((mulE a b = (16 : Int)) ∧ True)) ∧ True) ∧ True) | false => ((((mulV a b = IntKind.i64.wrap (a * b)) ∧ ((mulE a b = (0 : Int)) ∧ True)) ∧ True) ∧ True)) | false => False) | false => ((((mulV a b = IntKind.i64.wrap (a * b)) ∧ ((mulE a b = (0 : Int)) ∧ True)) ∧ True) ∧ True)) | false => ((((mulV a b = IntKind.i64.wrap (a * b)) ∧ ((mulE a b = (0 : Int)) ∧ True)) ∧ True) ∧ True)))) | false => False) | false => (match (decide (a > (0 : Int))) with | true => (match (decide (b < (0 : Int))) with | true => (match (a != (0 : Int)) with | true => (match (decide (b < IntKind.i64.wrap ((-9223372036854775808 : Int).tdiv a))) with | true => ((((mulV a b = (0 : Int)) ∧ ((mulE a b = (16 : Int)) ∧ True)) ∧ True) ∧ True) | false => (match (decide (a < (0 : Int))) with | true => (match (decide (b > (0 : Int))) with | true => (match (b != (0 : Int)) with | true => (match (decide (a < IntKind.i64.wrap ((-9223372036854775808 : Int).tdiv b))) with | true => ((((mulV a b = (0 : Int)) ∧ ((mulE a b = (16 : Int)) ∧ True)) ∧ True) ∧ True) | false => ((((mulV a b = IntKind.i64.wrap (a * b)) ∧ ((mulE a b = (0 : Int)) ∧ True)) ∧ True) ∧ True)) | false => False) | false => ((((mulV a b = IntKind.i64.wrap (a * b)) ∧ ((mulE a b = (0 : Int)) ∧ True)) ∧ True) ∧ True)) | false => ((((mulV a b = IntKind.i64.wrap (a * b)) ∧ ((mulE a b = (0 : Int)) ∧ True)) ∧ True) ∧ True))) | false => False) | false => (match (decide (a < (0 : Int))) with | true => (match (decide (b > (0 : Int))) with | true => (match (b != (0 : Int)) with | true => (match (decide (a < IntKind.i64.wrap ((-9223372036854775808 : Int).tdiv b))) with | true => ((((mulV a b = (0 : Int)) ∧ ((mulE a b = (16 : Int)) ∧ True)) ∧ True) ∧ True) | false => ((((mulV a b = IntKind.i64.wrap (a * b)) ∧ ((mulE a b = (0 : Int)) ∧ True)) ∧ True) ∧ True)) | false => False) | false => ((((mulV a b = IntKind.i64.wrap (a * b)) ∧ ((mulE a b = (0 : Int)) ∧ True)) ∧ True) ∧ True)) | false => ((((mulV a b = IntKind.i64.wrap (a * b)) ∧ ((mulE a b = (0 : Int)) ∧ True)) ∧ True) ∧ True))) | false => (match (decide (a < (0 : Int))) with | true => (match (decide (b > (0 : Int))) with | true => (match (b != (0 : Int)) with | true => (match (decide (a < IntKind.i64.wrap ((-9223372036854775808 : Int).tdiv b))) with | true => ((((mulV a b = (0 : Int)) ∧ ((mulE a b = (16 : Int)) ∧ True)) ∧ True) ∧ True) | false => ((((mulV a b = IntKind.i64.wrap (a * b)) ∧ ((mulE a b = (0 : Int)) ∧ True)) ∧ True) ∧ True)) | false => False) | false => ((((mulV a b = IntKind.i64.wrap (a * b)) ∧ ((mulE a b = (0 : Int)) ∧ True)) ∧ True) ∧ True)) | false => ((((mulV a b = IntKind.i64.wrap (a * b)) ∧ ((mulE a b = (0 : Int)) ∧ True)) ∧ True) ∧ True)))) | false => (match (decide (a > (0 : Int))) with | true => (match (decide (b < (0 : Int))) with | true => (match (a != (0 : Int)) with | true => (match (decide (b < IntKind.i64.wrap ((-9223372036854775808 : Int).tdiv a))) with | true => ((((mulV a b = (0 : Int)) ∧ ((mulE a b = (16 : Int)) ∧ True)) ∧ True) ∧ True) | false => (match (decide (a < (0 : Int))) with | true => (match (decide (b > (0 : Int))) with | true => (match (b != (0 : Int)) with | true => (match (decide (a < IntKind.i64.wrap ((-9223372036854775808 : Int).tdiv b))) with | true => ((((mulV a b = (0 : Int)) ∧ ((mulE a b = (16 : Int)) ∧ True)) ∧ True) ∧ True) | false => ((((mulV a b = IntKind.i64.wrap (a * b)) ∧ ((mulE a b = (0 : Int)) ∧ True)) ∧ True) ∧ True)) | false => False) | false => ((((mulV a b = IntKind.i64.wrap (a * b)) ∧ ((mulE a b = (0 : Int)) ∧ True)) ∧ True) ∧ True)) | false => ((((mulV a b = IntKind.i64.wrap (a * b)) ∧ ((mulE a b = (0 : Int)) ∧ True)) ∧ True) ∧ True))) | false => False) | false => (match (decide (a < (0 : Int))) with | true => (match (decide (b > (0 : Int))) with | true => (match (b != (0 : Int)) with | true => (match (decide (a < IntKind.i64.wrap ((-9223372036854775808 : Int).tdiv b))) with | true => ((((mulV a b = (0 : Int)) ∧ ((mulE a b = (16 : Int)) ∧ True)) ∧ True) ∧ True) | false => ((((mulV a b = IntKind.i64.wrap (a * b)) ∧ ((mulE a b = (0 : Int)) ∧ True)) ∧ True) ∧ True)) | false => False) | false => ((((mulV a b = IntKind.i64.wrap (a * b)) ∧ ((mulE a b = (0 : Int)) ∧ True)) ∧ True) ∧ True)) | false => ((((mulV a b = IntKind.i64.wrap (a * b)) ∧ ((mulE a b = (0 : Int)) ∧ True)) ∧ True) ∧ True))) | false => (match (decide (a < (0 : Int))) with | true => (match (decide (b > (0 : Int))) with | true => (match (b != (0 : Int)) with | true => (match (decide (a < IntKind.i64.wrap ((-9223372036854775808 : Int).tdiv b))) with | true => ((((mulV a b = (0 : Int)) ∧ ((mulE a b = (16 : Int)) ∧ True)) ∧ True) ∧ True) | false => ((((mulV a b = IntKind.i64.wrap (a * b)) ∧ ((mulE a b = (0 : Int)) ∧ True)) ∧ True) ∧ True)) | false => False) | false => ((((mulV a b = IntKind.i64.wrap (a * b)) ∧ ((mulE a b = (0 : Int)) ∧ True)) ∧ True) ∧ True)) | false => ((((mulV a b = IntKind.i64.wrap (a * b)) ∧ ((mulE a b = (0 : Int)) ∧ True)) ∧ True) ∧ True))))) | false => False) | false => (match (decide (a < (0 : Int))) with | true => (match (decide (b < (0 : Int))) with | true => (match (b != (0 : Int)) with | true => (match (decide (a < IntKind.i64.wrap (Int.tdiv (9223372036854775807 : Int) b))) with | true => ((((mulV a b = (0 : Int)) ∧ ((mulE a b = (16 : Int)) ∧ True)) ∧ True) ∧ True) | false => (match (decide (a > (0 : Int))) with | true => (match (decide (b < (0 : Int))) with | true => (match (a != (0 : Int)) with | true => (match (decide (b < IntKind.i64.wrap ((-9223372036854775808 : Int).tdiv a))) with | true => ((((mulV a b = (0 : Int)) ∧ ((mulE a b = (16 : Int)) ∧ True)) ∧ True) ∧ True) | false => (match (decide (a < (0 : Int))) with | true => (match (decide (b > (0 : Int))) with | true => (match (b != (0 : Int)) with | true => (match (decide (a < IntKind.i64.wrap ((-9223372036854775808 : Int).tdiv b))) with | true => ((((mulV a b = (0 : Int)) ∧ ((mulE a b = (16 : Int)) ∧ True)) ∧ True) ∧ True) | false => ((((mulV a b = IntKind.i64.wrap (a * b)) ∧ ((mulE a b = (0 : Int)) ∧ True)) ∧ True) ∧ True)) | false => False) | false => ((((mulV a b = IntKind.i64.wrap (a * b)) ∧ ((mulE a b = (0 : Int)) ∧ True)) ∧ True) ∧ True)) | false => ((((mulV a b = IntKind.i64.wrap (a * b)) ∧ ((mulE a b = (0 : Int)) ∧ True)) ∧ True) ∧ True))) | false => False) | false => (match (decide (a < (0 : Int))) with | true => (match (decide (b > (0 : Int))) with | true => (match (b != (0 : Int)) with | true => (match (decide (a < IntKind.i64.wrap ((-9223372036854775808 : Int).tdiv b))) with | true => ((((mulV a b = (0 : Int)) ∧ ((mulE a b = (16 : Int)) ∧ True)) ∧ True) ∧ True) | false => ((((mulV a b = IntKind.i64.wrap (a * b)) ∧ ((mulE a b = (0 : Int)) ∧ True)) ∧ True) ∧ True)) | false => False) | false => ((((mulV a b = IntKind.i64.wrap (a * b)) ∧ ((mulE a b = (0 : Int)) ∧ True)) ∧ True) ∧ True)) | false => ((((mulV a b = IntKind.i64.wrap (a * b)) ∧ ((mulE a b = (0 : Int)) ∧ True)) ∧ True) ∧ True))) | false => (match (decide (a < (0 : Int))) with | true => (match (decide (b > (0 : Int))) with | true => (match (b != (0 : Int)) with | true => (match (decide (a < IntKind.i64.wrap ((-9223372036854775808 : Int).tdiv b))) with | true => ((((mulV a b = (0 : Int)) ∧ ((mulE a b = (16 : Int)) ∧ True)) ∧ True) ∧ True) | false => ((((mulV a b = IntKind.i64.wrap (a * b)) ∧ ((mulE a b = (0 : Int)) ∧ True)) ∧ True) ∧ True)) | false => False) | false => ((((mulV a b = IntKind.i64.wrap (a * b)) ∧ ((mulE a b = (0 : Int)) ∧ True)) ∧ True) ∧ True)) | false => ((((mulV a b = IntKind.i64.wrap (a * b)) ∧ ((mulE a b = (0 : Int)) ∧ True)) ∧ True) ∧ True)))) | false => False) | false => (match (decide (a > (0 : Int))) with | true => (match (decide (b < (0 : Int))) with | true => (match (a != (0 : Int)) with | true => (match (decide (b < IntKind.i64.wrap ((-9223372036854775808 : Int).tdiv a))) with | true => ((((mulV a b = (0 : Int)) ∧ ((mulE a b = (16 : Int)) ∧ True)) ∧ True) ∧ True) | false => (match (decide (a < (0 : Int))) with | true => (match (decide (b > (0 : Int))) with | true => (match (b != (0 : Int)) with | true => (match (decide (a < IntKind.i64.wrap ((-9223372036854775808 : Int).tdiv b))) with | true => ((((mulV a b = (0 : Int)) ∧ ((mulE a b = (16 : Int)) ∧ True)) ∧ True) ∧ True) | false => ((((mulV a b = IntKind.i64.wrap (a * b)) ∧ ((mulE a b = (0 : Int)) ∧ True)) ∧ True) ∧ True)) | false => False) | false => ((((mulV a b = IntKind.i64.wrap (a * b)) ∧ ((mulE a b = (0 : Int)) ∧ True)) ∧ True) ∧ True)) | false => ((((mulV a b = IntKind.i64.wrap (a * b)) ∧ ((mulE a b = (0 : Int)) ∧ True)) ∧ True) ∧ True))) | false => False) | false => (match (decide (a < (0 : Int))) with | true => (match (decide (b > (0 : Int))) with | true => (match (b != (0 : Int)) with | true => (match (decide (a < IntKind.i64.wrap ((-9223372036854775808 : Int).tdiv b))) with | true => ((((mulV a b = (0 : Int)) ∧ ((mulE a b = (16 : Int)) ∧ True)) ∧ True) ∧ True) | false => ((((mulV a b = IntKind.i64.wrap (a * b)) ∧ ((mulE a b = (0 : Int)) ∧ True)) ∧ True) ∧ True)) | false => False) | false => ((((mulV a b = IntKind.i64.wrap (a * b)) ∧ ((mulE a b = (0 : Int)) ∧ True)) ∧ True) ∧ True)) | false => ((((mulV a b = IntKind.i64.wrap (a * b)) ∧ ((mulE a b = (0 : Int)) ∧ True)) ∧ True) ∧ True))) | false => (match (decide (a < (0 : Int))) with | true => (match (decide (b > (0 : Int))) with | true => (match (b != (0 : Int)) with | true => (match (decide (a < IntKind.i64.wrap ((-9223372036854775808 : Int).tdiv b))) with | true => ((((mulV a b = (0 : Int)) ∧ ((mulE a b = (16 : Int)) ∧ True)) ∧ True) ∧ True) | false => ((((mulV a b = IntKind.i64.wrap (a * b)) ∧ ((mulE a b = (0 : Int)) ∧ True)) ∧ True) ∧ True)) | false => False) | false => ((((mulV a b = IntKind.i64.wrap (a * b)) ∧ ((mulE a b = (0 : Int)) ∧ True)) ∧ True) ∧ True)) | false => ((((mulV a b = IntKind.i64.wrap (a * b)) ∧ ((mulE a b = (0 : Int)) ∧ True)) ∧ True) ∧ True)))) | false => (match (decide (a > (0 : Int))) with | true => (match (decide (b < (0 : Int))) with | true => (match (a != (0 : Int)) with | true => (match (decide (b < IntKind.i64.wrap ((-9223372036854775808 : Int).tdiv a))) with | true => ((((mulV a b = (0 : Int)) ∧ ((mulE a b = (16 : Int)) ∧ True)) ∧ True) ∧ True) | false => (match (decide (a < (0 : Int))) with | true => (match (decide (b > (0 : Int))) with | true => (match (b != (0 : Int)) with | true => (match (decide (a < IntKind.i64.wrap ((-9223372036854775808 : Int).tdiv b))) with | true => ((((mulV a b = (0 : Int)) ∧ ((mulE a b = (16 : Int)) ∧ True)) ∧ True) ∧ True) | false => ((((mulV a b = IntKind.i64.wrap (a * b)) ∧ ((mulE a b = (0 : Int)) ∧ True)) ∧ True) ∧ True)) | false => False) | false => ((((mulV a b = IntKind.i64.wrap (a * b)) ∧ ((mulE a b = (0 : Int)) ∧ True)) ∧ True) ∧ True)) | false => ((((mulV a b = IntKind.i64.wrap (a * b)) ∧ ((mulE a b = (0 : Int)) ∧ True)) ∧ True) ∧ True))) | false => False) | false => (match (decide (a < (0 : Int))) with | true => (match (decide (b > (0 : Int))) with | true => (match (b != (0 : Int)) with | true => (match (decide (a < IntKind.i64.wrap ((-9223372036854775808 : Int).tdiv b))) with | true => ((((mulV a b = (0 : Int)) ∧ ((mulE a b = (16 : Int)) ∧ True)) ∧ True) ∧ True) | false => ((((mulV a b = IntKind.i64.wrap (a * b)) ∧ ((mulE a b = (0 : Int)) ∧ True)) ∧ True) ∧ True)) | false => False) | false => ((((mulV a b = IntKind.i64.wrap (a * b)) ∧ ((mulE a b = (0 : Int)) ∧ True)) ∧ True) ∧ True)) | false => ((((mulV a b = IntKind.i64.wrap (a * b)) ∧ ((mulE a b = (0 : Int)) ∧ True)) ∧ True) ∧ True))) | false => (match (decide (a < (0 : Int))) with | true => (match (decide (b > (0 : Int))) with | true => (match (b != (0 : Int)) with | true => (match (decide (a < IntKind.i64.wrap ((-9223372036854775808 : Int).tdiv b))) with | true => ((((mulV a b = (0 : Int)) ∧ ((mulE a b = (16 : Int)) ∧ True)) ∧ True) ∧ True) | false => ((((mulV a b = IntKind.i64.wrap (a * b)) ∧ ((mulE a b = (0 : Int)) ∧ True)) ∧ True) ∧ True)) | false => False) | false => ((((mulV a b = IntKind.i64.wrap (a * b)) ∧ ((mulE a b = (0 : Int)) ∧ True)) ∧ True) ∧ True)) | false => ((((mulV a b = IntKind.i64.wrap (a * b)) ∧ ((mulE a b = (0 : Int)) ∧ True)) ∧ True) ∧ True))))) | false => (match (decide (a < (0 : Int))) with | true => (match (decide (b < (0 : Int))) with | true => (match (b != (0 : Int)) with | true => (match (decide (a < IntKind.i64.wrap (Int.tdiv (9223372036854775807 : Int) b))) with | true => ((((mulV a b = (0 : Int)) ∧ ((mulE a b = (16 : Int)) ∧ True)) ∧ True) ∧ True) | false => (match (decide (a > (0 : Int))) with | true => (match (decide (b < (0 : Int))) with | true => (match (a != (0 : Int)) with | true => (match (decide (b < IntKind.i64.wrap ((-9223372036854775808 : Int).tdiv a))) with | true => ((((mulV a b = (0 : Int)) ∧ ((mulE a b = (16 : Int)) ∧ True)) ∧ True) ∧ True) | false => (match (decide (a < (0 : Int))) with | true => (match (decide (b > (0 : Int))) with | true => (match (b != (0 : Int)) with | true => (match (decide (a < IntKind.i64.wrap ((-9223372036854775808 : Int).tdiv b))) with | true => ((((mulV a b = (0 : Int)) ∧ ((mulE a b = (16 : Int)) ∧ True)) ∧ True) ∧ True) | false => ((((mulV a b = IntKind.i64.wrap (a * b)) ∧ ((mulE a b = (0 : Int)) ∧ True)) ∧ True) ∧ True)) | false => False) | false => ((((mulV a b = IntKind.i64.wrap (a * b)) ∧ ((mulE a b = (0 : Int)) ∧ True)) ∧ True) ∧ True)) | false => ((((mulV a b = IntKind.i64.wrap (a * b)) ∧ ((mulE a b = (0 : Int)) ∧ True)) ∧ True) ∧ True))) | false => False) | false => (match (decide (a < (0 : Int))) with | true => (match (decide (b > (0 : Int))) with | true => (match (b != (0 : Int)) with | true => (match (decide (a < IntKind.i64.wrap ((-9223372036854775808 : Int).tdiv b))) with | true => ((((mulV a b = (0 : Int)) ∧ ((mulE a b = (16 : Int)) ∧ True)) ∧ True) ∧ True) | false => ((((mulV a b = IntKind.i64.wrap (a * b)) ∧ ((mulE a b = (0 : Int)) ∧ True)) ∧ True) ∧ True)) | false => False) | false => ((((mulV a b = IntKind.i64.wrap (a * b)) ∧ ((mulE a b = (0 : Int)) ∧ True)) ∧ True) ∧ True)) | false => ((((mulV a b = IntKind.i64.wrap (a * b)) ∧ ((mulE a b = (0 : Int)) ∧ True)) ∧ True) ∧ True))) | false => (match (decide (a < (0 : Int))) with | true => (match (decide (b > (0 : Int))) with | true => (match (b != (0 : Int)) with | true => (match (decide (a < IntKind.i64.wrap ((-9223372036854775808 : Int).tdiv b))) with | true => ((((mulV a b = (0 : Int)) ∧ ((mulE a b = (16 : Int)) ∧ True)) ∧ True) ∧ True) | false => ((((mulV a b = IntKind.i64.wrap (a * b)) ∧ ((mulE a b = (0 : Int)) ∧ True)) ∧ True) ∧ True)) | false => False) | false => ((((mulV a b = IntKind.i64.wrap (a * b)) ∧ ((mulE a b = (0 : Int)) ∧ True)) ∧ True) ∧ True)) | false => ((((mulV a b = IntKind.i64.wrap (a * b)) ∧ ((mulE a b = (0 : Int)) ∧ True)) ∧ True) ∧ True)))) | false => False) | false => (match (decide (a > (0 : Int))) with | true => (match (decide (b < (0 : Int))) with | true => (match (a != (0 : Int)) with | true => (match (decide (b < IntKind.i64.wrap ((-9223372036854775808 : Int).tdiv a))) with | true => ((((mulV a b = (0 : Int)) ∧ ((mulE a b = (16 : Int)) ∧ True)) ∧ True) ∧ True) | false => (match (decide (a < (0 : Int))) with | true => (match (decide (b > (0 : Int))) with | true => (match (b != (0 : Int)) with | true => (match (decide (a < IntKind.i64.wrap ((-9223372036854775808 : Int).tdiv b))) with | true => ((((mulV a b = (0 : Int)) ∧ ((mulE a b = (16 : Int)) ∧ True)) ∧ True) ∧ True) | false => ((((mulV a b = IntKind.i64.wrap (a * b)) ∧ ((mulE a b = (0 : Int)) ∧ True)) ∧ True) ∧ True)) | false => False) | false => ((((mulV a b = IntKind.i64.wrap (a * b)) ∧ ((mulE a b = (0 : Int)) ∧ True)) ∧ True) ∧ True)) | false => ((((mulV a b = IntKind.i64.wrap (a * b)) ∧ ((mulE a b = (0 : Int)) ∧ True)) ∧ True) ∧ True))) | false => False) | false => (match (decide (a < (0 : Int))) with | true => (match (decide (b > (0 : Int))) with | true => (match (b != (0 : Int)) with | true => (match (decide (a < IntKind.i64.wrap ((-9223372036854775808 : Int).tdiv b))) with | true => ((((mulV a b = (0 : Int)) ∧ ((mulE a b = (16 : Int)) ∧ True)) ∧ True) ∧ True) | false => ((((mulV a b = IntKind.i64.wrap (a * b)) ∧ ((mulE a b = (0 : Int)) ∧ True)) ∧ True) ∧ True)) | false => False) | false => ((((mulV a b = IntKind.i64.wrap (a * b)) ∧ ((mulE a b = (0 : Int)) ∧ True)) ∧ True) ∧ True)) | false => ((((mulV a b = IntKind.i64.wrap (a * b)) ∧ ((mulE a b = (0 : Int)) ∧ True)) ∧ True) ∧ True))) | false => (match (decide (a < (0 : Int))) with | true => (match (decide (b > (0 : Int))) with | true => (match (b != (0 : Int)) with | true => (match (decide (a < IntKind.i64.wrap ((-9223372036854775808 : Int).tdiv b))) with | true => ((((mulV a b = (0 : Int)) ∧ ((mulE a b = (16 : Int)) ∧ True)) ∧ True) ∧ True) | false => ((((mulV a b = IntKind.i64.wrap (a * b)) ∧ ((mulE a b = (0 : Int)) ∧ True)) ∧ True) ∧ True)) | false => False) | false => ((((mulV a b = IntKind.i64.wrap (a * b)) ∧ ((mulE a b = (0 : Int)) ∧ True)) ∧ True) ∧ True)) | false => ((((mulV a b = IntKind.i64.wrap (a * b)) ∧ ((mulE a b = (0 : Int)) ∧ True)) ∧ True) ∧ True)))) | false => (match (decide (a > (0 : Int))) with | true => (match (decide (b < (0 : Int))) with | true => (match (a != (0 : Int)) with | true => (match (decide (b < IntKind.i64.wrap ((-9223372036854775808 : Int).tdiv a))) with | true => ((((mulV a b = (0 : Int)) ∧ ((mulE a b = (16 : Int)) ∧ True)) ∧ True) ∧ True) | false => (match (decide (a < (0 : Int))) with | true => (match (decide (b > (0 : Int))) with | true => (match (b != (0 : Int)) with | true => (match (decide (a < IntKind.i64.wrap ((-9223372036854775808 : Int).tdiv b))) with | true => ((((mulV a b = (0 : Int)) ∧ ((mulE a b = (16 : Int)) ∧ True)) ∧ True) ∧ True) | false => ((((mulV a b = IntKind.i64.wrap (a * b)) ∧ ((mulE a b = (0 : Int)) ∧ True)) ∧ True) ∧ True)) | false => False) | false => ((((mulV a b = IntKind.i64.wrap (a * b)) ∧ ((mulE a b = (0 : Int)) ∧ True)) ∧ True) ∧ True)) | false => ((((mulV a b = IntKind.i64.wrap (a * b)) ∧ ((mulE a b = (0 : Int)) ∧ True)) ∧ True) ∧ True))) | false => False) | false => (match (decide (a < (0 : Int))) with | true => (match (decide (b > (0 : Int))) with | true => (match (b != (0 : Int)) with | true => (match (decide (a < IntKind.i64.wrap ((-9223372036854775808 : Int).tdiv b))) with | true => ((((mulV a b = (0 : Int)) ∧ ((mulE a b = (16 : Int)) ∧ True)) ∧ True) ∧ True) | false => ((((mulV a b = IntKind.i64.wrap (a * b)) ∧ ((mulE a b = (0 : Int)) ∧ True)) ∧ True) ∧ True)) | false => False) | false => ((((mulV a b = IntKind.i64.wrap (a * b)) ∧ ((mulE a b = (0 : Int)) ∧ True)) ∧ True) ∧ True)) | false => ((((mulV a b = IntKind.i64.wrap (a * b)) ∧ ((mulE a b = (0 : Int)) ∧ True)) ∧ True) ∧ True))) | false => (match (decide (a < (0 : Int))) with | true => (match (decide (b > (0 : Int))) with | true => (match (b != (0 : Int)) with | true => (match (decide (a < IntKind.i64.wrap ((-9223372036854775808 : Int).tdiv b))) with | true => ((((mulV a b = (0 : Int)) ∧ ((mulE a b = (16 : Int)) ∧ True)) ∧ True) ∧ True) | false => ((((mulV a b = IntKind.i64.wrap (a * b)) ∧ ((mulE a b = (0 : Int)) ∧ True)) ∧ True) ∧ True)) | false => False) | false => ((((mulV a b = IntKind.i64.wrap (a * b)) ∧ ((mulE a b = (0 : Int)) ∧ True)) ∧ True) ∧ True)) | false => ((((mulV a b = IntKind.i64.wrap (a * b)) ∧ ((mulE a b = (0 : Int)) ∧ True)) ∧ True) ∧ True)))))))
theorem yMulVc (a b : Int) : fnX X10 (noAnn) Try.f85 [.raw (.int .i64 a), .raw (.int .i64 b)] [] (ends [] ⟨some (.tup [.raw (.int .i64 (mulV a b)), .raw (.int .i64 (mulE a b))]), []⟩) = yMulText a b := by kernel_rfl
theorem yMulHolds (a b : Int) (hp : 0 ≤ a ∧ a ≤ 9223372036854775807 ∧ 0 ≤ b ∧ b ≤ 9223372036854775807) : yMulText a b := by
  unfold yMulText
  obtain ⟨h0, h1, h2, h3⟩ := hp
  by_cases ha : a = 0
  · subst ha
    have e1 : mulV 0 b = 0 := by unfold mulV; rw [Int.zero_mul]; rfl
    have e2 : mulE 0 b = 0 := by unfold mulE; rw [Int.zero_mul]; rfl
    rw [show ((0 : Int) == 0) = true from rfl]
    repeat' first | exact e1 | exact e2 | trivial | rfl | apply And.intro
  by_cases hb : b = 0
  · subst hb
    have e1 : mulV a 0 = 0 := by unfold mulV; rw [Int.mul_zero]; rfl
    have e2 : mulE a 0 = 0 := by unfold mulE; rw [Int.mul_zero]; rfl
    rw [show (a == 0) = false from beq_eq_false_iff_ne.2 ha, show ((0 : Int) == 0) = true from rfl]
    repeat' first | exact e1 | exact e2 | trivial | rfl | apply And.intro
  have hq := Int.ediv_lt_iff_lt_mul (a := 9223372036854775807) (b := a) (show 0 < b by omega)
  have hq0 : 0 ≤ (9223372036854775807 : Int) / b := Int.ediv_nonneg (by omega) (by omega)
  have hq1 : (9223372036854775807 : Int) / b ≤ 9223372036854775807 := Int.ediv_le_self _ (by omega)
  have hm := Int.mul_nonneg h0 h2
  rw [show (a == 0) = false from beq_eq_false_iff_ne.2 ha, show (b == 0) = false from beq_eq_false_iff_ne.2 hb, show decide (a > 0) = true from decide_eq_true (by omega), show decide (b > 0) = true from decide_eq_true (by omega), show (b != 0) = true from bne_iff_ne.2 hb, Int.tdiv_eq_ediv_of_nonneg (show (0 : Int) ≤ 9223372036854775807 by omega), wrap_id (n := 9223372036854775807 / b) (by omega) (by omega), show decide (a < 0) = false from decide_eq_false (by omega), show decide (b < 0) = false from decide_eq_false (by omega)]
  by_cases h : a * b ≤ 9223372036854775807
  · rw [show decide (a > 9223372036854775807 / b) = false from decide_eq_false (fun g => by have := hq.1 g; omega)]
    have e1 : mulV a b = IntKind.i64.wrap (a * b) := by unfold mulV; rw [decide_eq_true h, wrap_id (by omega) h]; rfl
    have e2 : mulE a b = 0 := by unfold mulE; rw [decide_eq_true h]; rfl
    repeat' first | exact e1 | exact e2 | trivial | rfl | apply And.intro
  · rw [show decide (a > 9223372036854775807 / b) = true from decide_eq_true (hq.2 (by omega))]
    have e1 : mulV a b = 0 := by unfold mulV; rw [decide_eq_false h]; rfl
    have e2 : mulE a b = 16 := by unfold mulE; rw [decide_eq_false h]; rfl
    repeat' first | exact e1 | exact e2 | trivial | rfl | apply And.intro
noncomputable def yMulCon : Con T O := fun args cs => match args, cs with
  | [.raw (.int .i64 a), .raw (.int .i64 b)], [] => chk (decide (0 ≤ a ∧ a ≤ 9223372036854775807 ∧ 0 ≤ b ∧ b ≤ 9223372036854775807)) (.ret ⟨some (.tup [.raw (.int .i64 (mulV a b)), .raw (.int .i64 (mulE a b))]), []⟩)
  | _, _ => .fail
theorem yMulOk : ConOk R Try.prog 85 yMulCon := con_of_fn R (X10) (TabOk.con R X10Ok) mixed Try.call85 Try.func85 yMulCon (by
  intro args cs K h
  unfold yMulCon at h
  split at h
  · rename_i a b
    rw [Tree.holds_chk] at h
    obtain ⟨hp, h⟩ := h
    refine ⟨noAnn, _, fun v S hv => ⟨_, h, hv⟩, ?_⟩
    rw [yMulVc a b]
    exact yMulHolds a b (of_decide_eq_true hp)
  · exact h.elim)
noncomputable def tab11 : Tab T O := (90, xSizeCon) :: (89, xMul64Con) :: (68, xGcdCon) :: (84, yGcdCon) :: (85, yMulCon) :: tab10
theorem tabOk11 : TabOk R Try.prog tab11 := TabOk.cons R xSizeOk <| TabOk.cons R xMul64Ok <| TabOk.cons R xGcdOk <| TabOk.cons R yGcdOk <| TabOk.cons R yMulOk <| tabOk10
noncomputable def X11 : Ctx T O := { X0 with con := conOf tab11 }
theorem X11Ok : TabOk R X11.P tab11 := tabOk11
end Go.Proofs.Ytmnnjclnldaejaa

namespace Go.Proofs.Ytmnnjclnldaejaa
open Go.Sx Go.Proofs Classical
/-! ### regatta/exact.Mul -/
def xMulText (a b : Int) : Prop := (match (decide ((0 : Int) ≤ a ∧ a ≤ (9223372036854775807 : Int))) with | true => (match (decide ((0 : Int) ≤ b ∧ b ≤ (9223372036854775807 : Int))) with | true => (match (decide ((0 : Int) ≤ a ∧ a < (18446744073709551616 : Int) ∧ (0 : Int) ≤ b ∧ b < (18446744073709551616 : Int))) with | true => (match (decide (a < (0 : Int)) != decide (b < (0 : Int))) with | true => (match (a * b / (18446744073709551616 : Int) != (0 : Int)) with | true => ((((mulV a b = (0 : Int)) ∧ ((mulE a b = (16 : Int)) ∧ True)) ∧ True) ∧ True) | false => (match (decide (a * b % (18446744073709551616 : Int) > IntKind.u64.wrap ((9223372036854775807 : Int) + (1 : Int)))) with | true => ((((mulV a b = (0 : Int)) ∧ ((mulE a b = (16 : Int)) ∧ True)) ∧ True) ∧ True) | false => (match (decide (a < (0 : Int)) != decide (b < (0 : Int))) with | true => ((((mulV a b = IntKind.i64.wrap (IntKind.u64.wrap ((0 : Int) - a * b % (18446744073709551616 : Int)))) ∧ ((mulE a b = (0 : Int)) ∧ True)) ∧ True) ∧ True) | false => ((((mulV a b = IntKind.i64.wrap (a * b % (18446744073709551616 : Int))) ∧ ((mulE a b = (0 : Int)) ∧ True)) ∧ True) ∧ True)))) | false => (match (a * b / (18446744073709551616 : Int) != (0 : Int)) with | true => ((((mulV a b = (0 : Int)) ∧ ((mulE a b = (16 : Int)) ∧ True)) ∧ True) ∧ True) | false => (match (decide (a * b % (18446744073709551616 : Int) > (9223372036854775807 : Int))) with | true => ((((mulV a b = (0 : Int)) ∧ ((mulE a b = (16 : Int)) ∧ True)) ∧ True) ∧ True) | false => (match (decide (a < (0 : Int)) != decide (b < (0 : Int))) with | true => ((((mulV a b = IntKind.i64.wrap (IntKind.u64.wrap ((0 : Int) - a * b % (18446744073709551616 : Int)))) ∧ ((mulE a b = (0 : Int)) ∧ True)) ∧ True) ∧ True) | false => ((((mulV a b = IntKind.i64.wrap (a * b % (18446744073709551616 : Int))) ∧ ((mulE a b = (0 : Int)) ∧ True)) ∧ True) ∧ True))))) | false => False) | false => False) | false => False)
theorem xMulVc (a b : Int) : fnX X11 (noAnn) Try.f69 [.raw (.int .i64 a), .raw (.int .i64 b)] [] (ends [] ⟨some (.tup [.raw (.int .i64 (mulV a b)), .raw (.int .i64 (mulE a b))]), []⟩) = xMulText a b := by kernel_rfl
theorem xMulHolds (a b : Int) (hp : 0 ≤ a ∧ a ≤ 9223372036854775807 ∧ 0 ≤ b ∧ b ≤ 9223372036854775807) : xMulText a b := by
  unfold xMulText
  obtain ⟨h0, h1, h2, h3⟩ := hp
  have hm := Int.mul_nonneg h0 h2
  rw [decide_eq_true (⟨h0, h1⟩ : 0 ≤ a ∧ a ≤ 9223372036854775807), decide_eq_true (⟨h2, h3⟩ : 0 ≤ b ∧ b ≤ 9223372036854775807), decide_eq_true (show 0 ≤ a ∧ a < 18446744073709551616 ∧ 0 ≤ b ∧ b < 18446744073709551616 by omega), show decide (a < 0) = false from decide_eq_false (by omega), show decide (b < 0) = false from decide_eq_false (by omega), show (false != false) = false from rfl]
  by_cases h : a * b ≤ 9223372036854775807
  · obtain ⟨e1, e2⟩ := mulE_ok h
    rw [e1, e2]
    generalize a * b = p at *
    have e3 : p = IntKind.i64.wrap (p % 18446744073709551616) := by rw [wrap_id (by omega) (by omega)]; omega
    rw [show (p / 18446744073709551616 != 0) = false by rw [bne_eq_false_iff_eq]; omega, show decide (p % 18446744073709551616 > 9223372036854775807) = false from decide_eq_false (by omega)]
    repeat' first | apply And.intro | exact e3 | exact True.intro | exact rfl
  · obtain ⟨e1, e2⟩ := mulE_no h
    rw [e1, e2]
    generalize a * b = p at *
    by_cases g : p / 18446744073709551616 = 0
    · rw [show (p / 18446744073709551616 != 0) = false by rw [bne_eq_false_iff_eq]; exact g, show decide (p % 18446744073709551616 > 9223372036854775807) = true from decide_eq_true (by omega)]
      repeat' first | apply And.intro | exact True.intro | exact rfl
    · rw [show (p / 18446744073709551616 != 0) = true from bne_iff_ne.2 g]
      repeat' first | apply And.intro | exact True.intro | exact rfl
noncomputable def xMulCon : Con T O := fun args cs => match args, cs with
  | [.raw (.int .i64 a), .raw (.int .i64 b)], [] => chk (decide (0 ≤ a ∧ a ≤ 9223372036854775807 ∧ 0 ≤ b ∧ b ≤ 9223372036854775807)) (.ret ⟨some (.tup [.raw (.int .i64 (mulV a b)), .raw (.int .i64 (mulE a b))]), []⟩)
  | _, _ => .fail
theorem xMulOk : ConOk R Try.prog 69 xMulCon := con_of_fn R (X11) (TabOk.con R X11Ok) mixed Try.call69 Try.func69 xMulCon (by
  intro args cs K h
  unfold xMulCon at h
  split at h
  · rename_i a b
    rw [Tree.holds_chk] at h
    obtain ⟨hp, h⟩ := h
    refine ⟨noAnn, _, fun v S hv => ⟨_, h, hv⟩, ?_⟩
    rw [xMulVc a b]
    exact xMulHolds a b (of_decide_eq_true hp)
  · exact h.elim)
/-! ### regatta/regattaref01.Lcm -/
def yLcmK0Text (L : List Int) : Prop := ((∃ x : Int × Nat, ((lcmI L x.fst x.snd) ∧ ((True ∧ ((x.fst = (1 : Int)) ∧ (((↑x.snd : Int) = (0 : Int)) ∧ True))) ∧ ((L = L) ∧ True)))) ∧ (∀ x : Int × Nat, ((lcmI L x.fst x.snd) → (match (decide ((↑x.snd : Int) < (↑L.length : Int))) with | true => (match (inb (↑x.snd : Int) L.length) with | true => (match (inb (↑x.snd : Int) L.length) with | true => (match (decide (at' (0 : Int) L (↑x.snd : Int) < (1 : Int))) with | true => ((((lcmV (lcmG (1 : Int) L) = (0 : Int)) ∧ ((lcmE (lcmG (1 : Int) L) = (1 : Int)) ∧ True)) ∧ True) ∧ ((L = L) ∧ True)) | false => (match (inb (↑x.snd : Int) L.length) with | true => (match (inb (↑x.snd : Int) L.length) with | true => (match (decide ((0 : Int) ≤ x.fst ∧ x.fst ≤ (9223372036854775807 : Int) ∧ (0 : Int) ≤ at' (0 : Int) L (↑x.snd : Int) ∧ at' (0 : Int) L (↑x.snd : Int) ≤ (9223372036854775807 : Int))) with | true => (match (gcdI x.fst (at' (0 : Int) L (↑x.snd : Int)) != (0 : Int)) with | true => (match (inb (↑x.snd : Int) L.length) with | true => (match (inb (↑x.snd : Int) L.length) with | true => (match (decide ((0 : Int) ≤ IntKind.i64.wrap (x.fst.tdiv (gcdI x.fst (at' (0 : Int) L (↑x.snd : Int)))) ∧ IntKind.i64.wrap (x.fst.tdiv (gcdI x.fst (at' (0 : Int) L (↑x.snd : Int)))) ≤ (9223372036854775807 : Int) ∧ (0 : Int) ≤ at' (0 : Int) L (↑x.snd : Int) ∧ at' (0 : Int) L (↑x.snd : Int) ≤ (9223372036854775807 : Int))) with | true => (match (mulE (IntKind.i64.wrap (x.fst.tdiv (gcdI x.fst (at' (0 : Int) L (↑x.snd : Int))))) (at' (0 : Int) L (↑x.snd : Int)) != (0 : Int)) with | true => ((((lcmV (lcmG (1 : Int) L) = (0 : Int)) ∧ ((lcmE (lcmG (1 : Int) L) = mulE (IntKind.i64.wrap (x.fst.tdiv (gcdI x.fst (at' (0 : Int) L (↑x.snd : Int))))) (at' (0 : Int) L (↑x.snd : Int))) ∧ True)) ∧ True) ∧ ((L = L) ∧ True)) | false => (∃ x' : Int × Nat, ((lcmI L x'.fst x'.snd) ∧ ((L.length - x'.snd < L.length - x.snd) ∧ ((True ∧ ((x'.fst = mulV (IntKind.i64.wrap (x.fst.tdiv (gcdI x.fst (at' (0 : Int) L (↑x.snd : Int))))) (at' (0 : Int) L (↑x.snd : Int))) ∧ (((↑x'.snd : Int) = IntKind.i64.wrap ((↑x.snd : Int) + (1 : Int))) ∧ True))) ∧ ((L = L) ∧ True)))))) | false => False) | false => False) | false => False) | false => False) | false => False) | false => False) | false => False)) | false => False) | false => False) | false => ((((lcmV (lcmG (1 : Int) L) = x.fst) ∧ ((lcmE (lcmG (1 : Int) L) = (0 : Int)) ∧ True)) ∧ True) ∧ ((L = L) ∧ True))))))
theorem yLcmK0Vc (L : List Int) : fnX X11 (oneLoop 3 { σ := Int × Nat, st := fun S x => ((S.keep [0]).int 4 x.1).int 5 x.2, inv := fun _ x => lcmI L x.1 x.2, m := fun x => L.length - x.2 }) Try.f57 [.own 0] [.vec 0 L 2] (ends [.vec 0 L 2] ⟨some (.tup [.raw (.int .i64 (lcmV (lcmG 1 L))), .raw (.int .i64 (lcmE (lcmG 1 L)))]), [(0, some (.vec 0 L 2))]⟩) = yLcmK0Text L := by kernel_rfl
theorem yLcmK0Holds (L : List Int) (hp : Ones L ∧ L.length ≤ 100000) : yLcmK0Text L := by
  unfold yLcmK0Text
  obtain ⟨hO, hl⟩ := hp
  refine ⟨⟨(1, 0), lcmI.init L, by repeat' first | trivial | rfl | apply And.intro⟩, ?_⟩
  rintro ⟨m, x⟩ hi
  dsimp only at hi ⊢
  by_cases h : x < L.length
  · obtain ⟨o1, o2, g1, q1, q2, p1, hc⟩ := hi.step hO h
    have hlo := hi.lo
    have hhi := hi.hi
    have hwx := wrap_succ h (show L.length ≤ 140737488355328 by omega)
    rw [dec_lt h, inb_nat h, at_nat h, decide_eq_false (show ¬ L[x] < 1 by omega), show (gcdI m L[x] != 0) = true from bne_iff_ne.2 (by omega), Int.tdiv_eq_ediv_of_nonneg (show 0 ≤ m by omega), wrap_id (n := m / gcdI m L[x]) (by omega) q2, decide_eq_true (show 0 ≤ m ∧ m ≤ 9223372036854775807 ∧ 0 ≤ L[x] ∧ L[x] ≤ 9223372036854775807 by omega), decide_eq_true (show 0 ≤ m / gcdI m L[x] ∧ m / gcdI m L[x] ≤ 9223372036854775807 ∧ 0 ≤ L[x] ∧ L[x] ≤ 9223372036854775807 by omega)]
    rcases hc with ⟨c1, c2⟩ | ⟨c1, c2⟩
    · obtain ⟨e1, e2⟩ := mulE_ok c1
      rw [e1, e2, show ((0 : Int) != 0) = false from rfl]
      refine ⟨(m / gcdI m L[x] * L[x], x + 1), c2, by dsimp only; omega, ?_⟩
      repeat' first | exact hwx.symm | trivial | rfl | apply And.intro
    · obtain ⟨e1, e2⟩ := mulE_no c1
      rw [e1, c2, show ((16 : Int) != 0) = true from rfl]
      repeat' first | trivial | rfl | apply And.intro
  · rw [dec_ge (by omega : L.length ≤ x), hi.done (by omega)]
    repeat' first | trivial | rfl | apply And.intro
def yLcmK1Text (L : List Int) : Prop := ((∃ x : Int × Nat, ((lcmI L x.fst x.snd) ∧ ((True ∧ ((x.fst = (1 : Int)) ∧ (((↑x.snd : Int) = (0 : Int)) ∧ True))) ∧ ((L = L) ∧ True)))) ∧ (∀ x : Int × Nat, ((lcmI L x.fst x.snd) → (match (decide ((↑x.snd : Int) < (↑L.length : Int))) with | true => (match (inb (↑x.snd : Int) L.length) with | true => (match (inb (↑x.snd : Int) L.length) with | true => (match (decide (at' (0 : Int) L (↑x.snd : Int) < (1 : Int))) with | true => ((((lcmV (lcmG (1 : Int) L) = (0 : Int)) ∧ ((lcmE (lcmG (1 : Int) L) = (1 : Int)) ∧ True)) ∧ True) ∧ ((L = L) ∧ True)) | false => (match (inb (↑x.snd : Int) L.length) with | true => (match (inb (↑x.snd : Int) L.length) with | true => (match (decide ((0 : Int) ≤ x.fst ∧ x.fst ≤ (9223372036854775807 : Int) ∧ (0 : Int) ≤ at' (0 : Int) L (↑x.snd : Int) ∧ at' (0 : Int) L (↑x.snd : Int) ≤ (9223372036854775807 : Int))) with | true => (match (gcdI x.fst (at' (0 : Int) L (↑x.snd : Int)) != (0 : Int)) with | true => (match (inb (↑x.snd : Int) L.length) with | true => (match (inb (↑x.snd : Int) L.length) with | true => (match (decide ((0 : Int) ≤ IntKind.i64.wrap (x.fst.tdiv (gcdI x.fst (at' (0 : Int) L (↑x.snd : Int)))) ∧ IntKind.i64.wrap (x.fst.tdiv (gcdI x.fst (at' (0 : Int) L (↑x.snd : Int)))) ≤ (9223372036854775807 : Int) ∧ (0 : Int) ≤ at' (0 : Int) L (↑x.snd : Int) ∧ at' (0 : Int) L (↑x.snd : Int) ≤ (9223372036854775807 : Int))) with | true => (match (mulE (IntKind.i64.wrap (x.fst.tdiv (gcdI x.fst (at' (0 : Int) L (↑x.snd : Int))))) (at' (0 : Int) L (↑x.snd : Int)) != (0 : Int)) with | true => ((((lcmV (lcmG (1 : Int) L) = (0 : Int)) ∧ ((lcmE (lcmG (1 : Int) L) = mulE (IntKind.i64.wrap (x.fst.tdiv (gcdI x.fst (at' (0 : Int) L (↑x.snd : Int))))) (at' (0 : Int) L (↑x.snd : Int))) ∧ True)) ∧ True) ∧ ((L = L) ∧ True)) | false => (∃ x' : Int × Nat, ((lcmI L x'.fst x'.snd) ∧ ((L.length - x'.snd < L.length - x.snd) ∧ ((True ∧ ((x'.fst = mulV (IntKind.i64.wrap (x.fst.tdiv (gcdI x.fst (at' (0 : Int) L (↑x.snd : Int))))) (at' (0 : Int) L (↑x.snd : Int))) ∧ (((↑x'.snd : Int) = IntKind.i64.wrap ((↑x.snd : Int) + (1 : Int))) ∧ True))) ∧ ((L = L) ∧ True)))))) | false => False) | false => False) | false => False) | false => False) | false => False) | false => False) | false => False)) | false => False) | false => False) | false => ((((lcmV (lcmG (1 : Int) L) = x.fst) ∧ ((lcmE (lcmG (1 : Int) L) = (0 : Int)) ∧ True)) ∧ True) ∧ ((L = L) ∧ True))))))
theorem yLcmK1Vc (L : List Int) : fnX X11 (oneLoop 3 { σ := Int × Nat, st := fun S x => ((S.keep [0]).int 4 x.1).int 5 x.2, inv := fun _ x => lcmI L x.1 x.2, m := fun x => L.length - x.2 }) Try.f57 [.own 0] [.ro 0 L] (ends [.ro 0 L] ⟨some (.tup [.raw (.int .i64 (lcmV (lcmG 1 L))), .raw (.int .i64 (lcmE (lcmG 1 L)))]), []⟩) = yLcmK1Text L := by kernel_rfl
theorem yLcmK1Holds (L : List Int) (hp : Ones L ∧ L.length ≤ 100000) : yLcmK1Text L := by
  unfold yLcmK1Text
  obtain ⟨hO, hl⟩ := hp
  refine ⟨⟨(1, 0), lcmI.init L, by repeat' first | trivial | rfl | apply And.intro⟩, ?_⟩
  rintro ⟨m, x⟩ hi
  dsimp only at hi ⊢
  by_cases h : x < L.length
  · obtain ⟨o1, o2, g1, q1, q2, p1, hc⟩ := hi.step hO h
    have hlo := hi.lo
    have hhi := hi.hi
    have hwx := wrap_succ h (show L.length ≤ 140737488355328 by omega)
    rw [dec_lt h, inb_nat h, at_nat h, decide_eq_false (show ¬ L[x] < 1 by omega), show (gcdI m L[x] != 0) = true from bne_iff_ne.2 (by omega), Int.tdiv_eq_ediv_of_nonneg (show 0 ≤ m by omega), wrap_id (n := m / gcdI m L[x]) (by omega) q2, decide_eq_true (show 0 ≤ m ∧ m ≤ 9223372036854775807 ∧ 0 ≤ L[x] ∧ L[x] ≤ 9223372036854775807 by omega), decide_eq_true (show 0 ≤ m / gcdI m L[x] ∧ m / gcdI m L[x] ≤ 9223372036854775807 ∧ 0 ≤ L[x] ∧ L[x] ≤ 9223372036854775807 by omega)]
    rcases hc with ⟨c1, c2⟩ | ⟨c1, c2⟩
    · obtain ⟨e1, e2⟩ := mulE_ok c1
      rw [e1, e2, show ((0 : Int) != 0) = false from rfl]
      refine ⟨(m / gcdI m L[x] * L[x], x + 1), c2, by dsimp only; omega, ?_⟩
      repeat' first | exact hwx.symm | trivial | rfl | apply And.intro
    · obtain ⟨e1, e2⟩ := mulE_no c1
      rw [e1, c2, show ((16 : Int) != 0) = true from rfl]
      repeat' first | trivial | rfl | apply And.intro
  · rw [dec_ge (by omega : L.length ≤ x), hi.done (by omega)]
    repeat' first | trivial | rfl | apply And.intro
noncomputable def yLcmCon : Con T O := fun args cs => match args, cs with
  | [.own 0], [.vec 0 L 2] => chk (decide (Ones L ∧ L.length ≤ 100000)) (.ret ⟨some (.tup [.raw (.int .i64 (lcmV (lcmG 1 L))), .raw (.int .i64 (lcmE (lcmG 1 L)))]), [(0, some (.vec 0 L 2))]⟩)
  | [.own 0], [.ro 0 L] => chk (decide (Ones L ∧ L.length ≤ 100000)) (.ret ⟨some (.tup [.raw (.int .i64 (lcmV (lcmG 1 L))), .raw (.int .i64 (lcmE (lcmG 1 L)))]), []⟩)
  | _, _ => .fail
theorem yLcmOk : ConOk R Try.prog 57 yLcmCon := con_of_fn R (X11) (TabOk.con R X11Ok) mixed Try.call57 Try.func57 yLcmCon (by
  intro args cs K h
  unfold yLcmCon at h
  split at h
  · rename_i L
    rw [Tree.holds_chk] at h
    obtain ⟨hp, h⟩ := h
    refine ⟨oneLoop 3 { σ := Int × Nat, st := fun S x => ((S.keep [0]).int 4 x.1).int 5 x.2, inv := fun _ x => lcmI L x.1 x.2, m := fun x => L.length - x.2 }, _, fun v S hv => ⟨_, h, hv⟩, ?_⟩
    rw [yLcmK0Vc L]
    exact yLcmK0Holds L (of_decide_eq_true hp)
  · rename_i L
    rw [Tree.holds_chk] at h
    obtain ⟨hp, h⟩ := h
    refine ⟨oneLoop 3 { σ := Int × Nat, st := fun S x => ((S.keep [0]).int 4 x.1).int 5 x.2, inv := fun _ x => lcmI L x.1 x.2, m := fun x => L.length - x.2 }, _, fun v S hv => ⟨_, h, hv⟩, ?_⟩
    rw [yLcmK1Vc L]
    exact yLcmK1Holds L (of_decide_eq_true hp)
  · exact h.elim)
noncomputable def tab12 : Tab T O := (69, xMulCon) :: (57, yLcmCon) :: tab11
theorem tabOk12 : TabOk R Try.prog tab12 := TabOk.cons R xMulOk <| TabOk.cons R yLcmOk <| tabOk11
noncomputable def X12 : Ctx T O := { X0 with con := conOf tab12 }
theorem X12Ok : TabOk R X12.P tab12 := tabOk12
end Go.Proofs.Ytmnnjclnldaejaa

namespace Go.Proofs.Ytmnnjclnldaejaa
open Go.Sx Go.Proofs Classical
/-! ### regatta/exact.Lcm -/
def xLcmK0Text (L : List Int) : Prop := ((∃ x : Int × Nat, ((lcmI L x.fst x.snd) ∧ ((True ∧ ((x.fst = (1 : Int)) ∧ (((0 : Int) = (0 : Int)) ∧ (True ∧ (((↑L.length : Int) = (↑L.length : Int)) ∧ (((↑x.snd : Int) = (0 : Int)) ∧ True)))))) ∧ ((L = L) ∧ True)))) ∧ (∀ x : Int × Nat, ((lcmI L x.fst x.snd) → (match (decide ((↑x.snd : Int) < (↑L.length : Int))) with | true => (match (inb (↑x.snd : Int) L.length) with | true => (match (inb (↑x.snd : Int) L.length) with | true => (match (decide (at' (0 : Int) L (↑x.snd : Int) < (1 : Int))) with | true => ((((lcmV (lcmG (1 : Int) L) = (0 : Int)) ∧ ((lcmE (lcmG (1 : Int) L) = (1 : Int)) ∧ True)) ∧ True) ∧ ((L = L) ∧ True)) | false => (match (decide ((0 : Int) ≤ x.fst ∧ x.fst ≤ (9223372036854775807 : Int) ∧ (0 : Int) ≤ at' (0 : Int) L (↑x.snd : Int) ∧ at' (0 : Int) L (↑x.snd : Int) ≤ (9223372036854775807 : Int))) with | true => (match (gcdI x.fst (at' (0 : Int) L (↑x.snd : Int)) != (0 : Int)) with | true => (match (decide ((0 : Int) ≤ IntKind.i64.wrap (x.fst.tdiv (gcdI x.fst (at' (0 : Int) L (↑x.snd : Int)))) ∧ IntKind.i64.wrap (x.fst.tdiv (gcdI x.fst (at' (0 : Int) L (↑x.snd : Int)))) ≤ (9223372036854775807 : Int) ∧ (0 : Int) ≤ at' (0 : Int) L (↑x.snd : Int) ∧ at' (0 : Int) L (↑x.snd : Int) ≤ (9223372036854775807 : Int))) with | true => (match (mulE (IntKind.i64.wrap (x.fst.tdiv (gcdI x.fst (at' (0 : Int) L (↑x.snd : Int))))) (at' (0 : Int) L (↑x.snd : Int)) != (0 : Int)) with | true => (match (mulE (IntKind.i64.wrap (x.fst.tdiv (gcdI x.fst (at' (0 : Int) L (↑x.snd : Int))))) (at' (0 : Int) L (↑x.snd : Int)) != (0 : Int)) with | true => ((((lcmV (lcmG (1 : Int) L) = (0 : Int)) ∧ ((lcmE (lcmG (1 : Int) L) = mulE (IntKind.i64.wrap (x.fst.tdiv (gcdI x.fst (at' (0 : Int) L (↑x.snd : Int))))) (at' (0 : Int) L (↑x.snd : Int))) ∧ True)) ∧ True) ∧ ((L = L) ∧ True)) | false => ((((lcmV (lcmG (1 : Int) L) = mulV (IntKind.i64.wrap (x.fst.tdiv (gcdI x.fst (at' (0 : Int) L (↑x.snd : Int))))) (at' (0 : Int) L (↑x.snd : Int))) ∧ ((lcmE (lcmG (1 : Int) L) = (0 : Int)) ∧ True)) ∧ True) ∧ ((L = L) ∧ True))) | false => (∃ x' : Int × Nat, ((lcmI L x'.fst x'.snd) ∧ ((L.length - x'.snd < L.length - x.snd) ∧ ((True ∧ ((x'.fst = mulV (IntKind.i64.wrap (x.fst.tdiv (gcdI x.fst (at' (0 : Int) L (↑x.snd : Int))))) (at' (0 : Int) L (↑x.snd : Int))) ∧ (((0 : Int) = mulE (IntKind.i64.wrap (x.fst.tdiv (gcdI x.fst (at' (0 : Int) L (↑x.snd : Int))))) (at' (0 : Int) L (↑x.snd : Int))) ∧ (True ∧ (((↑L.length : Int) = (↑L.length : Int)) ∧ (((↑x'.snd : Int) = IntKind.i64.wrap ((↑x.snd : Int) + (1 : Int))) ∧ True)))))) ∧ ((L = L) ∧ True)))))) | false => False) | false => False) | false => False)) | false => False) | false => False) | false => ((((lcmV (lcmG (1 : Int) L) = x.fst) ∧ ((lcmE (lcmG (1 : Int) L) = (0 : Int)) ∧ True)) ∧ True) ∧ ((L = L) ∧ True))))))
theorem xLcmK0Vc (L : List Int) : fnX X12 (annOf [(4, { σ := Int × Nat, st := fun S x => (((S.keep [0, 10, 11]).int 4 x.1).int 5 0).int 12 x.2, inv := fun _ x => lcmI L x.1 x.2, m := fun x => L.length - x.2 })] [(12, 1)]) Try.f36 [.own 0] [.vec 0 L 2] (ends [.vec 0 L 2] ⟨some (.tup [.raw (.int .i64 (lcmV (lcmG 1 L))), .raw (.int .i64 (lcmE (lcmG 1 L)))]), [(0, some (.vec 0 L 2))]⟩) = xLcmK0Text L := by kernel_rfl
theorem xLcmK0Holds (L : List Int) (hp : Ones L ∧ L.length ≤ 100000) : xLcmK0Text L := by
  unfold xLcmK0Text
  obtain ⟨hO, hl⟩ := hp
  refine ⟨⟨(1, 0), lcmI.init L, by repeat' first | trivial | rfl | apply And.intro⟩, ?_⟩
  rintro ⟨m, x⟩ hi
  dsimp only at hi ⊢
  by_cases h : x < L.length
  · obtain ⟨o1, o2, g1, q1, q2, p1, hc⟩ := hi.step hO h
    have hlo := hi.lo
    have hhi := hi.hi
    have hwx := wrap_succ h (show L.length ≤ 140737488355328 by omega)
    rw [dec_lt h, inb_nat h, at_nat h, decide_eq_false (show ¬ L[x] < 1 by omega), show (gcdI m L[x] != 0) = true from bne_iff_ne.2 (by omega), Int.tdiv_eq_ediv_of_nonneg (show 0 ≤ m by omega), wrap_id (n := m / gcdI m L[x]) (by omega) q2, decide_eq_true (show 0 ≤ m ∧ m ≤ 9223372036854775807 ∧ 0 ≤ L[x] ∧ L[x] ≤ 9223372036854775807 by omega), decide_eq_true (show 0 ≤ m / gcdI m L[x] ∧ m / gcdI m L[x] ≤ 9223372036854775807 ∧ 0 ≤ L[x] ∧ L[x] ≤ 9223372036854775807 by omega)]
    rcases hc with ⟨c1, c2⟩ | ⟨c1, c2⟩
    · obtain ⟨e1, e2⟩ := mulE_ok c1
      rw [e1, e2, show ((0 : Int) != 0) = false from rfl]
      refine ⟨(m / gcdI m L[x] * L[x], x + 1), c2, by dsimp only; omega, ?_⟩
      repeat' first | exact hwx.symm | trivial | rfl | apply And.intro
    · obtain ⟨e1, e2⟩ := mulE_no c1
      rw [e1, c2, show ((16 : Int) != 0) = true from rfl]
      repeat' first | trivial | rfl | apply And.intro
  · rw [dec_ge (by omega : L.length ≤ x), hi.done (by omega)]
    repeat' first | trivial | rfl | apply And.intro
def xLcmK1Text (L : List Int) : Prop := ((∃ x : Int × Nat, ((lcmI L x.fst x.snd) ∧ ((True ∧ ((x.fst = (1 : Int)) ∧ (((0 : Int) = (0 : Int)) ∧ (True ∧ (((↑L.length : Int) = (↑L.length : Int)) ∧ (((↑x.snd : Int) = (0 : Int)) ∧ True)))))) ∧ ((L = L) ∧ True)))) ∧ (∀ x : Int × Nat, ((lcmI L x.fst x.snd) → (match (decide ((↑x.snd : Int) < (↑L.length : Int))) with | true => (match (inb (↑x.snd : Int) L.length) with | true => (match (inb (↑x.snd : Int) L.length) with | true => (match (decide (at' (0 : Int) L (↑x.snd : Int) < (1 : Int))) with | true => ((((lcmV (lcmG (1 : Int) L) = (0 : Int)) ∧ ((lcmE (lcmG (1 : Int) L) = (1 : Int)) ∧ True)) ∧ True) ∧ ((L = L) ∧ True)) | false => (match (decide ((0 : Int) ≤ x.fst ∧ x.fst ≤ (9223372036854775807 : Int) ∧ (0 : Int) ≤ at' (0 : Int) L (↑x.snd : Int) ∧ at' (0 : Int) L (↑x.snd : Int) ≤ (9223372036854775807 : Int))) with | true => (match (gcdI x.fst (at' (0 : Int) L (↑x.snd : Int)) != (0 : Int)) with | true => (match (decide ((0 : Int) ≤ IntKind.i64.wrap (x.fst.tdiv (gcdI x.fst (at' (0 : Int) L (↑x.snd : Int)))) ∧ IntKind.i64.wrap (x.fst.tdiv (gcdI x.fst (at' (0 : Int) L (↑x.snd : Int)))) ≤ (9223372036854775807 : Int) ∧ (0 : Int) ≤ at' (0 : Int) L (↑x.snd : Int) ∧ at' (0 : Int) L (↑x.snd : Int) ≤ (9223372036854775807 : Int))) with | true => (match (mulE (IntKind.i64.wrap (x.fst.tdiv (gcdI x.fst (at' (0 : Int) L (↑x.snd : Int))))) (at' (0 : Int) L (↑x.snd : Int)) != (0 : Int)) with | true => (match (mulE (IntKind.i64.wrap (x.fst.tdiv (gcdI x.fst (at' (0 : Int) L (↑x.snd : Int))))) (at' (0 : Int) L (↑x.snd : Int)) != (0 : Int)) with | true => ((((lcmV (lcmG (1 : Int) L) = (0 : Int)) ∧ ((lcmE (lcmG (1 : Int) L) = mulE (IntKind.i64.wrap (x.fst.tdiv (gcdI x.fst (at' (0 : Int) L (↑x.snd : Int))))) (at' (0 : Int) L (↑x.snd : Int))) ∧ True)) ∧ True) ∧ ((L = L) ∧ True)) | false => ((((lcmV (lcmG (1 : Int) L) = mulV (IntKind.i64.wrap (x.fst.tdiv (gcdI x.fst (at' (0 : Int) L (↑x.snd : Int))))) (at' (0 : Int) L (↑x.snd : Int))) ∧ ((lcmE (lcmG (1 : Int) L) = (0 : Int)) ∧ True)) ∧ True) ∧ ((L = L) ∧ True))) | false => (∃ x' : Int × Nat, ((lcmI L x'.fst x'.snd) ∧ ((L.length - x'.snd < L.length - x.snd) ∧ ((True ∧ ((x'.fst = mulV (IntKind.i64.wrap (x.fst.tdiv (gcdI x.fst (at' (0 : Int) L (↑x.snd : Int))))) (at' (0 : Int) L (↑x.snd : Int))) ∧ (((0 : Int) = mulE (IntKind.i64.wrap (x.fst.tdiv (gcdI x.fst (at' (0 : Int) L (↑x.snd : Int))))) (at' (0 : Int) L (↑x.snd : Int))) ∧ (True ∧ (((↑L.length : Int) = (↑L.length : Int)) ∧ (((↑x'.snd : Int) = IntKind.i64.wrap ((↑x.snd : Int) + (1 : Int))) ∧ True)))))) ∧ ((L = L) ∧ True)))))) | false => False) | false => False) | false => False)) | false => False) | false => False) | false => ((((lcmV (lcmG (1 : Int) L) = x.fst) ∧ ((lcmE (lcmG (1 : Int) L) = (0 : Int)) ∧ True)) ∧ True) ∧ ((L = L) ∧ True))))))
theorem xLcmK1Vc (L : List Int) : fnX X12 (annOf [(4, { σ := Int × Nat, st := fun S x => (((S.keep [0, 10, 11]).int 4 x.1).int 5 0).int 12 x.2, inv := fun _ x => lcmI L x.1 x.2, m := fun x => L.length - x.2 })] [(12, 1)]) Try.f36 [.own 0] [.ro 0 L] (ends [.ro 0 L] ⟨some (.tup [.raw (.int .i64 (lcmV (lcmG 1 L))), .raw (.int .i64 (lcmE (lcmG 1 L)))]), []⟩) = xLcmK1Text L := by kernel_rfl
theorem xLcmK1Holds (L : List Int) (hp : Ones L ∧ L.length ≤ 100000) : xLcmK1Text L := by
  unfold xLcmK1Text
  obtain ⟨hO, hl⟩ := hp
  refine ⟨⟨(1, 0), lcmI.init L, by repeat' first | trivial | rfl | apply And.intro⟩, ?_⟩
  rintro ⟨m, x⟩ hi
  dsimp only at hi ⊢
  by_cases h : x < L.length
  · obtain ⟨o1, o2, g1, q1, q2, p1, hc⟩ := hi.step hO h
    have hlo := hi.lo
    have hhi := hi.hi
    have hwx := wrap_succ h (show L.length ≤ 140737488355328 by omega)
    rw [dec_lt h, inb_nat h, at_nat h, decide_eq_false (show ¬ L[x] < 1 by omega), show (gcdI m L[x] != 0) = true from bne_iff_ne.2 (by omega), Int.tdiv_eq_ediv_of_nonneg (show 0 ≤ m by omega), wrap_id (n := m / gcdI m L[x]) (by omega) q2, decide_eq_true (show 0 ≤ m ∧ m ≤ 9223372036854775807 ∧ 0 ≤ L[x] ∧ L[x] ≤ 9223372036854775807 by omega), decide_eq_true (show 0 ≤ m / gcdI m L[x] ∧ m / gcdI m L[x] ≤ 9223372036854775807 ∧ 0 ≤ L[x] ∧ L[x] ≤ 9223372036854775807 by omega)]
    rcases hc with ⟨c1, c2⟩ | ⟨c1, c2⟩
    · obtain ⟨e1, e2⟩ := mulE_ok c1
      rw [e1, e2, show ((0 : Int) != 0) = false from rfl]
      refine ⟨(m / gcdI m L[x] * L[x], x + 1), c2, by dsimp only; omega, ?_⟩
      repeat' first | exact hwx.symm | trivial | rfl | apply And.intro
    · obtain ⟨e1, e2⟩ := mulE_no c1
      rw [e1, c2, show ((16 : Int) != 0) = true from rfl]
      repeat' first | trivial | rfl | apply And.intro
  · rw [dec_ge (by omega : L.length ≤ x), hi.done (by omega)]
    repeat' first | trivial | rfl | apply And.intro
noncomputable def xLcmCon : Con T O := fun args cs => match args, cs with
  | [.own 0], [.vec 0 L 2] => chk (decide (Ones L ∧ L.length ≤ 100000)) (.ret ⟨some (.tup [.raw (.int .i64 (lcmV (lcmG 1 L))), .raw (.int .i64 (lcmE (lcmG 1 L)))]), [(0, some (.vec 0 L 2))]⟩)
  | [.own 0], [.ro 0 L] => chk (decide (Ones L ∧ L.length ≤ 100000)) (.ret ⟨some (.tup [.raw (.int .i64 (lcmV (lcmG 1 L))), .raw (.int .i64 (lcmE (lcmG 1 L)))]), []⟩)
  | _, _ => .fail
theorem xLcmOk : ConOk R Try.prog 36 xLcmCon := con_of_fn R (X12) (TabOk.con R X12Ok) mixed Try.call36 Try.func36 xLcmCon (by
  intro args cs K h
  unfold xLcmCon at h
  split at h
  · rename_i L
    rw [Tree.holds_chk] at h
    obtain ⟨hp, h⟩ := h
    refine ⟨annOf [(4, { σ := Int × Nat, st := fun S x => (((S.keep [0, 10, 11]).int 4 x.1).int 5 0).int 12 x.2, inv := fun _ x => lcmI L x.1 x.2, m := fun x => L.length - x.2 })] [(12, 1)], _, fun v S hv => ⟨_, h, hv⟩, ?_⟩
    rw [xLcmK0Vc L]
    exact xLcmK0Holds L (of_decide_eq_true hp)
  · rename_i L
    rw [Tree.holds_chk] at h
    obtain ⟨hp, h⟩ := h
    refine ⟨annOf [(4, { σ := Int × Nat, st := fun S x => (((S.keep [0, 10, 11]).int 4 x.1).int 5 0).int 12 x.2, inv := fun _ x => lcmI L x.1 x.2, m := fun x => L.length - x.2 })] [(12, 1)], _, fun v S hv => ⟨_, h, hv⟩, ?_⟩
    rw [xLcmK1Vc L]
    exact xLcmK1Holds L (of_decide_eq_true hp)
  · exact h.elim)
noncomputable def tab13 : Tab T O := (36, xLcmCon) :: tab12
theorem tabOk13 : TabOk R Try.prog tab13 := TabOk.cons R xLcmOk <| tabOk12
noncomputable def X13 : Ctx T O := { X0 with con := conOf tab13 }
theorem X13Ok : TabOk R X13.P tab13 := tabOk13
end Go.Proofs.Ytmnnjclnldaejaa

namespace Go.Proofs.Ytmnnjclnldaejaa
open Go.Sx Go.Proofs Classical
def plusQ (p q : Qt) : Qt := (p.1 * q.2 + q.1 * p.2, p.2 * q.2)

def okP (e p : Int) : Bool := decide (e ≥ 1) && decide (e ≤ p) && decide (p ≤ 1048576)
def okPart (q : Part) : Bool := okP q.E q.P
def badPart (q : Part) : Bool := !okP q.E q.P
def PartsOk (L : List Part) : Prop := (1 ≤ L.length ∧ L.length ≤ 8) ∧ ∀ q ∈ L, 1 ≤ q.E ∧ q.E ≤ q.P ∧ q.P ≤ 1048576
def checkL (L : List Part) : Bool := decide (1 ≤ L.length) && decide (L.length ≤ 8) && L.all okPart
theorem okP_iff {e p : Int} : okP e p = true ↔ 1 ≤ e ∧ e ≤ p ∧ p ≤ 1048576 := by
  unfold okP
  simp only [Bool.and_eq_true, decide_eq_true_eq]
  constructor
  · rintro ⟨⟨h1, h2⟩, h3⟩; exact ⟨h1, h2, h3⟩
  · rintro ⟨h1, h2, h3⟩; exact ⟨⟨h1, h2⟩, h3⟩
theorem checkL_iff {L : List Part} : checkL L = true ↔ PartsOk L := by
  unfold checkL PartsOk
  simp only [Bool.and_eq_true, decide_eq_true_eq, List.all_eq_true, okPart, okP_iff]
theorem any_bad : ∀ L : List Part, L.all okPart = !L.any badPart
  | [] => rfl
  | q :: l => by
    rw [List.all_cons, List.any_cons, any_bad l, Bool.not_or]
    unfold okPart badPart
    rw [Bool.not_not]
def asW (q : Part) : Weight := ⟨q.E, q.P⟩
/-- the first place where something is so -/
def firstI {α : Type} (p : α → Bool) : List α → Int → Int
  | [], _ => -1
  | a :: l, i => bif p a then i else firstI p l (i + 1)
theorem firstI_any {α : Type} (p : α → Bool) : ∀ (l : List α) (i : Int), 0 ≤ i → decide (firstI p l i ≥ 0) = l.any p
  | [], i, _ => rfl
  | a :: l, i, h => by
    simp only [firstI, List.any_cons]
    by_cases hp : p a = true
    · simp only [hp, cond_true, Bool.true_or]; exact decide_eq_true h
    · have hp : p a = false := by simpa using hp
      simp only [hp, cond_false, Bool.false_or]; exact firstI_any p l (i + 1) (by omega)
def minG : Int → List Int → Int
  | m, [] => m
  | m, a :: l => minG (min m a) l
def minL (L : List Int) : Int := minG (at' 0 L 0) (L.drop 1)
/-- a sum as it comes -/
def plusSum (L : List Weight) : Qt := L.foldl (fun q w => plusQ q (wq w)) (0, 1)
theorem plusSum_snoc (L : List Weight) (w : Weight) : plusSum (L ++ [w]) = plusQ (plusSum L) (wq w) := by simp [plusSum]
theorem plusSum_bound : ∀ (k : Nat) (L : List Weight), L.length = k → WOk L → 0 < (plusSum L).2 ∧ (plusSum L).2 ≤ 1048576 ^ k ∧ (plusSum L).1 ≤ k * (plusSum L).2
  | 0, L, hk, _ => by
    rw [List.eq_nil_of_length_eq_zero hk]
    exact ⟨by decide, by decide, by decide⟩
  | k + 1, L, hk, h => by
    have hne : L ≠ [] := by intro e; rw [e] at hk; cases hk
    obtain ⟨l, w, rfl⟩ : ∃ l w, L = l ++ [w] := ⟨L.dropLast, L.getLast hne, (List.dropLast_concat_getLast hne).symm⟩
    have hl : l.length = k := by simpa using hk
    obtain ⟨i1, i2, i3⟩ := plusSum_bound k l hl (fun v hv => h v (List.mem_append_left _ hv))
    obtain ⟨w1, w2, w3⟩ := h w (by simp)
    rw [plusSum_snoc]
    generalize plusSum l = q at *
    unfold plusQ wq
    dsimp only
    refine ⟨Nat.mul_pos i1 (by omega), ?_, ?_⟩
    · rw [Nat.pow_succ]
      exact Nat.mul_le_mul i2 (by omega)
    · have e1 : q.1 * w.P.toNat ≤ k * q.2 * w.P.toNat := Nat.mul_le_mul_right _ i3
      have e2 : w.E.toNat * q.2 ≤ w.P.toNat * q.2 := Nat.mul_le_mul_right _ (by omega)
      rw [Nat.succ_mul, Nat.mul_comm w.P.toNat q.2, Nat.mul_assoc] at *
      omega
theorem pow_small (k : Nat) (h : k ≤ 64) : 1048576 ^ k ≤ b32 ^ 64 := Nat.le_trans (Nat.pow_le_pow_left (by decide) k) (Nat.pow_le_pow_right (by decide) h)
theorem plusSum_ok {L : List Weight} (h : WOk L) (hl : L.length ≤ 64) : isR (lim (plusSum L).1) (lim (plusSum L).2) ∧ small (lim (plusSum L).1) ∧ small (lim (plusSum L).2) := by
  obtain ⟨h1, h2, h3⟩ := plusSum_bound L.length L rfl h
  have h4 := pow_small L.length hl
  refine ⟨⟨isN_lim _, isN_lim _, by rw [nv_lim]; exact h1⟩, ?_, ?_⟩
  · refine Nat.le_trans (lim_lt (k := 66) ?_) (by decide)
    have h5 : L.length * (plusSum L).2 ≤ 64 * b32 ^ 64 := Nat.mul_le_mul hl (Nat.le_trans h2 h4)
    rw [show 66 = 64 + 2 from rfl, Nat.pow_add]
    have h6 : 0 < b32 ^ 64 := Nat.pow_pos (by decide)
    generalize b32 ^ 64 = t at *
    rw [show b32 ^ 2 = 18446744073709551616 from rfl]
    omega
  · refine Nat.le_trans (lim_lt (k := 65) ?_) (by decide)
    have h6 : 0 < b32 ^ 64 := Nat.pow_pos (by decide)
    rw [Nat.pow_succ]
    generalize b32 ^ 64 = t at *
    rw [show b32 = 4294967296 from rfl]
    omega

/-! ### regatta/window.Check -/
def winCheckText (e p : Int) : Prop := (match (decide (e ≥ (1 : Int))) with | true => (match (decide (e ≤ p)) with | true => (((okP e p = decide (p ≤ (1048576 : Int))) ∧ True) ∧ True) | false => (((okP e p = false) ∧ True) ∧ True)) | false => (((okP e p = false) ∧ True) ∧ True))
theorem winCheckVc (e p : Int) : fnX X13 (noAnn) Try.f64 [.agg [.raw (.int .i64 e), .raw (.int .i64 p)]] [] (ends [] ⟨some (.raw (.bool (okP e p))), []⟩) = winCheckText e p := by kernel_rfl
theorem winCheckHolds (e p : Int) : winCheckText e p := by
  unfold winCheckText
  unfold okP
  cases decide (e ≥ 1) <;> cases decide (e ≤ p) <;> cases decide (p ≤ 1048576) <;> (repeat' first | apply And.intro | exact True.intro | exact rfl)
noncomputable def winCheckCon : Con T O := fun args cs => match args, cs with
  | [.agg [.raw (.int .i64 e), .raw (.int .i64 p)]], [] => .ret ⟨some (.raw (.bool (okP e p))), []⟩
  | _, _ => .fail
theorem winCheckOk : ConOk R Try.prog 64 winCheckCon := con_of_fn R (X13) (TabOk.con R X13Ok) mixed Try.call64 Try.func64 winCheckCon (by
  intro args cs K h
  unfold winCheckCon at h
  split at h
  · rename_i e p
    refine ⟨noAnn, _, fun v S hv => ⟨_, h, hv⟩, ?_⟩
    rw [winCheckVc e p]
    exact winCheckHolds e p
  · exact h.elim)
/-! ### regatta/regattaref04.Check -/
def r4CheckText (e p : Int) : Prop := (match (decide (e ≥ (1 : Int))) with | true => (match (decide (e ≤ p)) with | true => (((okP e p = decide (p ≤ (1048576 : Int))) ∧ True) ∧ True) | false => (((okP e p = false) ∧ True) ∧ True)) | false => (((okP e p = false) ∧ True) ∧ True))
theorem r4CheckVc (e p : Int) : fnX X13 (noAnn) Try.f18 [.agg [.raw (.int .i64 e), .raw (.int .i64 p)]] [] (ends [] ⟨some (.raw (.bool (okP e p))), []⟩) = r4CheckText e p := by kernel_rfl
theorem r4CheckHolds (e p : Int) : r4CheckText e p := by
  unfold r4CheckText
  unfold okP
  cases decide (e ≥ 1) <;> cases decide (e ≤ p) <;> cases decide (p ≤ 1048576) <;> (repeat' first | apply And.intro | exact True.intro | exact rfl)
noncomputable def r4CheckCon : Con T O := fun args cs => match args, cs with
  | [.agg [.raw (.int .i64 e), .raw (.int .i64 p)]], [] => .ret ⟨some (.raw (.bool (okP e p))), []⟩
  | _, _ => .fail
theorem r4CheckOk : ConOk R Try.prog 18 r4CheckCon := con_of_fn R (X13) (TabOk.con R X13Ok) mixed Try.call18 Try.func18 r4CheckCon (by
  intro args cs K h
  unfold r4CheckCon at h
  split at h
  · rename_i e p
    refine ⟨noAnn, _, fun v S hv => ⟨_, h, hv⟩, ?_⟩
    rw [r4CheckVc e p]
    exact r4CheckHolds e p
  · exact h.elim)
/-! ### regatta/super.weight -/
def supWeightOfText (e p : Int) : Prop := ((((e = e) ∧ ((p = p) ∧ True)) ∧ True) ∧ True)
theorem supWeightOfVc (e p : Int) : fnX X13 (noAnn) Try.f65 [.agg [.raw (.int .i64 e), .raw (.int .i64 p)]] [] (ends [] ⟨some (.agg [.raw (.int .i64 e), .raw (.int .i64 p)]), []⟩) = supWeightOfText e p := by kernel_rfl
theorem supWeightOfHolds (e p : Int) : supWeightOfText e p := by
  unfold supWeightOfText
  repeat' first | apply And.intro | exact True.intro | exact rfl
noncomputable def supWeightOfCon : Con T O := fun args cs => match args, cs with
  | [.agg [.raw (.int .i64 e), .raw (.int .i64 p)]], [] => .ret ⟨some (.agg [.raw (.int .i64 e), .raw (.int .i64 p)]), []⟩
  | _, _ => .fail
theorem supWeightOfOk : ConOk R Try.prog 65 supWeightOfCon := con_of_fn R (X13) (TabOk.con R X13Ok) mixed Try.call65 Try.func65 supWeightOfCon (by
  intro args cs K h
  unfold supWeightOfCon at h
  split at h
  · rename_i e p
    refine ⟨noAnn, _, fun v S hv => ⟨_, h, hv⟩, ?_⟩
    rw [supWeightOfVc e p]
    exact supWeightOfHolds e p
  · exact h.elim)
/-! ### slices.Min[[]int64,int64] -/
def minCText (L : List Int) : Prop := (match (decide ((↑L.length : Int) < (1 : Int))) with | true => False | false => (match (inb (0 : Int) L.length) with | true => (match (inb (0 : Int) L.length) with | true => ((∃ x : Int × Nat, ((((1 : Nat) ≤ x.snd) ∧ ((x.snd ≤ L.length) ∧ (minL L = minG x.fst (List.drop x.snd L)))) ∧ ((True ∧ ((x.fst = at' (0 : Int) L (0 : Int)) ∧ (((↑x.snd : Int) = (1 : Int)) ∧ True))) ∧ ((L = L) ∧ True)))) ∧ (∀ x : Int × Nat, ((((1 : Nat) ≤ x.snd) ∧ ((x.snd ≤ L.length) ∧ (minL L = minG x.fst (List.drop x.snd L)))) → (match (decide ((↑x.snd : Int) < (↑L.length : Int))) with | true => (match (inb (↑x.snd : Int) L.length) with | true => (match (inb (↑x.snd : Int) L.length) with | true => (∃ x' : Int × Nat, ((((1 : Nat) ≤ x'.snd) ∧ ((x'.snd ≤ L.length) ∧ (minL L = minG x'.fst (List.drop x'.snd L)))) ∧ ((L.length - x'.snd < L.length - x.snd) ∧ ((True ∧ ((x'.fst = if at' (0 : Int) L (↑x.snd : Int) < x.fst then at' (0 : Int) L (↑x.snd : Int) else x.fst) ∧ (((↑x'.snd : Int) = IntKind.i64.wrap ((↑x.snd : Int) + (1 : Int))) ∧ True))) ∧ ((L = L) ∧ True))))) | false => False) | false => False) | false => (((minL L = x.fst) ∧ True) ∧ ((L = L) ∧ True)))))) | false => False) | false => False))
theorem minCVc (L : List Int) : fnX X13 (oneLoop 5 { σ := Int × Nat, st := fun S x => ((S.keep [0]).int 3 x.1).int 4 x.2, inv := fun _ x => 1 ≤ x.2 ∧ x.2 ≤ L.length ∧ minL L = minG x.1 (L.drop x.2), m := fun x => L.length - x.2 }) Try.f39 [.own 0] [.vec 0 L 2] (ends [.vec 0 L 2] ⟨some (.raw (.int .i64 (minL L))), [(0, some (.vec 0 L 2))]⟩) = minCText L := by kernel_rfl
theorem minCHolds (L : List Int) (hp : 1 ≤ L.length ∧ L.length ≤ 100000) : minCText L := by
  unfold minCText
  obtain ⟨h1, h2⟩ := hp
  rw [decide_eq_false (show ¬ (L.length : Int) < 1 by omega), show inb 0 L.length = true from inb_nat (a := 0) (by omega)]
  refine ⟨⟨(at' 0 L 0, 1), ⟨Nat.le_refl _, h1, rfl⟩, by repeat' first | trivial | rfl | apply And.intro⟩, ?_⟩
  rintro ⟨m, x⟩ ⟨i1, i2, i3⟩
  dsimp only at i1 i2 i3 ⊢
  by_cases h : x < L.length
  · have hwx := wrap_succ h (show L.length ≤ 140737488355328 by omega)
    rw [dec_lt h, inb_nat h, at_nat h]
    rw [List.drop_eq_getElem_cons h] at i3
    have e : (if L[x] < m then L[x] else m) = min m L[x] := by split <;> omega
    refine ⟨(min m L[x], x + 1), ⟨by dsimp only; omega, h, i3⟩, by dsimp only; omega, ?_⟩
    repeat' first | exact e.symm | exact hwx.symm | trivial | rfl | apply And.intro
  · rw [dec_ge (by omega : L.length ≤ x)]
    rw [List.drop_of_length_le (by omega)] at i3
    repeat' first | exact i3 | trivial | rfl | apply And.intro
noncomputable def minCCon : Con T O := fun args cs => match args, cs with
  | [.own 0], [.vec 0 L 2] => chk (decide (1 ≤ L.length ∧ L.length ≤ 100000)) (.ret ⟨some (.raw (.int .i64 (minL L))), [(0, some (.vec 0 L 2))]⟩)
  | _, _ => .fail
theorem minCOk : ConOk R Try.prog 39 minCCon := con_of_fn R (X13) (TabOk.con R X13Ok) mixed Try.call39 Try.func39 minCCon (by
  intro args cs K h
  unfold minCCon at h
  split at h
  · rename_i L
    rw [Tree.holds_chk] at h
    obtain ⟨hp, h⟩ := h
    refine ⟨oneLoop 5 { σ := Int × Nat, st := fun S x => ((S.keep [0]).int 3 x.1).int 4 x.2, inv := fun _ x => 1 ≤ x.2 ∧ x.2 ≤ L.length ∧ minL L = minG x.1 (L.drop x.2), m := fun x => L.length - x.2 }, _, fun v S hv => ⟨_, h, hv⟩, ?_⟩
    rw [minCVc L]
    exact minCHolds L (of_decide_eq_true hp)
  · exact h.elim)
noncomputable def tab14 : Tab T O := (64, winCheckCon) :: (18, r4CheckCon) :: (65, supWeightOfCon) :: (39, minCCon) :: tab13
theorem tabOk14 : TabOk R Try.prog tab14 := TabOk.cons R winCheckOk <| TabOk.cons R r4CheckOk <| TabOk.cons R supWeightOfOk <| TabOk.cons R minCOk <| tabOk13
noncomputable def X14 : Ctx T O := { X0 with con := conOf tab14 }
theorem X14Ok : TabOk R X14.P tab14 := tabOk14
end Go.Proofs.Ytmnnjclnldaejaa

namespace Go.Proofs.Ytmnnjclnldaejaa
open Go.Sx Go.Proofs Classical
/-! ### regatta/super.Check$1 -/
def supBadText (e p : Int) : Prop := ((((!okP e p) = !okP e p) ∧ True) ∧ True)
theorem supBadVc (e p : Int) : fnX X14 (noAnn) Try.f63 [.agg [.raw (.int .i64 e), .raw (.int .i64 p)]] [] (ends [] ⟨some (.raw (.bool (!okP e p))), []⟩) = supBadText e p := by kernel_rfl
theorem supBadHolds (e p : Int) : supBadText e p := by
  unfold supBadText
  repeat' first | apply And.intro | exact True.intro | exact rfl
noncomputable def supBadCon : Con T O := fun args cs => match args, cs with
  | [.agg [.raw (.int .i64 e), .raw (.int .i64 p)]], [] => .ret ⟨some (.raw (.bool (!okP e p))), []⟩
  | _, _ => .fail
theorem supBadOk : ConOk R Try.prog 63 supBadCon := con_of_fn R (X14) (TabOk.con R X14Ok) mixed Try.call63 Try.func63 supBadCon (by
  intro args cs K h
  unfold supBadCon at h
  split at h
  · rename_i e p
    refine ⟨noAnn, _, fun v S hv => ⟨_, h, hv⟩, ?_⟩
    rw [supBadVc e p]
    exact supBadHolds e p
  · exact h.elim)
/-! ### regatta/super.weights -/
def supWeightsText (L : List Part) : Prop := ((∃ x : Nat, ((x.le L.length) ∧ ((True ∧ (True ∧ (True ∧ (((↑L.length : Int) = (↑L.length : Int)) ∧ (((↑x : Int) = (0 : Int)) ∧ True))))) ∧ ((L = L) ∧ ((List.map asW (List.take x L) = []) ∧ True))))) ∧ (∀ x : Nat, ((x.le L.length) → (match (decide ((↑x : Int) < (↑L.length : Int))) with | true => (match (inb (↑x : Int) L.length) with | true => (match (inb (↑x : Int) L.length) with | true => (match (roomy ((List.map asW (List.take x L)).length + (1 : Nat)) (nat_lit 16)) with | true => (∃ x' : Nat, ((x'.le L.length) ∧ ((L.length - x' < L.length - x) ∧ ((True ∧ (True ∧ (True ∧ (((↑L.length : Int) = (↑L.length : Int)) ∧ (((↑x' : Int) = IntKind.i64.wrap ((↑x : Int) + (1 : Int))) ∧ True))))) ∧ ((L = L) ∧ ((List.map asW (List.take x' L) = List.map asW (List.take x L) ++ [Weight.mk (at' partE.zero L (↑x : Int)).E (at' partE.zero L (↑x : Int)).P]) ∧ True)))))) | false => False) | false => False) | false => False) | false => ((True ∧ True) ∧ ((L = L) ∧ ((List.map asW L = List.map asW (List.take x L)) ∧ True)))))))
theorem supWeightsVc (L : List Part) : fnX { X14 with frz := true } (annOf [(3, { σ := Nat, st := fun S x => ((S.keep [0, 6, 7]).int 8 x).new 3 (.vec 5 ((L.take x).map asW) 29), inv := fun _ x => x ≤ L.length, m := fun x => L.length - x })] []) Try.f67 [.own 0] [.ro 3 L] (ends [.ro 3 L] ⟨some (.own 1), [(1, some (.ro 5 (L.map asW)))]⟩) = supWeightsText L := by kernel_rfl
theorem supWeightsHolds (L : List Part) (hp : L.length ≤ 100000) : supWeightsText L := by
  unfold supWeightsText
  refine ⟨⟨0, Nat.zero_le _, by repeat' first | trivial | rfl | apply And.intro⟩, ?_⟩
  intro x hx
  have hx : x ≤ L.length := hx
  by_cases h : x < L.length
  · have hwx := wrap_succ h (show L.length ≤ 140737488355328 by omega)
    have hr : roomy (((L.take x).map asW).length + 1) 16 = true := by
      rw [List.length_map, List.length_take]
      exact decide_eq_true (by omega)
    have e : (L.take (x + 1)).map asW = (L.take x).map asW ++ [asW L[x]] := by rw [take_at h, List.map_append]; rfl
    rw [dec_lt h, inb_nat h, at_nat h, hr]
    refine ⟨x + 1, h, by omega, ?_⟩
    repeat' first | exact hwx.symm | exact e | trivial | rfl | apply And.intro
  · obtain rfl : x = L.length := by omega
    rw [dec_ge (Nat.le_refl _), List.take_length]
    repeat' first | trivial | rfl | apply And.intro
noncomputable def supWeightsCon : Con T O := fun args cs => match args, cs with
  | [.own 0], [.ro 3 L] => chk (decide (L.length ≤ 100000)) (.ret ⟨some (.own 1), [(1, some (.ro 5 (L.map asW)))]⟩)
  | _, _ => .fail
theorem supWeightsOk : ConOk R Try.prog 67 supWeightsCon := con_of_fn R ({ X14 with frz := true }) (TabOk.con R X14Ok) mixed Try.call67 Try.func67 supWeightsCon (by
  intro args cs K h
  unfold supWeightsCon at h
  split at h
  · rename_i L
    rw [Tree.holds_chk] at h
    obtain ⟨hp, h⟩ := h
    refine ⟨annOf [(3, { σ := Nat, st := fun S x => ((S.keep [0, 6, 7]).int 8 x).new 3 (.vec 5 ((L.take x).map asW) 29), inv := fun _ x => x ≤ L.length, m := fun x => L.length - x })] [], _, fun v S hv => ⟨_, h, hv⟩, ?_⟩
    rw [supWeightsVc L]
    exact supWeightsHolds L (of_decide_eq_true hp)
  · exact h.elim)
/-! ### regatta/regattaref14.periods -/
def r14PeriodsText (L : List Part) : Prop := ((∃ x : Nat, ((x.le L.length) ∧ ((True ∧ (True ∧ (((↑x : Int) = (0 : Int)) ∧ True))) ∧ ((L = L) ∧ ((List.map Part.P (List.take x L) = []) ∧ True))))) ∧ (∀ x : Nat, ((x.le L.length) → (match (decide ((↑x : Int) < (↑L.length : Int))) with | true => (match (inb (↑x : Int) L.length) with | true => (match (inb (↑x : Int) L.length) with | true => (match (roomy ((List.map Part.P (List.take x L)).length + (1 : Nat)) (nat_lit 8)) with | true => (∃ x' : Nat, ((x'.le L.length) ∧ ((L.length - x' < L.length - x) ∧ ((True ∧ (True ∧ (((↑x' : Int) = IntKind.i64.wrap ((↑x : Int) + (1 : Int))) ∧ True))) ∧ ((L = L) ∧ ((List.map Part.P (List.take x' L) = List.map Part.P (List.take x L) ++ [(at' partE.zero L (↑x : Int)).P]) ∧ True)))))) | false => False) | false => False) | false => False) | false => ((True ∧ True) ∧ ((L = L) ∧ ((List.map Part.P L = List.map Part.P (List.take x L)) ∧ True)))))))
theorem r14PeriodsVc (L : List Part) : fnX { X14 with frz := true } (oneLoop 3 { σ := Nat, st := fun S x => ((S.keep [0]).int 4 x).new 3 (.vec 0 ((L.take x).map Part.P) 2), inv := fun _ x => x ≤ L.length, m := fun x => L.length - x }) Try.f58 [.own 0] [.ro 3 L] (ends [.ro 3 L] ⟨some (.own 1), [(1, some (.ro 0 (L.map Part.P)))]⟩) = r14PeriodsText L := by kernel_rfl
theorem r14PeriodsHolds (L : List Part) (hp : L.length ≤ 100000) : r14PeriodsText L := by
  unfold r14PeriodsText
  refine ⟨⟨0, Nat.zero_le _, by repeat' first | trivial | rfl | apply And.intro⟩, ?_⟩
  intro x hx
  have hx : x ≤ L.length := hx
  by_cases h : x < L.length
  · have hwx := wrap_succ h (show L.length ≤ 140737488355328 by omega)
    have hr : roomy (((L.take x).map Part.P).length + 1) 8 = true := by
      rw [List.length_map, List.length_take]
      exact decide_eq_true (by omega)
    have e : (L.take (x + 1)).map Part.P = (L.take x).map Part.P ++ [Part.P L[x]] := by rw [take_at h, List.map_append]; rfl
    rw [dec_lt h, inb_nat h, at_nat h, hr]
    refine ⟨x + 1, h, by omega, ?_⟩
    repeat' first | exact hwx.symm | exact e | trivial | rfl | apply And.intro
  · obtain rfl : x = L.length := by omega
    rw [dec_ge (Nat.le_refl _), List.take_length]
    repeat' first | trivial | rfl | apply And.intro
noncomputable def r14PeriodsCon : Con T O := fun args cs => match args, cs with
  | [.own 0], [.ro 3 L] => chk (decide (L.length ≤ 100000)) (.ret ⟨some (.own 1), [(1, some (.ro 0 (L.map Part.P)))]⟩)
  | _, _ => .fail
theorem r14PeriodsOk : ConOk R Try.prog 58 r14PeriodsCon := con_of_fn R ({ X14 with frz := true }) (TabOk.con R X14Ok) mixed Try.call58 Try.func58 r14PeriodsCon (by
  intro args cs K h
  unfold r14PeriodsCon at h
  split at h
  · rename_i L
    rw [Tree.holds_chk] at h
    obtain ⟨hp, h⟩ := h
    refine ⟨oneLoop 3 { σ := Nat, st := fun S x => ((S.keep [0]).int 4 x).new 3 (.vec 0 ((L.take x).map Part.P) 2), inv := fun _ x => x ≤ L.length, m := fun x => L.length - x }, _, fun v S hv => ⟨_, h, hv⟩, ?_⟩
    rw [r14PeriodsVc L]
    exact r14PeriodsHolds L (of_decide_eq_true hp)
  · exact h.elim)
/-! ### regatta/regattaref14.Check -/
def r14CheckText (L : List Part) : Prop := ((∃ x : Nat, (((x ≤ L.length) ∧ (L.all okPart = (List.drop x L).all okPart)) ∧ ((True ∧ (((↑x : Int) = (0 : Int)) ∧ True)) ∧ ((L = L) ∧ True)))) ∧ (∀ x : Nat, (((x ≤ L.length) ∧ (L.all okPart = (List.drop x L).all okPart)) → (match (decide ((↑x : Int) < (↑L.length : Int))) with | true => (match (inb (↑x : Int) L.length) with | true => (match (inb (↑x : Int) L.length) with | true => (match (inb (↑x : Int) L.length) with | true => (match (inb (↑x : Int) L.length) with | true => (match (!okP (at' partE.zero L (↑x : Int)).E (at' partE.zero L (↑x : Int)).P) with | true => (((checkL L = false) ∧ True) ∧ ((L = L) ∧ True)) | false => (∃ x' : Nat, (((x' ≤ L.length) ∧ (L.all okPart = (List.drop x' L).all okPart)) ∧ ((L.length - x' < L.length - x) ∧ ((True ∧ (((↑x' : Int) = IntKind.i64.wrap ((↑x : Int) + (1 : Int))) ∧ True)) ∧ ((L = L) ∧ True)))))) | false => False) | false => False) | false => False) | false => False) | false => (match (decide ((↑L.length : Int) ≥ (1 : Int))) with | true => (((checkL L = decide ((↑L.length : Int) ≤ (8 : Int))) ∧ True) ∧ ((L = L) ∧ True)) | false => (((checkL L = false) ∧ True) ∧ ((L = L) ∧ True)))))))
theorem r14CheckVc (L : List Part) : fnX X14 (oneLoop 2 { σ := Nat, st := fun S x => (S.keep [0]).int 3 x, inv := fun _ x => x ≤ L.length ∧ L.all okPart = (L.drop x).all okPart, m := fun x => L.length - x }) Try.f35 [.own 0] [.ro 3 L] (ends [.ro 3 L] ⟨some (.raw (.bool (checkL L))), []⟩) = r14CheckText L := by kernel_rfl
theorem r14CheckHolds (L : List Part) (hp : L.length ≤ 100000) : r14CheckText L := by
  unfold r14CheckText
  refine ⟨⟨0, ⟨Nat.zero_le _, rfl⟩, by repeat' first | trivial | rfl | apply And.intro⟩, ?_⟩
  rintro x ⟨hx, hs⟩
  by_cases h : x < L.length
  · have hwx := wrap_succ h (show L.length ≤ 140737488355328 by omega)
    rw [List.drop_eq_getElem_cons h, List.all_cons] at hs
    rw [dec_lt h, inb_nat h, at_nat h]
    by_cases g : okP L[x].E L[x].P = true
    · rw [show okPart L[x] = true from g, Bool.true_and] at hs
      rw [g, show (!true) = false from rfl]
      refine ⟨x + 1, ⟨h, hs⟩, by omega, ?_⟩
      repeat' first | exact hwx.symm | trivial | rfl | apply And.intro
    · have g : okP L[x].E L[x].P = false := by simpa using g
      rw [show okPart L[x] = false from g, Bool.false_and] at hs
      rw [g, show (!false) = true from rfl]
      have e : checkL L = false := by unfold checkL; rw [hs, Bool.and_false]
      repeat' first | exact e | trivial | rfl | apply And.intro
  · rw [List.drop_of_length_le (by omega)] at hs
    have hs : L.all okPart = true := hs
    rw [dec_ge (by omega : L.length ≤ x)]
    by_cases g : 1 ≤ L.length
    · have e : checkL L = decide ((L.length : Int) ≤ 8) := by
        unfold checkL
        rw [hs, decide_eq_true g, Bool.and_true, Bool.true_and]
        by_cases k : L.length ≤ 8
        · rw [decide_eq_true k, decide_eq_true (by omega)]
        · rw [decide_eq_false k, decide_eq_false (by omega)]
      rw [show decide ((L.length : Int) ≥ 1) = true from decide_eq_true (by omega)]
      repeat' first | exact e | trivial | rfl | apply And.intro
    · have e : checkL L = false := by unfold checkL; rw [decide_eq_false g, Bool.false_and, Bool.false_and]
      rw [show decide ((L.length : Int) ≥ 1) = false from decide_eq_false (by omega)]
      repeat' first | exact e | trivial | rfl | apply And.intro
noncomputable def r14CheckCon : Con T O := fun args cs => match args, cs with
  | [.own 0], [.ro 3 L] => chk (decide (L.length ≤ 100000)) (.ret ⟨some (.raw (.bool (checkL L))), []⟩)
  | _, _ => .fail
theorem r14CheckOk : ConOk R Try.prog 35 r14CheckCon := con_of_fn R (X14) (TabOk.con R X14Ok) mixed Try.call35 Try.func35 r14CheckCon (by
  intro args cs K h
  unfold r14CheckCon at h
  split at h
  · rename_i L
    rw [Tree.holds_chk] at h
    obtain ⟨hp, h⟩ := h
    refine ⟨oneLoop 2 { σ := Nat, st := fun S x => (S.keep [0]).int 3 x, inv := fun _ x => x ≤ L.length ∧ L.all okPart = (L.drop x).all okPart, m := fun x => L.length - x }, _, fun v S hv => ⟨_, h, hv⟩, ?_⟩
    rw [r14CheckVc L]
    exact r14CheckHolds L (of_decide_eq_true hp)
  · exact h.elim)
noncomputable def tab15 : Tab T O := (63, supBadCon) :: (67, supWeightsCon) :: (58, r14PeriodsCon) :: (35, r14CheckCon) :: tab14
theorem tabOk15 : TabOk R Try.prog tab15 := TabOk.cons R supBadOk <| TabOk.cons R supWeightsOk <| TabOk.cons R r14PeriodsOk <| TabOk.cons R r14CheckOk <| tabOk14
noncomputable def X15 : Ctx T O := { X0 with con := conOf tab15 }
theorem X15Ok : TabOk R X15.P tab15 := tabOk15
end Go.Proofs.Ytmnnjclnldaejaa

namespace Go.Proofs.Ytmnnjclnldaejaa
open Go.Sx Go.Proofs Classical
/-! ### slices.IndexFunc[[]regatta/api.Part,regatta/api.Part] -/
def indexPartText (L : List Part) : Prop := ((∃ x : Nat, (((x ≤ L.length) ∧ (firstI badPart L (0 : Int) = firstI badPart (List.drop x L) (↑x : Int))) ∧ ((True ∧ (True ∧ (True ∧ (((↑L.length : Int) = (↑L.length : Int)) ∧ (((↑x : Int) = (0 : Int)) ∧ True))))) ∧ ((L = L) ∧ True)))) ∧ (∀ x : Nat, (((x ≤ L.length) ∧ (firstI badPart L (0 : Int) = firstI badPart (List.drop x L) (↑x : Int))) → (match (decide ((↑x : Int) < (↑L.length : Int))) with | true => (match (inb (↑x : Int) L.length) with | true => (match (inb (↑x : Int) L.length) with | true => (match (!okP (at' partE.zero L (↑x : Int)).E (at' partE.zero L (↑x : Int)).P) with | true => (((firstI badPart L (0 : Int) = (↑x : Int)) ∧ True) ∧ ((L = L) ∧ True)) | false => (∃ x' : Nat, (((x' ≤ L.length) ∧ (firstI badPart L (0 : Int) = firstI badPart (List.drop x' L) (↑x' : Int))) ∧ ((L.length - x' < L.length - x) ∧ ((True ∧ (True ∧ (True ∧ (((↑L.length : Int) = (↑L.length : Int)) ∧ (((↑x' : Int) = IntKind.i64.wrap ((↑x : Int) + (1 : Int))) ∧ True))))) ∧ ((L = L) ∧ True)))))) | false => False) | false => False) | false => (((firstI badPart L (0 : Int) = (-1 : Int)) ∧ True) ∧ ((L = L) ∧ True))))))
theorem indexPartVc (L : List Part) : fnX X15 (oneLoop 2 { σ := Nat, st := fun S x => (S.keep [0, 1, 6, 7]).int 8 x, inv := fun _ x => x ≤ L.length ∧ firstI badPart L 0 = firstI badPart (L.drop x) x, m := fun x => L.length - x }) Try.f86 [.own 0, .fn 63 []] [.ro 3 L] (ends [.ro 3 L] ⟨some (.raw (.int .i64 (firstI badPart L 0))), []⟩) = indexPartText L := by kernel_rfl
theorem indexPartHolds (L : List Part) (hp : L.length ≤ 100000) : indexPartText L := by
  unfold indexPartText
  refine ⟨⟨0, ⟨Nat.zero_le _, rfl⟩, by repeat' first | trivial | rfl | apply And.intro⟩, ?_⟩
  rintro x ⟨hx, hs⟩
  by_cases h : x < L.length
  · have hwx := wrap_succ h (show L.length ≤ 140737488355328 by omega)
    rw [List.drop_eq_getElem_cons h] at hs
    simp only [firstI] at hs
    rw [dec_lt h, inb_nat h, at_nat h]
    by_cases g : okP L[x].E L[x].P = true
    · rw [show badPart L[x] = false by unfold badPart; rw [g]; rfl, cond_false] at hs
      rw [g, show (!true) = false from rfl]
      refine ⟨x + 1, ⟨h, hs⟩, by omega, ?_⟩
      repeat' first | exact hwx.symm | trivial | rfl | apply And.intro
    · have g : okP L[x].E L[x].P = false := by simpa using g
      rw [show badPart L[x] = true by unfold badPart; rw [g]; rfl, cond_true] at hs
      rw [g, show (!false) = true from rfl]
      repeat' first | exact hs | trivial | rfl | apply And.intro
  · rw [List.drop_of_length_le (by omega)] at hs
    rw [dec_ge (by omega : L.length ≤ x)]
    repeat' first | exact hs | trivial | rfl | apply And.intro
noncomputable def indexPartCon : Con T O := fun args cs => match args, cs with
  | [.own 0, .fn 63 []], [.ro 3 L] => chk (decide (L.length ≤ 100000)) (.ret ⟨some (.raw (.int .i64 (firstI badPart L 0))), []⟩)
  | _, _ => .fail
theorem indexPartOk : ConOk R Try.prog 86 indexPartCon := con_of_fn R (X15) (TabOk.con R X15Ok) mixed Try.call86 Try.func86 indexPartCon (by
  intro args cs K h
  unfold indexPartCon at h
  split at h
  · rename_i L
    rw [Tree.holds_chk] at h
    obtain ⟨hp, h⟩ := h
    refine ⟨oneLoop 2 { σ := Nat, st := fun S x => (S.keep [0, 1, 6, 7]).int 8 x, inv := fun _ x => x ≤ L.length ∧ firstI badPart L 0 = firstI badPart (L.drop x) x, m := fun x => L.length - x }, _, fun v S hv => ⟨_, h, hv⟩, ?_⟩
    rw [indexPartVc L]
    exact indexPartHolds L (of_decide_eq_true hp)
  · exact h.elim)
noncomputable def tab16 : Tab T O := (86, indexPartCon) :: tab15
theorem tabOk16 : TabOk R Try.prog tab16 := TabOk.cons R indexPartOk <| tabOk15
noncomputable def X16 : Ctx T O := { X0 with con := conOf tab16 }
theorem X16Ok : TabOk R X16.P tab16 := tabOk16
end Go.Proofs.Ytmnnjclnldaejaa

namespace Go.Proofs.Ytmnnjclnldaejaa
open Go.Sx Go.Proofs Classical
/-! ### slices.ContainsFunc[[]regatta/api.Part,regatta/api.Part] -/
def containsPartText (L : List Part) : Prop := (match (decide (L.length ≤ (100000 : Nat))) with | true => (((L.any badPart = decide (firstI badPart L (0 : Int) ≥ (0 : Int))) ∧ True) ∧ ((L = L) ∧ True)) | false => False)
theorem containsPartVc (L : List Part) : fnX X16 (noAnn) Try.f62 [.own 0, .fn 63 []] [.ro 3 L] (ends [.ro 3 L] ⟨some (.raw (.bool (L.any badPart))), []⟩) = containsPartText L := by kernel_rfl
theorem containsPartHolds (L : List Part) (hp : L.length ≤ 100000) : containsPartText L := by
  unfold containsPartText
  rw [decide_eq_true hp]
  refine ⟨⟨(firstI_any badPart L 0 (by decide)).symm, trivial⟩, ?_⟩
  repeat' first | apply And.intro | exact True.intro | exact rfl
noncomputable def containsPartCon : Con T O := fun args cs => match args, cs with
  | [.own 0, .fn 63 []], [.ro 3 L] => chk (decide (L.length ≤ 100000)) (.ret ⟨some (.raw (.bool (L.any badPart))), []⟩)
  | _, _ => .fail
theorem containsPartOk : ConOk R Try.prog 62 containsPartCon := con_of_fn R (X16) (TabOk.con R X16Ok) mixed Try.call62 Try.func62 containsPartCon (by
  intro args cs K h
  unfold containsPartCon at h
  split at h
  · rename_i L
    rw [Tree.holds_chk] at h
    obtain ⟨hp, h⟩ := h
    refine ⟨noAnn, _, fun v S hv => ⟨_, h, hv⟩, ?_⟩
    rw [containsPartVc L]
    exact containsPartHolds L (of_decide_eq_true hp)
  · exact h.elim)
noncomputable def tab17 : Tab T O := (62, containsPartCon) :: tab16
theorem tabOk17 : TabOk R Try.prog tab17 := TabOk.cons R containsPartOk <| tabOk16
noncomputable def X17 : Ctx T O := { X0 with con := conOf tab17 }
theorem X17Ok : TabOk R X17.P tab17 := tabOk17
end Go.Proofs.Ytmnnjclnldaejaa

namespace Go.Proofs.Ytmnnjclnldaejaa
open Go.Sx Go.Proofs Classical
/-! ### regatta/super.Check -/
def supCheckText (L : List Part) : Prop := (match (decide ((↑L.length : Int) > (0 : Int))) with | true => (match (decide ((↑L.length : Int) ≤ (8 : Int))) with | true => (match (decide (L.length ≤ (100000 : Nat))) with | true => (((checkL L = !L.any badPart) ∧ True) ∧ ((L = L) ∧ True)) | false => False) | false => (((checkL L = false) ∧ True) ∧ ((L = L) ∧ True))) | false => (((checkL L = false) ∧ True) ∧ ((L = L) ∧ True)))
theorem supCheckVc (L : List Part) : fnX X17 (noAnn) Try.f33 [.own 0] [.ro 3 L] (ends [.ro 3 L] ⟨some (.raw (.bool (checkL L))), []⟩) = supCheckText L := by kernel_rfl
theorem supCheckHolds (L : List Part) (hp : L.length ≤ 100000) : supCheckText L := by
  unfold supCheckText
  have hb : L.all okPart = !L.any badPart := any_bad L
  rw [decide_eq_true hp]
  by_cases g : 1 ≤ L.length
  · rw [show decide ((L.length : Int) > 0) = true from decide_eq_true (by omega)]
    by_cases k : L.length ≤ 8
    · rw [show decide ((L.length : Int) ≤ 8) = true from decide_eq_true (by omega)]
      have e : checkL L = !L.any badPart := by unfold checkL; rw [hb, decide_eq_true g, decide_eq_true k, Bool.true_and, Bool.true_and]
      repeat' first | exact e | trivial | rfl | apply And.intro
    · rw [show decide ((L.length : Int) ≤ 8) = false from decide_eq_false (by omega)]
      have e : checkL L = false := by unfold checkL; rw [decide_eq_false k, Bool.and_false, Bool.false_and]
      repeat' first | exact e | trivial | rfl | apply And.intro
  · rw [show decide ((L.length : Int) > 0) = false from decide_eq_false (by omega)]
    have e : checkL L = false := by unfold checkL; rw [decide_eq_false g, Bool.false_and, Bool.false_and]
    repeat' first | exact e | trivial | rfl | apply And.intro
noncomputable def supCheckBCon : Con T O := fun args cs => match args, cs with
  | [.own 0], [.ro 3 L] => chk (decide (L.length ≤ 100000)) (.ret ⟨some (.raw (.bool (checkL L))), []⟩)
  | _, _ => .fail
theorem supCheckBOk : ConOk R Try.prog 33 supCheckBCon := con_of_fn R (X17) (TabOk.con R X17Ok) mixed Try.call33 Try.func33 supCheckBCon (by
  intro args cs K h
  unfold supCheckBCon at h
  split at h
  · rename_i L
    rw [Tree.holds_chk] at h
    obtain ⟨hp, h⟩ := h
    refine ⟨noAnn, _, fun v S hv => ⟨_, h, hv⟩, ?_⟩
    rw [supCheckVc L]
    exact supCheckHolds L (of_decide_eq_true hp)
  · exact h.elim)
noncomputable def supCheckCon : Con T O := relax 3 supCheckBCon
theorem supCheckOk : ConOk R Try.prog 33 supCheckCon := relax_ok R 3 supCheckBOk
noncomputable def tab18 : Tab T O := (33, supCheckCon) :: tab17
theorem tabOk18 : TabOk R Try.prog tab18 := TabOk.cons R supCheckOk <| tabOk17
noncomputable def X18 : Ctx T O := { X0 with con := conOf tab18 }
theorem X18Ok : TabOk R X18.P tab18 := tabOk18
end Go.Proofs.Ytmnnjclnldaejaa
