/-
  Part of a proof over the seat Ythfggjfpokknlaa: printed by a small program or typed by hand.
-/
import Derived.Test.YthfggjfpokknlaaStaBase
import Derived.KernelRfl
namespace Go.Proofs.Ythfggjfpokknlaa
open Go.Sx Go.Proofs Classical

abbrev CM : Type := List (Int × Int)
def getM (M : CM) (k : Int) : Int := (mget k M).getD 0
def codeS (x : Int) : Int := ((UInt8.ofNat x.toNat).toNat : Int)
/-- as far as it may go up -/
def upN (h n : Int) : Int := if IntKind.i64.wrap (1099511627776 - h) < n then IntKind.i64.wrap (1099511627776 - h) else n
def addN (h n : Int) : Int := IntKind.i64.wrap (h + (if upN h n > IntKind.i64.wrap (0 - h) then upN h n else IntKind.i64.wrap (0 - h)))
def addM (M : CM) (k n : Int) : CM := bif addN (getM M k) n == 0 then mdel k M else mput k (addN (getM M k) n) M
def noCount : CM := []

/-! ### cmp.isNaN[int64] -/
def nanL (a0 : Int) : Bool := (a0 != a0)
noncomputable def nanLCon : Con T O := fun args cs => match args, cs with
  | [.raw (.int .i64 a0)], [] => retv (.raw (.bool (nanL a0)))
  | _, _ => .fail
theorem nanLVc (a0 : Int) : fnX X0 noAnn Try.f52 [.raw (.int .i64 a0)] [] (ends [] ⟨some (.raw (.bool (nanL a0))), []⟩) = (((nanL a0 = (a0 != a0)) ∧ True) ∧ True) := by kernel_rfl
theorem nanLOk : ConOk R Try.prog 52 nanLCon := con_of_fn R X0 (TabOk.con R X0Ok) mixed Try.call52 Try.func52 nanLCon (by
  intro args cs K h
  unfold nanLCon at h
  split at h
  · rename_i a0
    refine ⟨noAnn, _, fun v S hv => ⟨_, h, hv⟩, ?_⟩
    rw [nanLVc a0]
    unfold nanL
    exact ⟨⟨rfl, trivial⟩, trivial⟩
  · exact h.elim)
/-! ### regatta/stats.New[int] -/
def newIText  : Prop := ((True ∧ True) ∧ ((True ∧ True) ∧ ((noCount = []) ∧ True)))
theorem newIVc  : fnX X0 (noAnn) Try.f10 [] [] (ends [] ⟨some (.ptr 0 0), [(0, some (.cells [.own 1] 51)), (1, some (.map 0 noCount))]⟩) = newIText  := by kernel_rfl
theorem newIHolds  : newIText  := by
  unfold newIText
  repeat' first | trivial | rfl | apply And.intro
noncomputable def newICon : Con T O := fun args cs => match args, cs with
  | [], [] => .ret ⟨some (.ptr 0 0), [(0, some (.cells [.own 1] 51)), (1, some (.map 0 noCount))]⟩
  | _, _ => .fail
theorem newIOk : ConOk R Try.prog 10 newICon := con_of_fn R (X0) (TabOk.con R X0Ok) mixed Try.call10 Try.func10 newICon (by
  intro args cs K h
  unfold newICon at h
  split at h
  ·
    refine ⟨noAnn, _, fun v S hv => ⟨_, h, hv⟩, ?_⟩
    rw [newIVc ]
    exact newIHolds 
  · exact h.elim)
/-! ### (*regatta/stats.Counter[int]).Get -/
def getIK0Text (M : CM) (k : Int) : Prop := (((getM M k = (mget k M).getD (0 : Int)) ∧ True) ∧ ((True ∧ True) ∧ ((M = M) ∧ True)))
theorem getIK0Vc (M : CM) (k : Int) : fnX X0 (noAnn) Try.f13 [.ptr 0 0, .raw (.int .i64 k)] [.cells [.own 1] 51, .map 0 M] (ends [.cells [.own 1] 51, .map 0 M] ⟨some (.raw (.int .i64 (getM M k))), [(1, some (.map 0 M))]⟩) = getIK0Text M k := by kernel_rfl
theorem getIK0Holds (M : CM) (k : Int) : getIK0Text M k := by
  unfold getIK0Text
  repeat' first | trivial | rfl | apply And.intro
def getIK1Text (k : Int) : Prop := ((((0 : Int) = (0 : Int)) ∧ True) ∧ True)
theorem getIK1Vc (k : Int) : fnX X0 (noAnn) Try.f13 [.raw (.pointer none), .raw (.int .i64 k)] [] (ends [] ⟨some (.raw (.int .i64 0)), []⟩) = getIK1Text k := by kernel_rfl
theorem getIK1Holds (k : Int) : getIK1Text k := by
  unfold getIK1Text
  repeat' first | trivial | rfl | apply And.intro
def getIK2Text (k : Int) : Prop := ((((0 : Int) = (mget k []).getD (0 : Int)) ∧ True) ∧ (((Value.map none = Value.map none) ∧ True) ∧ True))
theorem getIK2Vc (k : Int) : fnX X0 (noAnn) Try.f13 [.ptr 0 0, .raw (.int .i64 k)] [.cells [.raw (.map none)] 51] (ends [.cells [.raw (.map none)] 51] ⟨some (.raw (.int .i64 0)), []⟩) = getIK2Text k := by kernel_rfl
theorem getIK2Holds (k : Int) : getIK2Text k := by
  unfold getIK2Text
  repeat' first | trivial | rfl | apply And.intro
noncomputable def getICon : Con T O := fun args cs => match args, cs with
  | [.ptr 0 0, .raw (.int .i64 k)], [.cells [.own 1] 51, .map 0 M] => .ret ⟨some (.raw (.int .i64 (getM M k))), [(1, some (.map 0 M))]⟩
  | [.raw (.pointer none), .raw (.int .i64 _)], [] => .ret ⟨some (.raw (.int .i64 0)), []⟩
  | [.ptr 0 0, .raw (.int .i64 _)], [.cells [.raw (.map none)] 51] => .ret ⟨some (.raw (.int .i64 0)), []⟩
  | _, _ => .fail
theorem getIOk : ConOk R Try.prog 13 getICon := con_of_fn R (X0) (TabOk.con R X0Ok) mixed Try.call13 Try.func13 getICon (by
  intro args cs K h
  unfold getICon at h
  split at h
  · rename_i k M
    refine ⟨noAnn, _, fun v S hv => ⟨_, h, hv⟩, ?_⟩
    rw [getIK0Vc M k]
    exact getIK0Holds M k
  · rename_i k
    refine ⟨noAnn, _, fun v S hv => ⟨_, h, hv⟩, ?_⟩
    rw [getIK1Vc k]
    exact getIK1Holds k
  · rename_i k
    refine ⟨noAnn, _, fun v S hv => ⟨_, h, hv⟩, ?_⟩
    rw [getIK2Vc k]
    exact getIK2Holds k
  · exact h.elim)
/-! ### (*regatta/stats.Counter[int]).Add -/
def addIK0Text (M : CM) (k : Int) (n : Int) : Prop := (match (IntKind.i64.wrap ((mget k M).getD (0 : Int) + if (if IntKind.i64.wrap ((1099511627776 : Int) - (mget k M).getD (0 : Int)) < n then IntKind.i64.wrap ((1099511627776 : Int) - (mget k M).getD (0 : Int)) else n) > IntKind.i64.wrap ((0 : Int) - (mget k M).getD (0 : Int)) then if IntKind.i64.wrap ((1099511627776 : Int) - (mget k M).getD (0 : Int)) < n then IntKind.i64.wrap ((1099511627776 : Int) - (mget k M).getD (0 : Int)) else n else IntKind.i64.wrap ((0 : Int) - (mget k M).getD (0 : Int))) == (0 : Int)) with | true => (((addN (getM M k) n = (0 : Int)) ∧ True) ∧ ((True ∧ True) ∧ ((addM M k n = mdel k M) ∧ True))) | false => (((addN (getM M k) n = IntKind.i64.wrap ((mget k M).getD (0 : Int) + if (if IntKind.i64.wrap ((1099511627776 : Int) - (mget k M).getD (0 : Int)) < n then IntKind.i64.wrap ((1099511627776 : Int) - (mget k M).getD (0 : Int)) else n) > IntKind.i64.wrap ((0 : Int) - (mget k M).getD (0 : Int)) then if IntKind.i64.wrap ((1099511627776 : Int) - (mget k M).getD (0 : Int)) < n then IntKind.i64.wrap ((1099511627776 : Int) - (mget k M).getD (0 : Int)) else n else IntKind.i64.wrap ((0 : Int) - (mget k M).getD (0 : Int)))) ∧ True) ∧ ((True ∧ True) ∧ ((addM M k n = mput k (IntKind.i64.wrap ((mget k M).getD (0 : Int) + if (if IntKind.i64.wrap ((1099511627776 : Int) - (mget k M).getD (0 : Int)) < n then IntKind.i64.wrap ((1099511627776 : Int) - (mget k M).getD (0 : Int)) else n) > IntKind.i64.wrap ((0 : Int) - (mget k M).getD (0 : Int)) then if IntKind.i64.wrap ((1099511627776 : Int) - (mget k M).getD (0 : Int)) < n then IntKind.i64.wrap ((1099511627776 : Int) - (mget k M).getD (0 : Int)) else n else IntKind.i64.wrap ((0 : Int) - (mget k M).getD (0 : Int)))) M) ∧ True))))
theorem addIK0Vc (M : CM) (k : Int) (n : Int) : fnX X0 (noAnn) Try.f11 [.ptr 0 0, .raw (.int .i64 k), .raw (.int .i64 n)] [.cells [.own 1] 51, .map 0 M] (ends [.cells [.own 1] 51, .map 0 M] ⟨some (.raw (.int .i64 (addN (getM M k) n))), [(1, some (.map 0 (addM M k n)))]⟩) = addIK0Text M k n := by kernel_rfl
theorem addIK0Holds (M : CM) (k : Int) (n : Int) : addIK0Text M k n := by
  unfold addIK0Text
  split
  · rename_i heq
    have e : (addN (getM M k) n == 0) = true := heq
    have e0 : addN (getM M k) n = 0 := beq_iff_eq.1 e
    have eM : addM M k n = mdel k M := by unfold addM; rw [show (addN (getM M k) n == 0) = true from e]; rfl
    repeat' first | exact e0 | exact eM | trivial | rfl | apply And.intro
  · rename_i heq
    have e : (addN (getM M k) n == 0) = false := heq
    have eM : addM M k n = mput k (addN (getM M k) n) M := by unfold addM; rw [show (addN (getM M k) n == 0) = false from e]; rfl
    repeat' first | exact eM | trivial | rfl | apply And.intro
def addIK1Text (k : Int) (n : Int) : Prop := ((((0 : Int) = (0 : Int)) ∧ True) ∧ True)
theorem addIK1Vc (k : Int) (n : Int) : fnX X0 (noAnn) Try.f11 [.raw (.pointer none), .raw (.int .i64 k), .raw (.int .i64 n)] [] (ends [] ⟨some (.raw (.int .i64 0)), []⟩) = addIK1Text k n := by kernel_rfl
theorem addIK1Holds (k : Int) (n : Int) : addIK1Text k n := by
  unfold addIK1Text
  repeat' first | trivial | rfl | apply And.intro
def addIK2Text (k : Int) (n : Int) : Prop := (match (IntKind.i64.wrap ((mget k []).getD (0 : Int) + if (if IntKind.i64.wrap ((1099511627776 : Int) - (mget k []).getD (0 : Int)) < n then IntKind.i64.wrap ((1099511627776 : Int) - (mget k []).getD (0 : Int)) else n) > IntKind.i64.wrap ((0 : Int) - (mget k []).getD (0 : Int)) then if IntKind.i64.wrap ((1099511627776 : Int) - (mget k []).getD (0 : Int)) < n then IntKind.i64.wrap ((1099511627776 : Int) - (mget k []).getD (0 : Int)) else n else IntKind.i64.wrap ((0 : Int) - (mget k []).getD (0 : Int))) == (0 : Int)) with | true => (((addN (0 : Int) n = (0 : Int)) ∧ True) ∧ ((True ∧ True) ∧ ((addM noCount k n = mdel k []) ∧ True))) | false => (((addN (0 : Int) n = IntKind.i64.wrap ((mget k []).getD (0 : Int) + if (if IntKind.i64.wrap ((1099511627776 : Int) - (mget k []).getD (0 : Int)) < n then IntKind.i64.wrap ((1099511627776 : Int) - (mget k []).getD (0 : Int)) else n) > IntKind.i64.wrap ((0 : Int) - (mget k []).getD (0 : Int)) then if IntKind.i64.wrap ((1099511627776 : Int) - (mget k []).getD (0 : Int)) < n then IntKind.i64.wrap ((1099511627776 : Int) - (mget k []).getD (0 : Int)) else n else IntKind.i64.wrap ((0 : Int) - (mget k []).getD (0 : Int)))) ∧ True) ∧ ((True ∧ True) ∧ ((addM noCount k n = mput k (IntKind.i64.wrap ((mget k []).getD (0 : Int) + if (if IntKind.i64.wrap ((1099511627776 : Int) - (mget k []).getD (0 : Int)) < n then IntKind.i64.wrap ((1099511627776 : Int) - (mget k []).getD (0 : Int)) else n) > IntKind.i64.wrap ((0 : Int) - (mget k []).getD (0 : Int)) then if IntKind.i64.wrap ((1099511627776 : Int) - (mget k []).getD (0 : Int)) < n then IntKind.i64.wrap ((1099511627776 : Int) - (mget k []).getD (0 : Int)) else n else IntKind.i64.wrap ((0 : Int) - (mget k []).getD (0 : Int)))) []) ∧ True))))
theorem addIK2Vc (k : Int) (n : Int) : fnX X0 (noAnn) Try.f11 [.ptr 0 0, .raw (.int .i64 k), .raw (.int .i64 n)] [.cells [.raw (.map none)] 51] (ends [.cells [.raw (.map none)] 51] ⟨some (.raw (.int .i64 (addN 0 n))), [(0, some (.cells [.own 1] 51)), (1, some (.map 0 (addM noCount k n)))]⟩) = addIK2Text k n := by kernel_rfl
theorem addIK2Holds (k : Int) (n : Int) : addIK2Text k n := by
  unfold addIK2Text
  split
  · rename_i heq
    have e : (addN (0) n == 0) = true := heq
    have e0 : addN (0) n = 0 := beq_iff_eq.1 e
    have eM : addM noCount k n = mdel k noCount := by unfold addM; rw [show (addN (getM noCount k) n == 0) = true from e]; rfl
    repeat' first | exact e0 | exact eM | trivial | rfl | apply And.intro
  · rename_i heq
    have e : (addN (0) n == 0) = false := heq
    have eM : addM noCount k n = mput k (addN (getM noCount k) n) noCount := by unfold addM; rw [show (addN (getM noCount k) n == 0) = false from e]; rfl
    repeat' first | exact eM | trivial | rfl | apply And.intro
noncomputable def addICon : Con T O := fun args cs => match args, cs with
  | [.ptr 0 0, .raw (.int .i64 k), .raw (.int .i64 n)], [.cells [.own 1] 51, .map 0 M] => .ret ⟨some (.raw (.int .i64 (addN (getM M k) n))), [(1, some (.map 0 (addM M k n)))]⟩
  | [.raw (.pointer none), .raw (.int .i64 _), .raw (.int .i64 _)], [] => .ret ⟨some (.raw (.int .i64 0)), []⟩
  | [.ptr 0 0, .raw (.int .i64 k), .raw (.int .i64 n)], [.cells [.raw (.map none)] 51] => .ret ⟨some (.raw (.int .i64 (addN 0 n))), [(0, some (.cells [.own 1] 51)), (1, some (.map 0 (addM noCount k n)))]⟩
  | _, _ => .fail
theorem addIOk : ConOk R Try.prog 11 addICon := con_of_fn R (X0) (TabOk.con R X0Ok) mixed Try.call11 Try.func11 addICon (by
  intro args cs K h
  unfold addICon at h
  split at h
  · rename_i k n M
    refine ⟨noAnn, _, fun v S hv => ⟨_, h, hv⟩, ?_⟩
    rw [addIK0Vc M k n]
    exact addIK0Holds M k n
  · rename_i k n
    refine ⟨noAnn, _, fun v S hv => ⟨_, h, hv⟩, ?_⟩
    rw [addIK1Vc k n]
    exact addIK1Holds k n
  · rename_i k n
    refine ⟨noAnn, _, fun v S hv => ⟨_, h, hv⟩, ?_⟩
    rw [addIK2Vc k n]
    exact addIK2Holds k n
  · exact h.elim)
/-! ### maps.Keys[map[int]int64,int,int64] -/
def keysIText (M : CM) : Prop := (((True ∧ True) ∧ True) ∧ ((M = M) ∧ ((True ∧ True) ∧ True)))
theorem keysIVc (M : CM) : fnX X0 (noAnn) Try.f36 [.own 0] [.map 0 M] (ends [.map 0 M] ⟨some (.fn 50 [.ptr 1 0]), [(0, some (.map 0 M)), (1, some (.cells [.own 0] 49))]⟩) = keysIText M := by kernel_rfl
theorem keysIHolds (M : CM) : keysIText M := by
  unfold keysIText
  repeat' first | trivial | rfl | apply And.intro
noncomputable def keysICon : Con T O := fun args cs => match args, cs with
  | [.own 0], [.map 0 M] => .ret ⟨some (.fn 50 [.ptr 1 0]), [(0, some (.map 0 M)), (1, some (.cells [.own 0] 49))]⟩
  | _, _ => .fail
theorem keysIOk : ConOk R Try.prog 36 keysICon := con_of_fn R (X0) (TabOk.con R X0Ok) mixed Try.call36 Try.func36 keysICon (by
  intro args cs K h
  unfold keysICon at h
  split at h
  · rename_i M
    refine ⟨noAnn, _, fun v S hv => ⟨_, h, hv⟩, ?_⟩
    rw [keysIVc M]
    exact keysIHolds M
  · exact h.elim)
/-! ### regatta/stats.New[string] -/
def newSText  : Prop := ((True ∧ True) ∧ ((True ∧ True) ∧ ((noCount = []) ∧ True)))
theorem newSVc  : fnX X0 (noAnn) Try.f22 [] [] (ends [] ⟨some (.ptr 0 0), [(0, some (.cells [.own 1] 70)), (1, some (.map 3 noCount))]⟩) = newSText  := by kernel_rfl
theorem newSHolds  : newSText  := by
  unfold newSText
  repeat' first | trivial | rfl | apply And.intro
noncomputable def newSCon : Con T O := fun args cs => match args, cs with
  | [], [] => .ret ⟨some (.ptr 0 0), [(0, some (.cells [.own 1] 70)), (1, some (.map 3 noCount))]⟩
  | _, _ => .fail
theorem newSOk : ConOk R Try.prog 22 newSCon := con_of_fn R (X0) (TabOk.con R X0Ok) mixed Try.call22 Try.func22 newSCon (by
  intro args cs K h
  unfold newSCon at h
  split at h
  ·
    refine ⟨noAnn, _, fun v S hv => ⟨_, h, hv⟩, ?_⟩
    rw [newSVc ]
    exact newSHolds 
  · exact h.elim)
/-! ### (*regatta/stats.Counter[string]).Get -/
def getSText (M : CM) (c : UInt8) : Prop := (((getM M (↑c.toNat : Int) = (mget (↑c.toNat : Int) M).getD (0 : Int)) ∧ True) ∧ ((True ∧ True) ∧ ((M = M) ∧ True)))
theorem getSVc (M : CM) (c : UInt8) : fnX X0 (noAnn) Try.f25 [.ptr 0 0, .raw (.string ⟨⟨[c]⟩⟩)] [.cells [.own 1] 70, .map 3 M] (ends [.cells [.own 1] 70, .map 3 M] ⟨some (.raw (.int .i64 (getM M (c.toNat : Int)))), [(1, some (.map 3 M))]⟩) = getSText M c := by kernel_rfl
theorem getSHolds (M : CM) (c : UInt8) : getSText M c := by
  unfold getSText
  repeat' first | trivial | rfl | apply And.intro
noncomputable def getSCon : Con T O := fun args cs => match args, cs with
  | [.ptr 0 0, .raw (.string ⟨⟨[c]⟩⟩)], [.cells [.own 1] 70, .map 3 M] => .ret ⟨some (.raw (.int .i64 (getM M (c.toNat : Int)))), [(1, some (.map 3 M))]⟩
  | _, _ => .fail
theorem getSOk : ConOk R Try.prog 25 getSCon := con_of_fn R (X0) (TabOk.con R X0Ok) mixed Try.call25 Try.func25 getSCon (by
  intro args cs K h
  unfold getSCon at h
  split at h
  · rename_i c M
    refine ⟨noAnn, _, fun v S hv => ⟨_, h, hv⟩, ?_⟩
    rw [getSVc M c]
    exact getSHolds M c
  · exact h.elim)
/-! ### (*regatta/stats.Counter[string]).Add -/
def addSText (M : CM) (c : UInt8) (n : Int) : Prop := (match (IntKind.i64.wrap ((mget (↑c.toNat : Int) M).getD (0 : Int) + if (if IntKind.i64.wrap ((1099511627776 : Int) - (mget (↑c.toNat : Int) M).getD (0 : Int)) < n then IntKind.i64.wrap ((1099511627776 : Int) - (mget (↑c.toNat : Int) M).getD (0 : Int)) else n) > IntKind.i64.wrap ((0 : Int) - (mget (↑c.toNat : Int) M).getD (0 : Int)) then if IntKind.i64.wrap ((1099511627776 : Int) - (mget (↑c.toNat : Int) M).getD (0 : Int)) < n then IntKind.i64.wrap ((1099511627776 : Int) - (mget (↑c.toNat : Int) M).getD (0 : Int)) else n else IntKind.i64.wrap ((0 : Int) - (mget (↑c.toNat : Int) M).getD (0 : Int))) == (0 : Int)) with | true => (((addN (getM M (↑c.toNat : Int)) n = (0 : Int)) ∧ True) ∧ ((True ∧ True) ∧ ((addM M (↑c.toNat : Int) n = mdel (↑c.toNat : Int) M) ∧ True))) | false => (((addN (getM M (↑c.toNat : Int)) n = IntKind.i64.wrap ((mget (↑c.toNat : Int) M).getD (0 : Int) + if (if IntKind.i64.wrap ((1099511627776 : Int) - (mget (↑c.toNat : Int) M).getD (0 : Int)) < n then IntKind.i64.wrap ((1099511627776 : Int) - (mget (↑c.toNat : Int) M).getD (0 : Int)) else n) > IntKind.i64.wrap ((0 : Int) - (mget (↑c.toNat : Int) M).getD (0 : Int)) then if IntKind.i64.wrap ((1099511627776 : Int) - (mget (↑c.toNat : Int) M).getD (0 : Int)) < n then IntKind.i64.wrap ((1099511627776 : Int) - (mget (↑c.toNat : Int) M).getD (0 : Int)) else n else IntKind.i64.wrap ((0 : Int) - (mget (↑c.toNat : Int) M).getD (0 : Int)))) ∧ True) ∧ ((True ∧ True) ∧ ((addM M (↑c.toNat : Int) n = mput (↑c.toNat : Int) (IntKind.i64.wrap ((mget (↑c.toNat : Int) M).getD (0 : Int) + if (if IntKind.i64.wrap ((1099511627776 : Int) - (mget (↑c.toNat : Int) M).getD (0 : Int)) < n then IntKind.i64.wrap ((1099511627776 : Int) - (mget (↑c.toNat : Int) M).getD (0 : Int)) else n) > IntKind.i64.wrap ((0 : Int) - (mget (↑c.toNat : Int) M).getD (0 : Int)) then if IntKind.i64.wrap ((1099511627776 : Int) - (mget (↑c.toNat : Int) M).getD (0 : Int)) < n then IntKind.i64.wrap ((1099511627776 : Int) - (mget (↑c.toNat : Int) M).getD (0 : Int)) else n else IntKind.i64.wrap ((0 : Int) - (mget (↑c.toNat : Int) M).getD (0 : Int)))) M) ∧ True))))
theorem addSVc (M : CM) (c : UInt8) (n : Int) : fnX X0 (noAnn) Try.f23 [.ptr 0 0, .raw (.string ⟨⟨[c]⟩⟩), .raw (.int .i64 n)] [.cells [.own 1] 70, .map 3 M] (ends [.cells [.own 1] 70, .map 3 M] ⟨some (.raw (.int .i64 (addN (getM M (c.toNat : Int)) n))), [(1, some (.map 3 (addM M (c.toNat : Int) n)))]⟩) = addSText M c n := by kernel_rfl
theorem addSHolds (M : CM) (c : UInt8) (n : Int) : addSText M c n := by
  unfold addSText
  split
  · rename_i heq
    have e : (addN (getM M (c.toNat : Int)) n == 0) = true := heq
    have e0 : addN (getM M (c.toNat : Int)) n = 0 := beq_iff_eq.1 e
    have eM : addM M (c.toNat : Int) n = mdel (c.toNat : Int) M := by unfold addM; rw [show (addN (getM M (c.toNat : Int)) n == 0) = true from e]; rfl
    repeat' first | exact e0 | exact eM | trivial | rfl | apply And.intro
  · rename_i heq
    have e : (addN (getM M (c.toNat : Int)) n == 0) = false := heq
    have eM : addM M (c.toNat : Int) n = mput (c.toNat : Int) (addN (getM M (c.toNat : Int)) n) M := by unfold addM; rw [show (addN (getM M (c.toNat : Int)) n == 0) = false from e]; rfl
    repeat' first | exact eM | trivial | rfl | apply And.intro
noncomputable def addSCon : Con T O := fun args cs => match args, cs with
  | [.ptr 0 0, .raw (.string ⟨⟨[c]⟩⟩), .raw (.int .i64 n)], [.cells [.own 1] 70, .map 3 M] => .ret ⟨some (.raw (.int .i64 (addN (getM M (c.toNat : Int)) n))), [(1, some (.map 3 (addM M (c.toNat : Int) n)))]⟩
  | _, _ => .fail
theorem addSOk : ConOk R Try.prog 23 addSCon := con_of_fn R (X0) (TabOk.con R X0Ok) mixed Try.call23 Try.func23 addSCon (by
  intro args cs K h
  unfold addSCon at h
  split at h
  · rename_i c n M
    refine ⟨noAnn, _, fun v S hv => ⟨_, h, hv⟩, ?_⟩
    rw [addSVc M c n]
    exact addSHolds M c n
  · exact h.elim)
/-! ### maps.Keys[map[string]int64,string,int64] -/
def keysSText (M : CM) : Prop := (((True ∧ True) ∧ True) ∧ ((M = M) ∧ ((True ∧ True) ∧ True)))
theorem keysSVc (M : CM) : fnX X0 (noAnn) Try.f41 [.own 0] [.map 3 M] (ends [.map 3 M] ⟨some (.fn 55 [.ptr 1 0]), [(0, some (.map 3 M)), (1, some (.cells [.own 0] 68))]⟩) = keysSText M := by kernel_rfl
theorem keysSHolds (M : CM) : keysSText M := by
  unfold keysSText
  repeat' first | trivial | rfl | apply And.intro
noncomputable def keysSCon : Con T O := fun args cs => match args, cs with
  | [.own 0], [.map 3 M] => .ret ⟨some (.fn 55 [.ptr 1 0]), [(0, some (.map 3 M)), (1, some (.cells [.own 0] 68))]⟩
  | _, _ => .fail
theorem keysSOk : ConOk R Try.prog 41 keysSCon := con_of_fn R (X0) (TabOk.con R X0Ok) mixed Try.call41 Try.func41 keysSCon (by
  intro args cs K h
  unfold keysSCon at h
  split at h
  · rename_i M
    refine ⟨noAnn, _, fun v S hv => ⟨_, h, hv⟩, ?_⟩
    rw [keysSVc M]
    exact keysSHolds M
  · exact h.elim)
noncomputable def tab1 : Tab T O := (52, nanLCon) :: (10, newICon) :: (13, getICon) :: (11, addICon) :: (36, keysICon) :: (22, newSCon) :: (25, getSCon) :: (23, addSCon) :: (41, keysSCon) :: tab0
theorem tabOk1 : TabOk R Try.prog tab1 := TabOk.cons R nanLOk <| TabOk.cons R newIOk <| TabOk.cons R getIOk <| TabOk.cons R addIOk <| TabOk.cons R keysIOk <| TabOk.cons R newSOk <| TabOk.cons R getSOk <| TabOk.cons R addSOk <| TabOk.cons R keysSOk <| tabOk0
noncomputable def X1 : Ctx T O := { X0 with con := conOf tab1 }
theorem X1Ok : TabOk R X1.P tab1 := tabOk1
end Go.Proofs.Ythfggjfpokknlaa
