/-
  Part of a proof over the seat Ythfggjfpokknlaa: printed by a small program or typed by hand.
-/
import Derived.Shelf.SlIterI.Nil
import Derived.Shelf.SlIter.Nil
import Derived.Shelf.SortM.Plain
import Derived.Shelf.SortM.SortNone
import Derived.Ground.GgzProg
import Derived.Ground.SlgmProg
import Derived.Test.YthfggjfpokknlaaChecked
namespace Go.Proofs.Ythfggjfpokknlaa
open Go.Proofs Go.RowKit Go.Maps Go.Sort Go.Shelf Go.WideElems

shelf_lay_g SlLaysZI.n7 Ggz 7 at Try 36 as layKeys
shelf_lay_g SlLaysZI.n6 Ggz 6 at Try 35 as laySorted
shelf_lay_g SlLaysM.n5 Slgm 5 at Try 49 as laySort

theorem sortsI (m : Nat) : AnyZI.SortsIn Try.prog laySorted_ren Fence.wide m :=
  ⟨fun blk off cap ss W hH hblk hsz => callsIn_wide.2 (AnyM.slices_Sort_int laySort blk off cap ss W hH hblk hsz),
   fun p cap W => callsIn_wide.2 (AnyM.slices_Sort_int_none laySort p cap W)⟩

set_option maxHeartbeats 1000000 in
theorem sorted_keys {H : Type} (b nn Bm : Nat) (D0 : DataW H) (R : Value → Option (DataW H × List MemPlace)) (w : World) (hown : w.ownsMap Try.prog 3 R b nn D0) (hBm : Bm < w.heap.size) (hm : w.cell? ⟨Bm, 0, none⟩ = some (.map (some b))) (hmax : Maps.size D0 ≤ maxLen) (hbytes : Maps.size D0 * 8 ≤ 140737488355328) :
    CallsIn Fence.wide 5 Try.prog 35 #[.func (.func 50) #[] #[.pointer (some ⟨Bm, 0, none⟩)]] w fun e w' => ∃ (v : Value) (ss : List Int), e = .returned v ∧ ss.Perm (intKeys D0) ∧
      w'.ownsRow w.heap.size 3 1 v ss.length ((ss.mergeSort (fun x y => decide (x ≤ y))).map encZ) ∧ Below w.heap.size w w' := by
  have hseq : SeqGives Fence.wide 2 Try.prog 50 #[.pointer (some ⟨Bm, 0, none⟩)] encZ (fun ss => ss.Perm (intKeys D0)) (Maps.size D0) w :=
    AnyZI.keys_gives (ρ := layKeys_ren) { layKeys with } Fence.wide _ trivial rfl (by omega) Bm b nn D0 _ hBm hm hown
  have cS := AnyZI.sorted_in laySorted Fence.wide 5 trivial trivial trivial trivial rfl (by omega) (sortsI _) (enters_of Try.func49 (by kernel_rfl) rfl) 50 #[.pointer (some ⟨Bm, 0, none⟩)] trivial (enters_of Try.func50 (by kernel_rfl) rfl) _ _ hmax hbytes _ hseq
  refine cS.mono ?_
  rintro e w' ⟨v, ss, he, hS, hrow, _, hb⟩
  exact ⟨v, ss, he, hS, hrow, hb⟩

def RAny : Value → Option (DataW Unit × List MemPlace) := fun _ => some (.nil, [])
theorem keys_of_entries {es : Array MapEntry} {clock : Nat} {ks : List Int} (hes : es.toList.map (·.key) = ks.map encZ) (hwf : ∀ x ∈ ks, (Lit.int .i64 x).wf = true) (hst : MapKept.Stamped es clock) (hsz : ks.length ≤ maxLen) {w : World} {b : Nat} (hb : w.heap[b]? = some (.map es clock)) (hu : Try.prog.underlying 3 = some (.int .i64)) :
    ∃ D0, w.ownsMap Try.prog 3 RAny b ks.length D0 ∧ Maps.size D0 = ks.length ∧ (intKeys D0).Perm ks := by
  have hlen : es.size = ks.length := by
    have := congrArg List.length hes
    simpa using this
  have hk : ∀ x ∈ es.toList, ∃ n, x.key = encZ n ∧ n ∈ ks := by
    intro x hx
    have : x.key ∈ es.toList.map (·.key) := List.mem_map.2 ⟨x, hx, rfl⟩
    rw [hes] at this
    obtain ⟨n, hn, e⟩ := List.mem_map.1 this
    exact ⟨n, e.symm, hn⟩
  have hkey : ∀ n ∈ ks, keyOf Try.prog 3 (encZ n) = some (.int .i64 n) := fun n hn => keyOf_int_mk hu (hwf n hn)
  have hrd : ∀ x ∈ es.toList, ∃ n, x.key = encZ n ∧ n ∈ ks ∧ Go.WideElems.rd Try.prog 3 RAny x = some (.int .i64 n, .nil) := by
    intro x hx
    obtain ⟨n, e, hn⟩ := hk x hx
    refine ⟨n, e, hn, ?_⟩
    unfold Go.WideElems.rd
    rw [e, hkey n hn]
    rfl
  refine ⟨_, ⟨es, clock, hb, ⟨by rw [hlen]; exact hsz, hst, fun x hx => ?_⟩, Nat.le_of_eq hlen, rfl⟩, ?_, ?_⟩
  · obtain ⟨n, _, _, h⟩ := hrd x hx
    exact ⟨_, h⟩
  · show ((es.toList.map (Go.WideElems.rg Try.prog 3 RAny)).foldr DataW.insert []).length = _
    rw [length_sorted]
    simpa using hlen
  · show (((es.toList.map (Go.WideElems.rg Try.prog 3 RAny)).foldr DataW.insert []).map fun p => Go.intOf p.1).Perm ks
    refine ((Go.WideShapes.sorted_perm _).map _).trans ?_
    rw [List.map_map]
    have : es.toList.map ((fun p : Lit × DataW Unit => Go.intOf p.1) ∘ Go.WideElems.rg Try.prog 3 RAny) = ks := by
      have h1 : es.toList.map ((fun p : Lit × DataW Unit => Go.intOf p.1) ∘ Go.WideElems.rg Try.prog 3 RAny) = (es.toList.map (·.key)).map fun v => match v with
          | .int _ n => n
          | _ => 0 := by
        rw [List.map_map]
        apply List.map_congr_left
        intro x hx
        obtain ⟨n, e, _, h⟩ := hrd x hx
        simp only [Function.comp, Go.WideElems.rg, h, e, Option.getD_some, Go.intOf]
      rw [h1, hes, List.map_map]
      conv => rhs; rw [← List.map_id ks]
      rfl
    rw [this]

shelf_lay_g SlLaysZ.n7 Ggz 7 at Try 41 as layKeysS
shelf_lay_g SlLaysZ.n6 Ggz 6 at Try 40 as laySortedS
shelf_lay_g SlLaysM.n6 Slgm 6 at Try 54 as laySortS

theorem sortsS (m : Nat) : AnyZ.SortsIn Try.prog laySortedS_ren Fence.wide m :=
  ⟨fun blk off cap ss W hH hblk hsz => callsIn_wide.2 (AnyM.slices_Sort_string laySortS blk off cap ss W hH hblk hsz),
   fun p cap W => callsIn_wide.2 (AnyM.slices_Sort_string_none laySortS p cap W)⟩

set_option maxHeartbeats 1000000 in
theorem sorted_keysS {H : Type} (b nn Bm : Nat) (D0 : DataW H) (R : Value → Option (DataW H × List MemPlace)) (w : World) (hown : w.ownsMap Try.prog 9 R b nn D0) (hBm : Bm < w.heap.size) (hm : w.cell? ⟨Bm, 0, none⟩ = some (.map (some b))) (hmax : Maps.size D0 ≤ maxLen) (hbytes : Maps.size D0 * 16 ≤ 140737488355328) :
    CallsIn Fence.wide 5 Try.prog 40 #[.func (.func 55) #[] #[.pointer (some ⟨Bm, 0, none⟩)]] w fun e w' => ∃ (v : Value) (ss : List (List UInt8)), e = .returned v ∧ ss.Perm (strKeys D0) ∧
      w'.ownsRow w.heap.size 9 1 v ss.length ((ss.mergeSort (fun x y => decide (x ≤ y))).map encStr) ∧ Below w.heap.size w w' := by
  have hseq : SeqGives Fence.wide 2 Try.prog 55 #[.pointer (some ⟨Bm, 0, none⟩)] encStr (fun ss => ss.Perm (strKeys D0)) (Maps.size D0) w :=
    AnyZ.keys_gives (ρ := layKeysS_ren) { layKeysS with } Fence.wide _ trivial rfl (by omega) Bm b nn D0 _ hBm hm hown
  have cS := AnyZ.sorted_in laySortedS Fence.wide 5 trivial trivial trivial trivial rfl (by omega) (sortsS _) (enters_of Try.func54 (by kernel_rfl) rfl) 55 #[.pointer (some ⟨Bm, 0, none⟩)] trivial (enters_of Try.func55 (by kernel_rfl) rfl) _ _ hmax hbytes _ hseq
  refine cS.mono ?_
  rintro e w' ⟨v, ss, he, hS, hrow, _, hb⟩
  exact ⟨v, ss, he, hS, hrow, hb⟩

def byte1 (n : Int) : List UInt8 := [UInt8.ofNat n.toNat]
theorem byte1_le {a b : Int} (ha : 0 ≤ a ∧ a < 256) (hb : 0 ≤ b ∧ b < 256) (h : a ≤ b) : byte1 a ≤ byte1 b := by
  unfold byte1
  rw [List.cons_le_cons_iff]
  have h1 : (UInt8.ofNat a.toNat).toNat = a.toNat := by rw [UInt8.toNat_ofNat']; omega
  have h2 : (UInt8.ofNat b.toNat).toNat = b.toNat := by rw [UInt8.toNat_ofNat']; omega
  rcases Int.lt_or_eq_of_le h with h | h
  · left
    rw [UInt8.lt_iff_toNat_lt, h1, h2]
    omega
  · right
    subst h
    exact ⟨rfl, List.le_refl _⟩
theorem sort_bytes {ks : List Int} (hr : ∀ x ∈ ks, 0 ≤ x ∧ x < 256) {ss : List (List UInt8)} (h : ss.Perm (ks.map byte1)) : ss.mergeSort leB = (ks.mergeSort leI).map byte1 := by
  have tr : ∀ a b c : List UInt8, leB a b = true → leB b c = true → leB a c = true := fun a b c h1 h2 => by simp only [leB, decide_eq_true_eq] at *; exact List.le_trans h1 h2
  have to : ∀ a b : List UInt8, (leB a b || leB b a) = true := fun a b => by simp only [leB, Bool.or_eq_true, decide_eq_true_eq]; exact List.le_total a b
  have tr' : ∀ a b c : Int, leI a b = true → leI b c = true → leI a c = true := fun a b c h1 h2 => by simp only [leI, decide_eq_true_eq] at *; exact Int.le_trans h1 h2
  have to' : ∀ a b : Int, (leI a b || leI b a) = true := fun a b => by simp only [leI, Bool.or_eq_true, decide_eq_true_eq]; exact Int.le_total a b
  refine List.Perm.eq_of_pairwise (le := fun a b => leB a b = true) (fun a b _ _ h1 h2 => ?_) (List.pairwise_mergeSort tr to ss) ?_ (((List.mergeSort_perm ss leB).trans h).trans ((List.mergeSort_perm ks leI).symm.map byte1))
  · simp only [leB, decide_eq_true_eq] at h1 h2
    exact List.le_antisymm h1 h2
  · refine List.pairwise_map.2 ((List.pairwise_mergeSort tr' to' ks).imp_of_mem fun {a b} ha hb hab => ?_)
    simp only [leI, leB, decide_eq_true_eq] at hab ⊢
    exact byte1_le (hr a ((List.mergeSort_perm ks leI).mem_iff.1 ha)) (hr b ((List.mergeSort_perm ks leI).mem_iff.1 hb)) hab
theorem keys_of_entriesS {es : Array MapEntry} {clock : Nat} {ks : List Int} (hes : es.toList.map (·.key) = ks.map fun n => encStr (byte1 n)) (hst : MapKept.Stamped es clock) (hsz : ks.length ≤ maxLen) {w : World} {b : Nat} (hb : w.heap[b]? = some (.map es clock)) (hu : Try.prog.underlying 9 = some .string) :
    ∃ D0, w.ownsMap Try.prog 9 RAny b ks.length D0 ∧ Maps.size D0 = ks.length ∧ (strKeys D0).Perm (ks.map byte1) := by
  have hlen : es.size = ks.length := by
    have := congrArg List.length hes
    simpa using this
  have hk : ∀ x ∈ es.toList, ∃ n, x.key = encStr (byte1 n) ∧ n ∈ ks := by
    intro x hx
    have : x.key ∈ es.toList.map (·.key) := List.mem_map.2 ⟨x, hx, rfl⟩
    rw [hes] at this
    obtain ⟨n, hn, e⟩ := List.mem_map.1 this
    exact ⟨n, e.symm, hn⟩
  have hkey : ∀ n, keyOf Try.prog 9 (encStr (byte1 n)) = some (.string (byte1 n)) := fun n => Go.WideMaps.keyOf_string_mk hu (s := ⟨(byte1 n).toArray⟩) (by simp [byte1, ByteArray.size, maxLen])
  have hrd : ∀ x ∈ es.toList, ∃ n, x.key = encStr (byte1 n) ∧ n ∈ ks ∧ Go.WideElems.rd Try.prog 9 RAny x = some (.string (byte1 n), .nil) := by
    intro x hx
    obtain ⟨n, e, hn⟩ := hk x hx
    refine ⟨n, e, hn, ?_⟩
    unfold Go.WideElems.rd
    rw [e, hkey n]
    rfl
  refine ⟨_, ⟨es, clock, hb, ⟨by rw [hlen]; exact hsz, hst, fun x hx => ?_⟩, Nat.le_of_eq hlen, rfl⟩, ?_, ?_⟩
  · obtain ⟨n, _, _, h⟩ := hrd x hx
    exact ⟨_, h⟩
  · show ((es.toList.map (Go.WideElems.rg Try.prog 9 RAny)).foldr DataW.insert []).length = _
    rw [length_sorted]
    simpa using hlen
  · show (((es.toList.map (Go.WideElems.rg Try.prog 9 RAny)).foldr DataW.insert []).map fun p => strOf p.1).Perm (ks.map byte1)
    refine ((Go.WideShapes.sorted_perm _).map _).trans ?_
    rw [List.map_map]
    have : es.toList.map ((fun p : Lit × DataW Unit => strOf p.1) ∘ Go.WideElems.rg Try.prog 9 RAny) = ks.map byte1 := by
      have h1 : es.toList.map ((fun p : Lit × DataW Unit => strOf p.1) ∘ Go.WideElems.rg Try.prog 9 RAny) = (es.toList.map (·.key)).map fun v => match v with
          | .string s => s.data.toList
          | _ => [] := by
        rw [List.map_map]
        apply List.map_congr_left
        intro x hx
        obtain ⟨n, e, _, h⟩ := hrd x hx
        simp only [Function.comp, Go.WideElems.rg, h, e, Option.getD_some, strOf]
      rw [h1, hes, List.map_map]
      rfl
    rw [this]
end Go.Proofs.Ythfggjfpokknlaa
