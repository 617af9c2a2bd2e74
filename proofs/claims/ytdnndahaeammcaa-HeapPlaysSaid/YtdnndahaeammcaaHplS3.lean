/-
  Part of a proof over the seat Ytdnndahaeammcaa: printed by a small program or typed by hand.
-/
import Derived.Test.YtdnndahaeammcaaHplS2
import Derived.KernelRfl
namespace Go.Proofs.Ytdnndahaeammcaa
open Go.Sx Go.Proofs Classical

abbrev HS : Type := List Thing × List (Int × Int)
def swapH (s : HS) (i k : Int) : HS := (swapL s.1 i k, swapM s.1 s.2 i k)
def up (i : Nat) : Nat := (i - 1) / 2
def riseN : Nat → HS → Nat → HS
  | 0, s, _ => s
  | n + 1, s, i => bif decide (0 < i) && aheadA s.1 i (up i) then riseN n (swapH s i (up i)) (up i) else s
def firstAt (L : List Thing) (i : Nat) : Nat → Nat
  | 0 => i
  | n + 1 => bif decide (2 * i + 1 + n < L.length) && aheadA L (2 * i + 1 + n : Nat) (firstAt L i n : Nat) then 2 * i + 1 + n else firstAt L i n
def sinkN : Nat → HS → Nat → HS
  | 0, s, _ => s
  | n + 1, s, i => bif firstAt s.1 i 2 == i then s else sinkN n (swapH s i (firstAt s.1 i 2 : Nat)) (firstAt s.1 i 2)
theorem swapL_length (L : List Thing) (i k : Int) : (swapL L i k).length = L.length := by simp [swapL]
theorem up_lt {i : Nat} (h : 0 < i) : up i < i := by unfold up; omega
theorem riseN_fuel : ∀ (n m : Nat) (s : HS) (i : Nat), i ≤ n → i ≤ m → riseN n s i = riseN m s i
  | 0, 0, _, _, _, _ => rfl
  | 0, m + 1, s, i, h, _ => by
    have : i = 0 := by omega
    subst this
    rfl
  | n + 1, 0, s, i, _, h => by
    have : i = 0 := by omega
    subst this
    rfl
  | n + 1, m + 1, s, i, h1, h2 => by
    simp only [riseN]
    by_cases h : 0 < i
    · have := up_lt h
      rw [riseN_fuel n m (swapH s i (up i)) (up i) (by omega) (by omega)]
    · rw [decide_eq_false h]
      rfl
theorem firstAt_lt (L : List Thing) (i : Nat) (h : i < L.length) : ∀ n, firstAt L i n < L.length
  | 0 => h
  | n + 1 => by
    simp only [firstAt]
    cases hq : decide (2 * i + 1 + n < L.length) && aheadA L (2 * i + 1 + n : Nat) (firstAt L i n : Nat)
    · exact firstAt_lt L i h n
    · simp only [Bool.and_eq_true, decide_eq_true_eq] at hq
      exact hq.1
theorem firstAt_ge (L : List Thing) (i : Nat) : ∀ n, firstAt L i n = i ∨ 2 * i + 1 ≤ firstAt L i n
  | 0 => .inl rfl
  | n + 1 => by
    simp only [firstAt]
    cases decide (2 * i + 1 + n < L.length) && aheadA L (2 * i + 1 + n : Nat) (firstAt L i n : Nat)
    · exact firstAt_ge L i n
    · simp only [cond_true]; omega
theorem sinkN_fuel : ∀ (n m : Nat) (s : HS) (i : Nat), s.1.length - i ≤ n → s.1.length - i ≤ m → i < s.1.length → sinkN n s i = sinkN m s i
  | 0, _, s, i, h, _, h2 => by omega
  | n + 1, 0, s, i, _, h, h2 => by omega
  | n + 1, m + 1, s, i, h1, h2, h3 => by
    simp only [sinkN]
    cases hq : firstAt s.1 i 2 == i
    · have hne : firstAt s.1 i 2 ≠ i := by simpa using hq
      have hgt := (firstAt_ge s.1 i 2).resolve_left hne
      have hf := firstAt_lt s.1 i h3 2
      have el : (swapH s i (firstAt s.1 i 2 : Nat)).1.length = s.1.length := swapL_length _ _ _
      rw [sinkN_fuel n m _ _ (by rw [el]; omega) (by rw [el]; omega) (by rw [el]; exact hf)]
    · rfl
theorem firstAt_end (L : List Thing) (i x : Nat) (h : L.length ≤ 2 * i + 1 + x) : ∀ n, x ≤ n → firstAt L i n = firstAt L i x
  | 0, hn => by
    have : x = 0 := by omega
    subst this; rfl
  | n + 1, hn => by
    by_cases e : x = n + 1
    · subst e; rfl
    · simp only [firstAt]
      rw [decide_eq_false (by omega)]
      exact firstAt_end L i x h n (by omega)
/-! ### heaps, without a program -/
def kx (a : Thing) : Int := a.X % 16
def le' (a b : Thing) : Prop := kx a < kx b ∨ (kx a = kx b ∧ a.Id ≤ b.Id)
theorem less_iff (a b : Int) : ref07Less a b = decide (a % 16 < b % 16) := by
  have e : ∀ n, bits .and .i64 n 15 = n % 16 := fun n => mask_nat 4 (by omega) n
  unfold ref07Less
  rw [e, e]
theorem ahead_iff (a b : Thing) : aheadB a b = true ↔ ¬ le' b a := by
  unfold aheadB le' kx
  rw [less_iff, less_iff]
  simp only [Bool.or_eq_true, Bool.and_eq_true, Bool.not_eq_true', decide_eq_true_eq, decide_eq_false_iff_not]
  omega
theorem ahead_false (a b : Thing) : aheadB a b = false ↔ le' b a := by
  have := ahead_iff a b
  cases h : aheadB a b
  · rw [h] at this; simp at this; simp [this]
  · rw [h] at this; simp at this; simp [this]
theorem le_refl' (a : Thing) : le' a a := .inr ⟨rfl, Int.le_refl _⟩
theorem le_trans' {a b c : Thing} (h1 : le' a b) (h2 : le' b c) : le' a c := by unfold le' at *; omega
theorem le_total' (a b : Thing) : le' a b ∨ le' b a := by unfold le'; omega
theorem le_of_not' {a b : Thing} (h : ¬ le' a b) : le' b a := (le_total' a b).resolve_left h
def gN (L : List Thing) (j : Nat) : Thing := at' tz L (j : Int)
theorem gN_at {L : List Thing} {j : Nat} (h : j < L.length) : gN L j = L[j] := at_nat h
def Hp (g : Nat → Thing) (n : Nat) : Prop := ∀ j, 0 < j → j < n → le' (g (up j)) (g j)
theorem swap_at {L : List Thing} {i k : Nat} (hi : i < L.length) (hk : k < L.length) (j : Nat) (hj : j < L.length) : gN (swapL L i k) j = if j = k then gN L i else if j = i then gN L k else gN L j := by
  have hl : j < (swapL L i k).length := by rw [swapL_length]; exact hj
  have e : swapL L i k = (L.set i (gN L k)).set k (gN L i) := rfl
  rw [gN_at hl, List.getElem_of_eq e hl, List.getElem_set, List.getElem_set, gN_at hj]
  by_cases h1 : k = j
  · rw [if_pos h1, if_pos h1.symm]
  · rw [if_neg h1, if_neg (show ¬ j = k from fun h => h1 h.symm)]
    by_cases h2 : i = j
    · rw [if_pos h2, if_pos h2.symm]
    · rw [if_neg h2, if_neg (show ¬ j = i from fun h => h2 h.symm)]
theorem swap_perm {L : List Thing} {i k : Nat} (hi : i < L.length) (hk : k < L.length) : (swapL L i k).Perm L := by
  have e : swapL L i k = (L.set i L[k]).set k L[i] := by
    rw [← gN_at hi, ← gN_at hk]
    rfl
  rw [e]
  exact List.set_set_perm hi hk
/-- the map tells where each one is -/
def MOk (L : List Thing) (M : List (Int × Int)) : Prop :=
  (∀ i, i < L.length → mget (gN L i).Id M = some (i : Int)) ∧ (∀ id v, mget id M = some v → ∃ i : Nat, i < L.length ∧ v = i ∧ (gN L i).Id = id) ∧ (M.map (·.1)).Nodup
theorem MOk.inj {L : List Thing} {M : List (Int × Int)} (h : MOk L M) {i k : Nat} (hi : i < L.length) (hk : k < L.length) (e : (gN L i).Id = (gN L k).Id) : i = k := by
  have h1 := h.1 i hi
  have h2 := h.1 k hk
  rw [e, h2] at h1
  have := Option.some.inj h1
  omega
theorem MOk.swap {L : List Thing} {M : List (Int × Int)} (h : MOk L M) {i k : Nat} (hi : i < L.length) (hk : k < L.length) : MOk (swapL L i k) (swapM L M i k) := by
  have ei : at' tz L (i : Int) = gN L i := rfl
  have ek : at' tz L (k : Int) = gN L k := rfl
  refine ⟨fun j hj => ?_, fun id v hv => ?_, mput_nodup _ _ _ (mput_nodup _ _ _ h.2.2)⟩
  · rw [swapL_length] at hj
    rw [swap_at hi hk j hj]
    simp only [swapM, ei, ek, mget_put]
    by_cases h1 : j = k
    · rw [if_pos h1, if_pos rfl, h1]
    · rw [if_neg h1]
      by_cases h2 : j = i
      · rw [if_pos h2]
        have : ¬ (gN L k).Id = (gN L i).Id := fun e => h1 (by rw [h2]; exact (h.inj hk hi e).symm)
        rw [if_neg this, if_pos rfl, h2]
      · rw [if_neg h2]
        have a1 : ¬ (gN L j).Id = (gN L i).Id := fun e => h2 (h.inj hj hi e)
        have a2 : ¬ (gN L j).Id = (gN L k).Id := fun e => h1 (h.inj hj hk e)
        rw [if_neg a1, if_neg a2]
        exact h.1 j hj
  · simp only [swapM, ei, ek, mget_put] at hv
    by_cases h1 : id = (gN L i).Id
    · rw [if_pos h1] at hv
      refine ⟨k, by rw [swapL_length]; exact hk, (Option.some.inj hv).symm, ?_⟩
      rw [swap_at hi hk k hk, if_pos rfl, h1]
    · rw [if_neg h1] at hv
      by_cases h2 : id = (gN L k).Id
      · rw [if_pos h2] at hv
        refine ⟨i, by rw [swapL_length]; exact hi, (Option.some.inj hv).symm, ?_⟩
        rw [swap_at hi hk i hi]
        by_cases e : i = k
        · rw [if_pos e, e, h2]
        · rw [if_neg e, if_pos rfl, h2]
      · rw [if_neg h2] at hv
        obtain ⟨j, hj, hvj, hid⟩ := h.2.1 id v hv
        refine ⟨j, by rw [swapL_length]; exact hj, hvj, ?_⟩
        have a1 : j ≠ i := fun e => h1 (by rw [← hid, e])
        have a2 : j ≠ k := fun e => h2 (by rw [← hid, e])
        rw [swap_at hi hk j hj, if_neg a2, if_neg a1, hid]
/-- one may be too far down -/
def RiseOk (L : List Thing) (i : Nat) : Prop := (∀ j, 0 < j → j < L.length → j ≠ i → le' (gN L (up j)) (gN L j)) ∧ ∀ j, 0 < i → j < L.length → 0 < j → up j = i → le' (gN L (up i)) (gN L j)
def SinkOk (L : List Thing) (i : Nat) : Prop := (∀ j, 0 < j → j < L.length → up j ≠ i → le' (gN L (up j)) (gN L j)) ∧ ∀ j, 0 < i → j < L.length → 0 < j → up j = i → le' (gN L (up i)) (gN L j)
theorem rise_step {L : List Thing} {i : Nat} (hi : i < L.length) (h0 : 0 < i) (hb : ∀ j, 0 < j → j < L.length → j ≠ i → up j ≠ i → le' (gN L (up j)) (gN L j))
    (hc : ∀ j, j < L.length → 0 < j → up j = i → le' (gN L (up i)) (gN L j)) (ha : ¬ le' (gN L (up i)) (gN L i)) : RiseOk (swapL L i (up i)) (up i) := by
  have hu := up_lt h0
  have hul : up i < L.length := by omega
  have ha' := le_of_not' ha
  have key : ∀ j, j < L.length → gN (swapL L i (up i)) j = if j = up i then gN L i else if j = i then gN L (up i) else gN L j := fun j hj => swap_at hi hul j hj
  refine ⟨fun j hj0 hj hne => ?_, fun j h1 hj hj0 hu2 => ?_⟩
  · rw [swapL_length] at hj
    have hupl : up j < L.length := Nat.lt_trans (up_lt hj0) hj
    rw [key j hj, key (up j) hupl, if_neg hne]
    by_cases e : j = i
    · subst e
      rw [if_pos rfl, if_pos rfl]
      exact ha'
    · rw [if_neg e]
      by_cases e2 : up j = up i
      · rw [if_pos e2]
        have := hb j hj0 hj e (by omega)
        rw [e2] at this
        exact le_trans' ha' this
      · rw [if_neg e2]
        by_cases e3 : up j = i
        · rw [if_pos e3]
          exact hc j hj hj0 e3
        · rw [if_neg e3]
          exact hb j hj0 hj e e3
  · rw [swapL_length] at hj
    have huu := up_lt h1
    have e1 : ¬ up (up i) = up i := by omega
    have e2 : ¬ up (up i) = i := by omega
    have hjn : ¬ j = up i := by have := up_lt hj0; omega
    rw [key j hj, key (up (up i)) (by omega), if_neg e1, if_neg e2, if_neg hjn]
    have hpar := hb (up i) h1 hul (by omega) e2
    by_cases e : j = i
    · rw [if_pos e]
      exact hpar
    · rw [if_neg e]
      have := hb j hj0 hj e (by omega)
      rw [hu2] at this
      exact le_trans' hpar this
theorem rise_all : ∀ (n : Nat) (s : HS) (i : Nat), i ≤ n → i < s.1.length → RiseOk s.1 i → MOk s.1 s.2 → Hp (gN (riseN n s i).1) s.1.length ∧ MOk (riseN n s i).1 (riseN n s i).2 ∧ (riseN n s i).1.Perm s.1 ∧ (riseN n s i).1.length = s.1.length
  | 0, s, i, hn, hi, hr, hm => by
    have : i = 0 := by omega
    subst this
    exact ⟨fun j hj0 hj => hr.1 j hj0 hj (by omega), hm, List.Perm.refl _, rfl⟩
  | n + 1, s, i, hn, hi, hr, hm => by
    simp only [riseN]
    by_cases h0 : 0 < i
    · rw [decide_eq_true h0, Bool.true_and]
      have hu := up_lt h0
      cases ha : aheadA s.1 i (up i)
      · have hle := (ahead_false _ _).1 ha
        refine ⟨fun j hj0 hj => ?_, hm, List.Perm.refl _, rfl⟩
        by_cases e : j = i
        · subst e; exact hle
        · exact hr.1 j hj0 hj e
      · have hle := (ahead_iff _ _).1 ha
        have hr' := rise_step hi h0 (fun j a b c _ => hr.1 j a b c) (fun j a b c => hr.2 j h0 a b c) hle
        have hp := swap_perm hi (show up i < s.1.length by omega)
        obtain ⟨a1, a2, a3, a4⟩ := rise_all n (swapH s i (up i)) (up i) (by omega) (by show up i < (swapL s.1 i (up i)).length; rw [swapL_length]; omega) hr' (hm.swap hi (by omega))
        have el : (swapH s i (up i)).1.length = s.1.length := swapL_length _ _ _
        rw [el] at a1 a4
        exact ⟨a1, a2, a3.trans hp, a4⟩
    · rw [decide_eq_false h0]
      refine ⟨fun j hj0 hj => hr.1 j hj0 hj (by omega), hm, List.Perm.refl _, rfl⟩
theorem firstAt_min (L : List Thing) (i : Nat) : ∀ n, le' (gN L (firstAt L i n)) (gN L i) ∧ ∀ m, m < n → 2 * i + 1 + m < L.length → le' (gN L (firstAt L i n)) (gN L (2 * i + 1 + m))
  | 0 => ⟨le_refl' _, fun m h => by omega⟩
  | n + 1 => by
    have ih := firstAt_min L i n
    simp only [firstAt]
    by_cases h : 2 * i + 1 + n < L.length
    · rw [decide_eq_true h, Bool.true_and]
      cases ha : aheadA L (2 * i + 1 + n : Nat) (firstAt L i n : Nat)
      · have hle := (ahead_false _ _).1 ha
        refine ⟨ih.1, fun m hm hl => ?_⟩
        by_cases e : m = n
        · subst e; exact hle
        · exact ih.2 m (by omega) hl
      · have hle := le_of_not' ((ahead_iff _ _).1 ha)
        refine ⟨le_trans' hle ih.1, fun m hm hl => ?_⟩
        by_cases e : m = n
        · subst e; exact le_refl' _
        · exact le_trans' hle (ih.2 m (by omega) hl)
    · rw [decide_eq_false h]
      refine ⟨ih.1, fun m hm hl => ?_⟩
      by_cases e : m = n
      · subst e; omega
      · exact ih.2 m (by omega) hl
theorem child {j i : Nat} (h0 : 0 < j) (h : up j = i) : ∃ m, m < 2 ∧ j = 2 * i + 1 + m := ⟨j - (2 * i + 1), by unfold up at h; omega, by unfold up at h; omega⟩
theorem firstAt_child (L : List Thing) (i : Nat) : ∀ n, n ≤ 2 → firstAt L i n = i ∨ (0 < firstAt L i n ∧ up (firstAt L i n) = i)
  | 0, _ => .inl rfl
  | n + 1, hn => by
    simp only [firstAt]
    cases decide (2 * i + 1 + n < L.length) && aheadA L (2 * i + 1 + n : Nat) (firstAt L i n : Nat)
    · exact firstAt_child L i n (by omega)
    · simp only [cond_true]
      refine .inr ⟨by omega, ?_⟩
      unfold up
      omega
theorem sink_step {L : List Thing} {i f : Nat} (hi : i < L.length) (hf : f < L.length) (hf0 : 0 < f) (hfu : up f = i) (hs : SinkOk L i) (hmin : le' (gN L f) (gN L i)) (hmin2 : ∀ m, m < 2 → 2 * i + 1 + m < L.length → le' (gN L f) (gN L (2 * i + 1 + m))) : SinkOk (swapL L i f) f := by
  have hlt := up_lt hf0
  have key : ∀ j, j < L.length → gN (swapL L i f) j = if j = f then gN L i else if j = i then gN L f else gN L j := fun j hj => swap_at hi hf j hj
  refine ⟨fun j hj0 hj hne => ?_, fun j _ hj hj0 hu => ?_⟩
  · rw [swapL_length] at hj
    have hupl : up j < L.length := Nat.lt_trans (up_lt hj0) hj
    rw [key j hj, key (up j) hupl, if_neg hne]
    by_cases e : j = f
    · subst e
      rw [if_pos rfl, if_pos hfu]
      exact hmin
    · rw [if_neg e]
      by_cases e2 : up j = i
      · rw [if_pos e2]
        obtain ⟨m, hm, rfl⟩ := child hj0 e2
        have : ¬ (2 * i + 1 + m) = i := by omega
        rw [if_neg this]
        exact hmin2 m hm hj
      · rw [if_neg e2]
        by_cases e3 : j = i
        · rw [if_pos e3]
          subst e3
          exact hs.2 f hj0 hf hf0 hfu
        · rw [if_neg e3]
          exact hs.1 j hj0 hj e2
  · rw [swapL_length] at hj
    have hju := up_lt hj0
    rw [key j hj, hfu, key i hi]
    have a1 : ¬ i = f := by omega
    have a2 : ¬ j = f := by omega
    have a3 : ¬ j = i := by omega
    rw [if_neg a1, if_pos rfl, if_neg a2, if_neg a3]
    have := hs.1 j hj0 hj (by omega)
    rw [hu] at this
    exact this
theorem sink_all : ∀ (n : Nat) (s : HS) (i : Nat), s.1.length - i ≤ n → i < s.1.length → SinkOk s.1 i → MOk s.1 s.2 → Hp (gN (sinkN n s i).1) s.1.length ∧ MOk (sinkN n s i).1 (sinkN n s i).2 ∧ (sinkN n s i).1.Perm s.1 ∧ (sinkN n s i).1.length = s.1.length
  | 0, s, i, hn, hi, _, _ => by omega
  | n + 1, s, i, hn, hi, hs, hm => by
    simp only [sinkN]
    have hmin := firstAt_min s.1 i 2
    have hfl := firstAt_lt s.1 i hi 2
    cases hq : firstAt s.1 i 2 == i
    · have hne : firstAt s.1 i 2 ≠ i := by simpa using hq
      obtain ⟨hf0, hfu⟩ := (firstAt_child s.1 i 2 (Nat.le_refl _)).resolve_left hne
      have hlt := up_lt hf0
      have hs' := sink_step hi hfl hf0 hfu hs hmin.1 hmin.2
      have el : (swapH s i (firstAt s.1 i 2 : Nat)).1.length = s.1.length := swapL_length _ _ _
      obtain ⟨a1, a2, a3, a4⟩ := sink_all n (swapH s i (firstAt s.1 i 2 : Nat)) (firstAt s.1 i 2) (by rw [el]; omega) (by rw [el]; exact hfl) hs' (hm.swap hi hfl)
      rw [el] at a1 a4
      exact ⟨a1, a2, a3.trans (swap_perm hi hfl), a4⟩
    · have he : firstAt s.1 i 2 = i := by simpa using hq
      rw [he] at hmin
      refine ⟨fun j hj0 hj => ?_, hm, List.Perm.refl _, rfl⟩
      by_cases e : up j = i
      · obtain ⟨m, hm2, rfl⟩ := child hj0 e
        rw [e]
        exact hmin.2 m hm2 hj
      · exact hs.1 j hj0 hj e

noncomputable def tab3 : Tab T O := tab2
theorem tabOk3 : TabOk R Try.prog tab3 := tabOk2
noncomputable def X3 : Ctx T O := { X0 with con := conOf tab3 }
theorem X3Ok : TabOk R X3.P tab3 := tabOk3
end Go.Proofs.Ytdnndahaeammcaa
