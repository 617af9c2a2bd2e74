/-
  Part of a proof over the seat Ytdnndahaeammcaa: printed by a small program or typed by hand.
-/
import Derived.Test.YtdnndahaeammcaaHplS6
import Derived.KernelRfl
namespace Go.Proofs.Ytdnndahaeammcaa
open Go.Sx Go.Proofs Classical
theorem mget_mem {α : Type} {k : Int} {a : α} : ∀ {L : List (Int × α)}, mget k L = some a → (k, a) ∈ L
  | [], h => by cases h
  | (i, b) :: L, h => by
    simp only [mget] at h
    by_cases e : i = k
    · rw [if_pos e] at h
      simp only [Option.some.injEq] at h
      subst h; subst e
      simp
    · rw [if_neg e] at h
      simp [mget_mem h]
theorem mget_del {α : Type} (k j : Int) : ∀ L : List (Int × α), (L.map (·.1)).Nodup → mget j (mdel k L) = if j = k then none else mget j L
  | [], _ => by simp [mdel, mget]
  | (i, b) :: L, hn => by
    rw [List.map_cons, List.nodup_cons] at hn
    simp only [mdel]
    by_cases h : i = k
    · rw [if_pos h]
      by_cases h2 : j = k
      · rw [if_pos h2]
        cases hm : mget j L with
        | none => rfl
        | some a =>
          have := mget_mem hm
          exact absurd (List.mem_map.2 ⟨_, this, rfl⟩) (by rw [h2, ← h]; exact hn.1)
      · rw [if_neg h2]
        simp only [mget]
        rw [if_neg (by omega)]
    · rw [if_neg h]
      simp only [mget, mget_del k j L hn.2]
      by_cases h2 : i = j
      · rw [if_pos h2, if_pos h2, if_neg (by omega)]
      · rw [if_neg h2, if_neg h2]
structure HOk (s : HS) (C : List Thing) : Prop where
  heap : Hp (gN s.1) s.1.length
  map : MOk s.1 s.2
  perm : s.1.Perm C
theorem HOk.len {s : HS} {C : List Thing} (h : HOk s C) : s.1.length = C.length := h.perm.length_eq
theorem HOk.new : HOk (noThings, noPlaces) [] := ⟨fun j _ h => absurd h (by simp [noThings]), ⟨fun i h => absurd h (by simp [noThings]), fun id v h => (by cases h), List.nodup_nil⟩, List.Perm.refl _⟩
theorem gN_mem {L : List Thing} {i : Nat} (h : i < L.length) : gN L i ∈ L := by rw [gN_at h]; exact List.getElem_mem h
theorem HOk.where {s : HS} {C : List Thing} (h : HOk s C) {id : Int} (ht : thereB id s.2 = true) : ∃ i : Nat, i < s.1.length ∧ whereI id s.2 = i ∧ (gN s.1 i).Id = id ∧ gN s.1 i ∈ C := by
  unfold thereB at ht
  cases hm : mget id s.2 with
  | none => rw [hm] at ht; cases ht
  | some v =>
    obtain ⟨i, hi, hv, hid⟩ := h.map.2.1 id v hm
    exact ⟨i, hi, by unfold whereI; rw [hm]; exact hv, hid, h.perm.mem_iff.1 (gN_mem hi)⟩
theorem HOk.there {s : HS} {C : List Thing} (h : HOk s C) (id : Int) : thereB id s.2 = true ↔ ∃ a ∈ C, a.Id = id := by
  constructor
  · intro ht
    obtain ⟨i, _, _, hid, hm⟩ := h.where ht
    exact ⟨_, hm, hid⟩
  · rintro ⟨a, ha, rfl⟩
    obtain ⟨i, hi, e⟩ := List.getElem_of_mem (h.perm.mem_iff.2 ha)
    have := h.map.1 i hi
    rw [gN_at hi, e] at this
    unfold thereB
    rw [this]
    rfl
theorem HOk.notThere {s : HS} {C : List Thing} (h : HOk s C) {id : Int} (hn : ∀ a ∈ C, a.Id ≠ id) : thereB id s.2 = false := by
  cases ht : thereB id s.2
  · rfl
  · obtain ⟨a, ha, e⟩ := (h.there id).1 ht
    exact absurd e (hn a ha)
/-- of an ID there is one -/
theorem HOk.one {s : HS} {C : List Thing} (h : HOk s C) {a b : Thing} (ha : a ∈ C) (hb : b ∈ C) (e : a.Id = b.Id) : a = b := by
  obtain ⟨i, hi, ea⟩ := List.getElem_of_mem (h.perm.mem_iff.2 ha)
  obtain ⟨k, hk, eb⟩ := List.getElem_of_mem (h.perm.mem_iff.2 hb)
  have := h.map.inj hi hk (by rw [gN_at hi, gN_at hk, ea, eb, e])
  subst this
  rw [← ea, ← eb]
theorem HOk.min {s : HS} {C : List Thing} (h : HOk s C) (hl : 0 < s.1.length) : gN s.1 0 ∈ C ∧ ∀ a ∈ C, le' (gN s.1 0) a := by
  refine ⟨h.perm.mem_iff.1 (gN_mem hl), fun a ha => ?_⟩
  obtain ⟨i, hi, rfl⟩ := List.getElem_of_mem (h.perm.mem_iff.2 ha)
  rw [← gN_at hi]
  have key : ∀ n i, i ≤ n → i < s.1.length → le' (gN s.1 0) (gN s.1 i) := by
    intro n
    induction n with
    | zero => intro i hi _; have : i = 0 := by omega
              subst this; exact le_refl' _
    | succ n ih =>
      intro i hi hl
      by_cases h0 : 0 < i
      · have := up_lt h0
        exact le_trans' (ih (up i) (by omega) (by omega)) (h.heap i h0 hl)
      · have : i = 0 := by omega
        subst this; exact le_refl' _
  exact key i i (Nat.le_refl _) hi
theorem gN_left {L : List Thing} {t : Thing} {j : Nat} (h : j < L.length) : gN (L ++ [t]) j = gN L j := by
  have h2 : j < (L ++ [t]).length := by simp; omega
  rw [gN_at h, gN_at h2, List.getElem_append_left h]
theorem gN_last {L : List Thing} {t : Thing} : gN (L ++ [t]) L.length = t := by
  have h2 : L.length < (L ++ [t]).length := by simp
  rw [gN_at h2]
  simp
theorem HOk.push {s : HS} {C : List Thing} (h : HOk s C) {id x : Int} (hid : thereB id s.2 = false) : HOk (pushH s id x) (⟨id, x⟩ :: C) := by
  obtain ⟨L, M⟩ := s
  have hl : (L ++ [(⟨id, x⟩ : Thing)]).length = L.length + 1 := by simp
  have hno : mget id M = none := by
    unfold thereB at hid
    cases hm : mget id M with
    | none => rfl
    | some v => dsimp only at hid; rw [hm] at hid; cases hid
  have hm : MOk (L ++ [(⟨id, x⟩ : Thing)]) (mput id L.length M) := by
    refine ⟨fun i hi => ?_, fun k v hv => ?_, mput_nodup _ _ _ h.map.2.2⟩
    · rw [mget_put]
      by_cases e : i = L.length
      · subst e
        rw [gN_last, if_pos rfl]
      · have hi' : i < L.length := by omega
        rw [gN_left hi']
        have hg := h.map.1 i hi'
        have hne : ¬ (gN L i).Id = id := by
          intro e2
          have hg : mget (gN L i).Id M = some (i : Int) := hg
          rw [e2, hno] at hg
          cases hg
        rw [if_neg hne]
        exact hg
    · rw [mget_put] at hv
      by_cases e : k = id
      · rw [if_pos e] at hv
        exact ⟨L.length, by omega, (Option.some.inj hv).symm, by rw [gN_last, e]⟩
      · rw [if_neg e] at hv
        obtain ⟨i, hi, h1, h2⟩ := h.map.2.1 k v hv
        exact ⟨i, by have : i < L.length := hi; omega, h1, by rw [gN_left hi]; exact h2⟩
  have hr : RiseOk (L ++ [(⟨id, x⟩ : Thing)]) L.length := by
    refine ⟨fun j hj0 hj hne => ?_, fun j h0 hj hj0 hu => ?_⟩
    · have hj' : j < L.length := by omega
      have := up_lt hj0
      rw [gN_left hj', gN_left (by omega)]
      exact h.heap j hj0 hj'
    · have := up_lt hj0
      omega
  obtain ⟨a1, a2, a3, a4⟩ := rise_all L.length (L ++ [⟨id, x⟩], mput id L.length M) L.length (Nat.le_refl _) (by rw [hl]; omega) hr hm
  refine ⟨?_, a2, ?_⟩
  · have e : (pushH (L, M) id x).1.length = (L ++ [(⟨id, x⟩ : Thing)]).length := a4
    rw [e]
    exact a1
  · refine a3.trans ?_
    refine (List.perm_append_singleton _ _).trans ?_
    exact List.Perm.cons _ h.perm
theorem HOk.take {s : HS} {C : List Thing} (h : HOk s C) {i : Nat} (hi : i < s.1.length) : ∃ C', C.Perm (gN s.1 i :: C') ∧ HOk (takeH s i) C' := by
  obtain ⟨L, M⟩ := s
  dsimp only at hi
  have hn : L.length - 1 < L.length := by omega
  have hperm : (swapL L i (L.length - 1 : Nat)).Perm L := swap_perm hi hn
  have hmap := h.map.swap hi hn
  have hl1 : (swapL L i (L.length - 1 : Nat)).length = L.length := swapL_length _ _ _
  have hat : ∀ j, j < L.length → gN (swapL L i (L.length - 1 : Nat)) j = if j = L.length - 1 then gN L i else if j = i then gN L (L.length - 1) else gN L j := fun j hj => swap_at hi hn j hj
  have hl2 : ((swapL L i (L.length - 1 : Nat)).take (L.length - 1)).length = L.length - 1 := by rw [List.length_take, hl1]; omega
  have hat2 : ∀ j, j < L.length - 1 → gN ((swapL L i (L.length - 1 : Nat)).take (L.length - 1)) j = if j = i then gN L (L.length - 1) else gN L j := by
    intro j hj
    have h1 : j < (swapL L i (L.length - 1 : Nat)).length := by rw [hl1]; omega
    have e := hat j (by omega)
    rw [if_neg (by omega)] at e
    rw [gN_at (by rw [hl2]; exact hj), List.getElem_take, ← gN_at h1]
    exact e
  have hsplit : (swapL L i (L.length - 1 : Nat)) = (swapL L i (L.length - 1 : Nat)).take (L.length - 1) ++ [gN L i] := by
    have h1 : L.length - 1 < (swapL L i (L.length - 1 : Nat)).length := by rw [hl1]; exact hn
    have e := hat (L.length - 1) hn
    rw [if_pos rfl, gN_at h1] at e
    rw [← e, ← take_at h1]
    rw [List.take_of_length_le (by rw [hl1]; omega)]
  have hp2 : L.Perm (gN L i :: (swapL L i (L.length - 1 : Nat)).take (L.length - 1)) := by
    refine hperm.symm.trans ?_
    conv => lhs; rw [hsplit]
    exact List.perm_append_singleton _ _
  have hm2 : MOk ((swapL L i (L.length - 1 : Nat)).take (L.length - 1)) (mdel (gN L i).Id (swapM L M i (L.length - 1 : Nat))) := by
    have same : ∀ j, j < L.length - 1 → gN ((swapL L i (L.length - 1 : Nat)).take (L.length - 1)) j = gN (swapL L i (L.length - 1 : Nat)) j := by
      intro j hj
      rw [hat2 j hj, hat j (by omega), if_neg (show ¬ j = L.length - 1 by omega)]
    have hlast := hat (L.length - 1) hn
    rw [if_pos rfl] at hlast
    refine ⟨fun j hj => ?_, fun id v hv => ?_, mdel_nodup _ _ hmap.2.2⟩
    · rw [hl2] at hj
      rw [same j hj, mget_del _ _ _ hmap.2.2]
      have hne : ¬ (gN (swapL L i (L.length - 1 : Nat)) j).Id = (gN L i).Id := by
        intro e
        rw [← hlast] at e
        have := hmap.inj (by rw [hl1]; omega) (by rw [hl1]; exact hn) e
        omega
      rw [if_neg hne]
      exact hmap.1 j (by rw [hl1]; omega)
    · rw [mget_del _ _ _ hmap.2.2] at hv
      by_cases e : id = (gN L i).Id
      · rw [if_pos e] at hv; cases hv
      · rw [if_neg e] at hv
        obtain ⟨j, hj, h1, h2⟩ := hmap.2.1 id v hv
        rw [hl1] at hj
        have hne : j ≠ L.length - 1 := by
          intro e2
          subst e2
          rw [hlast] at h2
          exact e h2.symm
        exact ⟨j, by rw [hl2]; omega, h1, by rw [same j (by omega)]; exact h2⟩
  have heap := h.heap
  dsimp only at heap
  refine ⟨(swapL L i (L.length - 1 : Nat)).take (L.length - 1), h.perm.symm.trans hp2, ?_⟩
  unfold takeH
  dsimp only
  have ei : at' tz L (i : Int) = gN L i := rfl
  rw [ei]
  by_cases hlt : i < L.length - 1
  · rw [decide_eq_true hlt]
    simp only [cond_true]
    have hb : ∀ j, 0 < j → j < L.length - 1 → j ≠ i → up j ≠ i → le' (gN ((swapL L i (L.length - 1 : Nat)).take (L.length - 1)) (up j)) (gN ((swapL L i (L.length - 1 : Nat)).take (L.length - 1)) j) := by
      intro j hj0 hj h1 h2
      have := up_lt hj0
      rw [hat2 j hj, hat2 (up j) (by omega), if_neg h1, if_neg h2]
      exact heap j hj0 (by omega)
    have hc : 0 < i → ∀ j, j < L.length - 1 → 0 < j → up j = i → le' (gN ((swapL L i (L.length - 1 : Nat)).take (L.length - 1)) (up i)) (gN ((swapL L i (L.length - 1 : Nat)).take (L.length - 1)) j) := by
      intro h0 j hj hj0 hu
      have u1 := up_lt hj0
      have u2 := up_lt h0
      rw [hat2 j hj, hat2 (up i) (by omega), if_neg (show ¬ j = i by omega), if_neg (show ¬ up i = i by omega)]
      have a := heap j hj0 (by omega)
      rw [hu] at a
      exact le_trans' (heap i h0 hi) a
    generalize hL2 : (swapL L i (L.length - 1 : Nat)).take (L.length - 1) = L2 at *
    generalize hM2 : mdel (gN L i).Id (swapM L M i (L.length - 1 : Nat)) = M2 at *
    have hi2 : i < L2.length := by rw [hl2]; exact hlt
    have hrise : SinkOk (riseN i (L2, M2) i).1 i ∧ MOk (riseN i (L2, M2) i).1 (riseN i (L2, M2) i).2 ∧ (riseN i (L2, M2) i).1.Perm L2 ∧ (riseN i (L2, M2) i).1.length = L2.length := by
      cases i with
      | zero =>
        refine ⟨⟨fun j hj0 hj hu => ?_, fun j h0 => absurd h0 (Nat.lt_irrefl _)⟩, hm2, List.Perm.refl _, rfl⟩
        exact hb j hj0 (by rw [← hl2]; exact hj) (by omega) hu
      | succ k =>
        have h0 : 0 < k + 1 := Nat.succ_pos k
        have hu := up_lt h0
        simp only [riseN]
        rw [decide_eq_true h0, Bool.true_and]
        cases ha : aheadA L2 ((k + 1 : Nat) : Int) (up (k + 1) : Int)
        · have hle := (ahead_false _ _).1 ha
          refine ⟨⟨fun j hj0 hj hup => ?_, fun j _ hj hj0 hup => hc h0 j (by rw [← hl2]; exact hj) hj0 hup⟩, hm2, List.Perm.refl _, rfl⟩
          by_cases e : j = k + 1
          · rw [e]; exact hle
          · exact hb j hj0 (by rw [← hl2]; exact hj) e hup
        · have hle := (ahead_iff _ _).1 ha
          have hr' := rise_step hi2 h0 (fun j a b c d => hb j a (by rw [← hl2]; exact b) c d) (fun j a b c => hc h0 j (by rw [← hl2]; exact a) b c) hle
          have hup : up (k + 1) < L2.length := by omega
          obtain ⟨a1, a2, a3, a4⟩ := rise_all k (swapH (L2, M2) (k + 1 : Nat) (up (k + 1))) (up (k + 1)) (by omega) (by show up (k + 1) < (swapL L2 (k + 1 : Nat) (up (k + 1))).length; rw [swapL_length]; exact hup) hr' (hm2.swap hi2 hup)
          have el : (swapH (L2, M2) (k + 1 : Nat) (up (k + 1))).1.length = L2.length := swapL_length _ _ _
          rw [el] at a1 a4
          simp only [cond_true]
          refine ⟨⟨fun j hj0 hj _ => a1 j hj0 (by rw [← a4]; exact hj), fun j _ hj hj0 hup2 => ?_⟩, a2, a3.trans (swap_perm hi2 hup), a4⟩
          have b1 := a1 j hj0 (by rw [← a4]; exact hj)
          rw [hup2] at b1
          exact le_trans' (a1 (k + 1) h0 hi2) b1
    obtain ⟨r1, r2, r3, r4⟩ := hrise
    obtain ⟨a1, a2, a3, a4⟩ := sink_all (L.length - 1 - i) (riseN i (L2, M2) i) i (by rw [r4, hl2]; exact Nat.le_refl _) (by rw [r4]; exact hi2) r1 r2
    exact ⟨by rw [a4]; exact a1, a2, a3.trans r3⟩
  · rw [decide_eq_false hlt]
    simp only [cond_false]
    refine ⟨fun j hj0 hj => ?_, hm2, List.Perm.refl _⟩
    dsimp only at hj ⊢
    rw [hl2] at hj
    have := up_lt hj0
    rw [hat2 j hj, hat2 (up j) (by omega), if_neg (show ¬ j = i by omega), if_neg (show ¬ up j = i by omega)]
    exact heap j hj0 (by omega)

/-! ### regatta/regattalaw07.awake -/
def law07AwakeText  : Prop := (((true = ((at' tz (takeH (takeH (pushH (pushH (pushH (noThings, noPlaces) (1 : Int) (5 : Int)) (2 : Int) (3 : Int)) (3 : Int) (5 : Int)) (whereI (2 : Int) (pushH (pushH (pushH (noThings, noPlaces) (1 : Int) (5 : Int)) (2 : Int) (3 : Int)) (3 : Int) (5 : Int)).snd).toNat) (0 : Nat)).fst (0 : Int)).X == (5 : Int))) ∧ True) ∧ True)
theorem law07AwakeVc  : fnX X6 (noAnn) Try.f8 [] [] (ends [] ⟨some (.raw (.bool true)), []⟩) = law07AwakeText  := by kernel_rfl
theorem law07AwakeHolds  : law07AwakeText  := by
  unfold law07AwakeText
  exact ⟨⟨by kernel_rfl, trivial⟩, trivial⟩
noncomputable def law07AwakeCon : Con T O := fun args cs => match args, cs with
  | [], [] => .ret ⟨some (.raw (.bool true)), []⟩
  | _, _ => .fail
theorem law07AwakeOk : ConOk R Try.prog 8 law07AwakeCon := con_of_fn R (X6) (TabOk.con R X6Ok) mixed Try.call8 Try.func8 law07AwakeCon (by
  intro args cs K h
  unfold law07AwakeCon at h
  split at h
  ·
    refine ⟨noAnn, _, fun v S hv => ⟨_, h, hv⟩, ?_⟩
    rw [law07AwakeVc ]
    exact law07AwakeHolds 
  · exact h.elim)
noncomputable def tab7 : Tab T O := (8, law07AwakeCon) :: tab6
theorem tabOk7 : TabOk R Try.prog tab7 := TabOk.cons R law07AwakeOk <| tabOk6
noncomputable def X7 : Ctx T O := { X0 with con := conOf tab7 }
theorem X7Ok : TabOk R X7.P tab7 := tabOk7
end Go.Proofs.Ytdnndahaeammcaa
