/-
  Sx: a state that tells less: the chunks may bear other numbers.
-/
import Derived.Test.YtmdoilnmllajjaaSxRegion2
import Derived.Scope
import Derived.Sort.LoopGhostIn
namespace Go.Sx
section
variable {T : Nat → Enc} {O : Nat → Type} (R : Objs O)

theorem selfPairs_look {m k j : Nat} : ∀ {l : List (Nat × Chunk T O)}, lookK k (selfPairs m l) = some j → j = k ∧ k < m
  | [], h => by simp [selfPairs, lookK] at h
  | (i, c) :: l, h => by
    simp only [selfPairs] at h
    split at h
    · rename_i hi
      simp only [lookK] at h
      split at h
      · rename_i hk
        simp only [Option.some.injEq] at h
        simp only [decide_eq_true_eq] at hi
        exact ⟨by omega, by omega⟩
      · exact selfPairs_look h
    · exact selfPairs_look h
theorem selfPairs_has {m k : Nat} (hk : k < m) : ∀ {l : List (Nat × Chunk T O)} {c : Chunk T O}, lookK k l = some c → lookK k (selfPairs m l) = some k
  | [], c, h => by simp [lookK] at h
  | (i, d) :: l, c, h => by
    simp only [lookK] at h
    simp only [selfPairs]
    by_cases hi : i = k
    · subst hi
      simp only [hk, decide_true, lookK, if_pos]
    · rw [if_neg hi] at h
      split
      · simp only [lookK, if_neg hi]; exact selfPairs_has hk h
      · exact selfPairs_has hk h
theorem addNew_ext : ∀ {l π : List (Nat × Nat)} {k j : Nat}, lookK k π = some j → lookK k (addNew π l) = some j
  | [], _, _, _, h => h
  | (i, i') :: l, π, k, j, h => by
    simp only [addNew]
    split
    · exact addNew_ext h
    · rename_i hn
      refine addNew_ext ?_
      simp only [lookK]
      rw [if_neg (fun e => by rw [e, h] at hn; cases hn)]
      exact h
theorem growPairs_ext {A B : List (Nat × Chunk T O)} : ∀ {n : Nat} {π : List (Nat × Nat)} {k j : Nat}, lookK k π = some j → lookK k (growPairs A B n π) = some j
  | 0, _, _, _, h => h
  | n + 1, _, _, _, h => growPairs_ext (n := n) (addNew_ext h)
theorem one2one_inj {j : Nat} : ∀ {π : List (Nat × Nat)} {k k' : Nat}, one2one π = true → (k, j) ∈ π → (k', j) ∈ π → k = k'
  | [], _, _, _, h, _ => by simp at h
  | (i, i') :: π, k, k', ho, h, h' => by
    simp only [one2one, Bool.and_eq_true, List.all_eq_true, bne_iff_ne] at ho
    simp only [List.mem_cons, Prod.mk.injEq] at h h'
    rcases h with ⟨rfl, rfl⟩ | h <;> rcases h' with ⟨rfl, h2⟩ | h'
    · rfl
    · exact absurd rfl (ho.1 _ h').2
    · subst h2; exact absurd rfl (ho.1 _ h).2
    · exact one2one_inj ho.2 h h'
theorem fixes_self {m k j : Nat} (hk : k < m) : ∀ {π : List (Nat × Nat)}, fixes m π = true → lookK k π = some j → j = k
  | [], _, h => by simp [lookK] at h
  | (i, i') :: π, hf, h => by
    simp only [fixes, Bool.and_eq_true, Bool.or_eq_true, decide_eq_true_eq, beq_iff_eq] at hf
    simp only [lookK] at h
    split at h
    · rename_i hi
      simp only [Option.some.injEq] at h
      omega
    · exact fixes_self hk hf.2 h
theorem keysIn_look {π : List (Nat × Nat)} {k : Nat} : ∀ {h : List (Nat × Chunk T O)} {c : Chunk T O}, keysIn π h = true → lookK k h = some c → ∃ j, lookK k π = some j
  | [], _, _, h => by simp [lookK] at h
  | (i, d) :: l, c, hk, h => by
    simp only [keysIn, Bool.and_eq_true] at hk
    simp only [lookK] at h
    split at h
    · rename_i hi
      subst hi
      exact Option.isSome_iff_exists.1 hk.1.1
    · exact keysIn_look hk.2 h
theorem metH_look {π : List (Nat × Nat)} {B : List (Nat × Chunk T O)} {k : Nat} : ∀ {h : List (Nat × Chunk T O)} {c : Chunk T O}, metH π B h → lookK k h = some c → ∃ j c', lookK k π = some j ∧ lookK j B = some c' ∧ c.rn π = some c'
  | [], _, _, h => by simp [lookK] at h
  | (i, d) :: l, c, hm, h => by
    simp only [metH] at hm
    simp only [lookK] at h
    split at h
    · rename_i hi
      subst hi
      simp only [Option.some.injEq] at h
      subst h
      obtain ⟨hm, _⟩ := hm
      split at hm
      · rename_i j hj
        split at hm
        · rename_i c' d' hc hd
          exact ⟨j, c', hj, hc, by rw [hd, Chunk.same_eq _ _ hm]⟩
        · exact hm.elim
      · exact hm.elim
    · exact metH_look hm.2 h
theorem metT_len {π : List (Nat × Nat)} : ∀ {l l' : List (Option SV)}, metT π l l' → l.length = l'.length
  | [], [], _ => rfl
  | [], _ :: _, h => by simp [metT] at h
  | none :: l, [], h => by simp [metT] at h
  | some _ :: l, [], h => by simp [metT] at h
  | none :: l, _ :: l', h => by
    simp only [metT] at h
    simp [metT_len h]
  | some _ :: l, some _ :: l', h => by
    simp only [metT] at h
    simp [metT_len h.2]
  | some _ :: l, none :: l', h => by simp [metT] at h
theorem metT_look {π : List (Nat × Nat)} : ∀ {l l' : List (Option SV)} {i : Nat} {v : SV}, metT π l l' → getT l i = some v → ∃ u, getT l' i = some u ∧ v.rn π = some u
  | [], _, i, v, _, h => by simp [getT] at h
  | none :: l, [], i, v, h, _ => by simp [metT] at h
  | some _ :: l, [], i, v, h, _ => by simp [metT] at h
  | none :: l, x :: l', 0, v, _, h => by simp [getT] at h
  | none :: l, x :: l', i + 1, v, hm, h => by
    simp only [metT] at hm
    simp only [getT] at h ⊢
    exact metT_look hm h
  | some a :: l, some b :: l', 0, v, hm, h => by
    simp only [metT] at hm
    simp only [getT, Option.some.injEq] at h ⊢
    subst h
    obtain ⟨hm, _⟩ := hm
    split at hm
    · rename_i u hu
      exact ⟨b, rfl, by rw [hu, SV.same_eq _ _ hm]⟩
    · exact hm.elim
  | some a :: l, some b :: l', i + 1, v, hm, h => by
    simp only [metT] at hm
    simp only [getT] at h ⊢
    exact metT_look hm.2 h
  | some a :: l, none :: l', i, v, hm, _ => by simp [metT] at hm

/-- the values of the one's chunks, out of the other one's -/
def via {α : Type} (z : α) (π : List (Nat × Nat)) (f : Nat → α) (k : Nat) : α := match lookK k π with
  | some j => f j
  | none => z

theorem via_some {α : Type} {z : α} {π : List (Nat × Nat)} {f : Nat → α} {k j : Nat} (h : lookK k π = some j) : via z π f k = f j := by simp [via, h]

mutual
theorem SV.rn_has {π : List (Nat × Nat)} : ∀ (v v' : SV), v.rn π = some v' → ∀ id ∈ v.ids, ∃ j, lookK id π = some j
  | .raw _, v', e => by simp [SV.ids]
  | .ptr k off, v', e => by
    simp only [SV.rn, Option.map_eq_some_iff] at e
    obtain ⟨k', hk, rfl⟩ := e
    intro id hid; simp [SV.ids] at hid; subst hid; exact ⟨k', hk⟩
  | .elt k i E j, v', e => by
    simp only [SV.rn, Option.map_eq_some_iff] at e
    obtain ⟨k', hk, rfl⟩ := e
    intro id hid; simp [SV.ids] at hid; subst hid; exact ⟨k', hk⟩
  | .own k, v', e => by
    simp only [SV.rn, Option.map_eq_some_iff] at e
    obtain ⟨k', hk, rfl⟩ := e
    intro id hid; simp [SV.ids] at hid; subst hid; exact ⟨k', hk⟩
  | .agg cs, v', e => by
    simp only [SV.rn, Option.map_eq_some_iff] at e
    obtain ⟨cs', hk, rfl⟩ := e
    simpa only [SV.ids] using rnL_has cs cs' hk
  | .tup cs, v', e => by
    simp only [SV.rn, Option.map_eq_some_iff] at e
    obtain ⟨cs', hk, rfl⟩ := e
    simpa only [SV.ids] using rnL_has cs cs' hk
  | .iface t v, v', e => by
    simp only [SV.rn, Option.map_eq_some_iff] at e
    obtain ⟨u, hk, rfl⟩ := e
    simpa only [SV.ids] using SV.rn_has v u hk
  | .fn f cs, v', e => by
    simp only [SV.rn, Option.map_eq_some_iff] at e
    obtain ⟨cs', hk, rfl⟩ := e
    simpa only [SV.ids] using rnL_has cs cs' hk
theorem rnL_has {π : List (Nat × Nat)} : ∀ (l l' : List SV), rnL π l = some l' → ∀ id ∈ idsL l, ∃ j, lookK id π = some j
  | [], l', e => by simp [idsL]
  | v :: vs, l', e => by
    unfold rnL at e
    split at e
    · rename_i u us hu hus
      intro id hid
      simp only [idsL, List.mem_append] at hid
      rcases hid with hid | hid
      · exact SV.rn_has v u hu id hid
      · exact rnL_has vs us hus id hid
    · cases e
end

/-- what a state that is met tells -/
structure Met (nf : Nat) (S S' : SS T O) (π : List (Nat × Nat)) : Prop where
  inj : ∀ k k' j, lookK k π = some j → lookK k' π = some j → k = k'
  self : ∀ k j, k < nf → lookK k π = some j → j = k
  heap : ∀ k c, S'.get k = some c → ∃ j c', lookK k π = some j ∧ S.get j = some c' ∧ c.rn π = some c'
  tmps : ∀ i v, getT S'.tmps i = some v → ∃ u, getT S.tmps i = some u ∧ v.rn π = some u
  len : S'.tmps.length = S.tmps.length

theorem le_met {nf : Nat} {S S' : SS T O} (h : le nf S S') : ∃ π, Met nf S S' π := by
  unfold le at h
  refine ⟨growPairs S'.heap S.heap 4 (addNew (selfPairs nf S'.heap) (pairsT S'.tmps S.tmps)), ?_⟩
  simp only at h
  generalize growPairs S'.heap S.heap 4 (addNew (selfPairs nf S'.heap) (pairsT S'.tmps S.tmps)) = π at h ⊢
  split at h
  · rename_i hb
    simp only [Bool.and_eq_true] at hb
    exact ⟨fun k k' j h1 h2 => one2one_inj hb.1.1 (lookK_mem h1) (lookK_mem h2), fun k j hk hj => fixes_self hk hb.2 hj, fun k c hc => metH_look h.2 hc, fun i v hv => metT_look h.1 hv, metT_len h.1⟩
  · exact h.elim

section
variable {nf : Nat} {S S' : SS T O} {π : List (Nat × Nat)} {ρ : Env} {Fs : Nat → Nat → Prop} {w : World}

theorem met_back : ∀ k k', lookK k π = some k' → ρ k' = via (.bool true) π ρ k := fun _ _ h => (via_some h).symm

theorem Met.heapOk (hm : Met nf S S' π) (hp : HeapOk R ρ S.get Fs w) : HeapOk R (via (.bool true) π ρ) S'.get (via (fun _ => False) π Fs) w := by
  refine ⟨fun k => ?_, fun k c hc => ?_, fun k k' c c' hc hc' hne ho x hx => ?_⟩
  · unfold via
    split
    · exact hp.one _
    · rfl
  · obtain ⟨j, c', h1, h2, h3⟩ := hm.heap k c hc
    rw [via_some h1, via_some h1]
    exact (Chunk.rn_holds R met_back h3).1 (hp.holds j c' h2)
  · obtain ⟨j, d, h1, h2, h3⟩ := hm.heap k c hc
    obtain ⟨j', d', h1', h2', h3'⟩ := hm.heap k' c' hc'
    rw [via_some h1] at hx
    rw [via_some h1']
    refine hp.sep j j' d d' h2 h2' (fun e => hne ?_) (by rw [Chunk.rn_owned h3]; exact ho) x hx
    subst e
    exact hm.inj k k' j h1 h1'

/-- One state for another one. -/
theorem le_sound (h : le nf S S') (hwf : S'.wf nf = true) {fx : Fx} (hn : fx.n = nf) {w0 : World} {M : Nat → Prop} {a : Act} (inv : Inv R fx w0 M (· < S.next) ρ Fs S.tmps S.get a w) :
    ∃ ρ' Fs', Inv R fx w0 M (· < S'.next) ρ' Fs' S'.tmps S'.get a w := by
  obtain ⟨π, hm⟩ := le_met h
  unfold SS.wf at hwf
  simp only [Bool.and_eq_true, List.all_eq_true, decide_eq_true_eq] at hwf
  obtain ⟨⟨hnx, hwt⟩, hwh⟩ := hwf
  subst hn
  refine ⟨fun k => if k < fx.n then ρ k else via (.bool true) π ρ k, via (fun _ => False) π Fs, ?_⟩
  have same : ∀ k j, lookK k π = some j → (if k < fx.n then ρ k else via (.bool true) π ρ k) = via (.bool true) π ρ k := by
    intro k j hj
    split
    · rename_i hk
      rw [via_some hj, hm.self k j hk hj]
    · rfl
  have back : ∀ k k', lookK k π = some k' → ρ k' = (fun k => if k < fx.n then ρ k else via (.bool true) π ρ k) k := fun k k' hk => by
    show _ = (if _ then _ else _)
    rw [same k k' hk, via_some hk]
  have hp := Met.heapOk R hm inv.hp
  have getT_mem : ∀ {l : List (Option SV)} {i : Nat} {v : SV}, getT l i = some v → some v ∈ l := by
    intro l
    induction l with
    | nil => intro i v h; simp [getT] at h
    | cons x l ih =>
      intro i v h
      cases i with
      | zero => simp only [getT] at h; simp [h]
      | succ i => simp only [getT] at h; exact List.mem_cons_of_mem _ (ih h)
  refine ⟨inv.df, fun k hk => ⟨Nat.lt_of_lt_of_le hk hnx, ?_⟩, ?_, fun i v hv => ?_, ⟨fun k => ?_, fun k c hc => ?_, fun k k' c c' hc hc' hne ho x hx => hp.sep k k' c c' hc hc' hne ho x hx⟩, fun i v hv id hid => ?_, fun k c hc => ⟨?_, fun id hid => ?_⟩, inv.kept, fun k c hc ho x hx hlt => ?_⟩
  · show (if _ then _ else _) = _
    rw [if_pos hk]
    exact (inv.fix k hk).2
  · rw [inv.sz, hm.len]
  · obtain ⟨u, h1, h2⟩ := hm.tmps i v hv
    rw [inv.slots i u h1, SV.rn_den back v u h2]
  · show (if _ then _ else _ : Value).oneCell' = true
    split
    · exact inv.hp.one k
    · exact hp.one k
  · obtain ⟨j, d, h1, h2, h3⟩ := hm.heap k c hc
    show Chunk.holds R _ w (if _ then _ else _) _ c
    rw [same k j h1]
    refine Chunk.holds_congr R (hp.holds k c hc) fun id hid => ?_
    obtain ⟨j', hj'⟩ : ∃ j', lookK id π = some j' := by
      cases c with
      | cells cs t =>
        simp only [Chunk.rn, Option.map_eq_some_iff] at h3
        obtain ⟨cs', h, _⟩ := h3
        exact rnL_has cs cs' h id hid
      | _ => simp [Chunk.ids] at hid
    exact (same id j' hj').symm
  · exact of_decide_eq_true (List.all_eq_true.1 (hwt (some v) (getT_mem hv)) id hid)
  · exact (hwh (k, c) (lookK_mem hc)).1
  · exact (hwh (k, c) (lookK_mem hc)).2 id hid
  · obtain ⟨j, d, h1, h2, h3⟩ := hm.heap k c hc
    rw [via_some h1] at hx
    exact inv.own j d h2 (by rw [Chunk.rn_owned h3]; exact ho) x hx hlt
end
end
end Go.Sx
