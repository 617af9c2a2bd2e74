/-
  Part of a proof over the seat Ytmnnjclnldaejaa: printed by a small program or typed by hand.
-/
import Derived.Test.YtmnnjclnldaejaaSxExec
/-
  Sx: what chunks and states say of the model's memory; how a statement on them is kept.
-/
namespace Go.Sx
section
variable {T : Nat → Enc} {O : Nat → Type}

/-! ### values -/
mutual
theorem SV.den_congr {ρ ρ' : Env} : ∀ (v : SV), (∀ id ∈ v.ids, ρ id = ρ' id) → v.den ρ = v.den ρ'
  | .raw _, _ => rfl
  | .ptr k _, h => by simp only [SV.den, h k (by simp [SV.ids])]
  | .elt k _ _ _, h => by simp only [SV.den, h k (by simp [SV.ids])]
  | .own k, h => by simp only [SV.den, h k (by simp [SV.ids])]
  | .view k _ _ _, h => by simp only [SV.den, h k (by simp [SV.ids])]
  | .agg cs, h => by simp only [SV.den, denL_congr cs h]
  | .tup vs, h => by simp only [SV.den, denL_congr vs h]
  | .iface _ v, h => by simp only [SV.den, SV.den_congr v h]
  | .fn _ cap, h => by simp only [SV.den, denL_congr cap h]
theorem denL_congr {ρ ρ' : Env} : ∀ (l : List SV), (∀ id ∈ idsL l, ρ id = ρ' id) → denL ρ l = denL ρ' l
  | [], _ => rfl
  | v :: vs, h => by
    simp only [denL, SV.den_congr v (fun id hid => h id (by simp [idsL, hid])), denL_congr vs (fun id hid => h id (by simp [idsL, hid]))]
end

theorem denL_eq_map (ρ : Env) : ∀ l : List SV, denL ρ l = l.map (SV.den ρ)
  | [] => rfl
  | v :: vs => by simp [denL, denL_eq_map ρ vs]
theorem idsL_eq : ∀ l : List SV, idsL l = l.flatMap SV.ids
  | [] => rfl
  | v :: vs => by simp [idsL, idsL_eq vs]
theorem mem_idsL {l : List SV} {id : Nat} : id ∈ idsL l ↔ ∃ v ∈ l, id ∈ v.ids := by simp [idsL_eq]

mutual
theorem SV.rn_den {π : List (Nat × Nat)} {ρ ρ' : Env} (h : ∀ k k', lookK k π = some k' → ρ' k' = ρ k) : ∀ (v v' : SV), v.rn π = some v' → v'.den ρ' = v.den ρ
  | .raw _, v', e => by simp [SV.rn] at e; subst e; rfl
  | .ptr k off, v', e => by
    simp only [SV.rn, Option.map_eq_some_iff] at e
    obtain ⟨k', hk, rfl⟩ := e
    simp only [SV.den, h k k' hk]
  | .elt k i E j, v', e => by
    simp only [SV.rn, Option.map_eq_some_iff] at e
    obtain ⟨k', hk, rfl⟩ := e
    simp only [SV.den, h k k' hk]
  | .own k, v', e => by
    simp only [SV.rn, Option.map_eq_some_iff] at e
    obtain ⟨k', hk, rfl⟩ := e
    simp only [SV.den, h k k' hk]
  | .view k lo n E, v', e => by
    simp only [SV.rn, Option.map_eq_some_iff] at e
    obtain ⟨k', hk, rfl⟩ := e
    simp only [SV.den, h k k' hk]
  | .agg cs, v', e => by
    simp only [SV.rn, Option.map_eq_some_iff] at e
    obtain ⟨cs', hk, rfl⟩ := e
    simp only [SV.den, rnL_den h cs cs' hk]
  | .tup cs, v', e => by
    simp only [SV.rn, Option.map_eq_some_iff] at e
    obtain ⟨cs', hk, rfl⟩ := e
    simp only [SV.den, rnL_den h cs cs' hk]
  | .iface t v, v', e => by
    simp only [SV.rn, Option.map_eq_some_iff] at e
    obtain ⟨u, hk, rfl⟩ := e
    simp only [SV.den, SV.rn_den h v u hk]
  | .fn f cs, v', e => by
    simp only [SV.rn, Option.map_eq_some_iff] at e
    obtain ⟨cs', hk, rfl⟩ := e
    simp only [SV.den, rnL_den h cs cs' hk]
theorem rnL_den {π : List (Nat × Nat)} {ρ ρ' : Env} (h : ∀ k k', lookK k π = some k' → ρ' k' = ρ k) : ∀ (l l' : List SV), rnL π l = some l' → denL ρ' l' = denL ρ l
  | [], l', e => by simp [rnL] at e; subst e; rfl
  | v :: vs, l', e => by
    unfold rnL at e
    split at e
    · rename_i u us hu hus
      simp only [Option.some.injEq] at e
      subst e
      simp only [denL, SV.rn_den h v u hu, rnL_den h vs us hus]
    · cases e
end

theorem lookK_mem {α : Type} {k : Nat} {a : α} : ∀ {l : List (Nat × α)}, lookK k l = some a → (k, a) ∈ l
  | [], h => by simp [lookK] at h
  | (j, b) :: l, h => by
    simp only [lookK] at h
    split at h
    · rename_i hj
      simp only [Option.some.injEq] at h
      subst h; subst hj
      simp
    · exact List.mem_cons_of_mem _ (lookK_mem h)

mutual
/-- the numbers behind a renaming are numbers of the renaming -/
theorem SV.rn_ids {π : List (Nat × Nat)} : ∀ (v v' : SV), v.rn π = some v' → ∀ id ∈ v'.ids, ∃ k, lookK k π = some id
  | .raw _, v', e => by simp [SV.rn] at e; subst e; simp [SV.ids]
  | .ptr k off, v', e => by
    simp only [SV.rn, Option.map_eq_some_iff] at e
    obtain ⟨k', hk, rfl⟩ := e
    intro id hid; simp [SV.ids] at hid; subst hid; exact ⟨k, hk⟩
  | .elt k i E j, v', e => by
    simp only [SV.rn, Option.map_eq_some_iff] at e
    obtain ⟨k', hk, rfl⟩ := e
    intro id hid; simp [SV.ids] at hid; subst hid; exact ⟨k, hk⟩
  | .own k, v', e => by
    simp only [SV.rn, Option.map_eq_some_iff] at e
    obtain ⟨k', hk, rfl⟩ := e
    intro id hid; simp [SV.ids] at hid; subst hid; exact ⟨k, hk⟩
  | .view k lo n E, v', e => by
    simp only [SV.rn, Option.map_eq_some_iff] at e
    obtain ⟨k', hk, rfl⟩ := e
    intro id hid; simp [SV.ids] at hid; subst hid; exact ⟨k, hk⟩
  | .agg cs, v', e => by
    simp only [SV.rn, Option.map_eq_some_iff] at e
    obtain ⟨cs', hk, rfl⟩ := e
    simpa only [SV.ids] using rnL_ids cs cs' hk
  | .tup cs, v', e => by
    simp only [SV.rn, Option.map_eq_some_iff] at e
    obtain ⟨cs', hk, rfl⟩ := e
    simpa only [SV.ids] using rnL_ids cs cs' hk
  | .iface t v, v', e => by
    simp only [SV.rn, Option.map_eq_some_iff] at e
    obtain ⟨u, hk, rfl⟩ := e
    simpa only [SV.ids] using SV.rn_ids v u hk
  | .fn f cs, v', e => by
    simp only [SV.rn, Option.map_eq_some_iff] at e
    obtain ⟨cs', hk, rfl⟩ := e
    simpa only [SV.ids] using rnL_ids cs cs' hk
theorem rnL_ids {π : List (Nat × Nat)} : ∀ (l l' : List SV), rnL π l = some l' → ∀ id ∈ idsL l', ∃ k, lookK k π = some id
  | [], l', e => by simp [rnL] at e; subst e; simp [idsL]
  | v :: vs, l', e => by
    unfold rnL at e
    split at e
    · rename_i u us hu hus
      simp only [Option.some.injEq] at e
      subst e
      intro id hid
      simp only [idsL, List.mem_append] at hid
      rcases hid with hid | hid
      · exact SV.rn_ids v u hu id hid
      · exact rnL_ids vs us hus id hid
    · cases e
end

theorem raw_same (a b : Value) (h : (SV.raw a).same (.raw b)) : a = b := by
  cases a <;> cases b <;> first
    | exact False.elim h
    | (simp only [SV.same] at h; split at h
       · rename_i hk; simp only [decide_eq_true_eq] at hk; rw [hk, h]
       · exact h.elim)
    | exact congrArg Value.bool h
    | (simp only [SV.same] at h; first | exact h | rfl)

mutual
theorem SV.same_eq : ∀ (v v' : SV), v.same v' → v = v'
  | .raw a, v', h => by
    cases v' with
    | raw b => rw [raw_same a b h]
    | _ => cases a <;> exact False.elim h
  | .ptr k off, v', h => by
    cases v' with
    | ptr k' off' =>
      simp only [SV.same] at h
      split at h
      · rename_i hk; simp at hk; rw [hk.1, hk.2]
      · exact h.elim
    | _ => exact False.elim h
  | .own k, v', h => by
    cases v' with
    | own k' =>
      simp only [SV.same] at h
      split at h
      · rename_i hk; simp at hk; rw [hk]
      · exact h.elim
    | _ => exact False.elim h
  | .view k lo n E, v', h => by
    cases v' with
    | view k' lo' n' E' =>
      simp only [SV.same] at h
      split at h
      · rename_i hk; simp at hk; rw [hk.1, hk.2, h.1, h.2]
      · exact h.elim
    | _ => exact False.elim h
  | .elt k i E j, v', h => by
    cases v' with
    | elt k' i' E' j' =>
      simp only [SV.same] at h
      split at h
      · rename_i hk; simp at hk; rw [hk.1.1, hk.1.2, hk.2, h]
      · exact h.elim
    | _ => exact False.elim h
  | .agg cs, v', h => by
    cases v' with
    | agg cs' => simp only [SV.same] at h; rw [sameL_eq cs cs' h]
    | _ => exact False.elim h
  | .tup cs, v', h => by
    cases v' with
    | tup cs' => simp only [SV.same] at h; rw [sameL_eq cs cs' h]
    | _ => exact False.elim h
  | .iface t v, v', h => by
    cases v' with
    | iface t' u =>
      simp only [SV.same] at h
      split at h
      · rename_i hk; simp at hk; rw [hk, SV.same_eq v u h]
      · exact h.elim
    | _ => exact False.elim h
  | .fn f cs, v', h => by
    cases v' with
    | fn f' cs' =>
      simp only [SV.same] at h
      split at h
      · rename_i hk; simp at hk; rw [hk, sameL_eq cs cs' h]
      · exact h.elim
    | _ => exact False.elim h
theorem sameL_eq : ∀ (l l' : List SV), sameL l l' → l = l'
  | [], l', h => by
    cases l' with
    | nil => rfl
    | cons => exact False.elim h
  | v :: vs, l', h => by
    cases l' with
    | nil => exact False.elim h
    | cons v' vs' =>
      simp only [sameL] at h
      rw [SV.same_eq v v' h.1, sameL_eq vs vs' h.2]
end

theorem Chunk.same_eq (c c' : Chunk T O) (h : c.same c') : c = c' := by
  cases c <;> cases c' <;> try exact False.elim h
  · simp only [Chunk.same] at h
    split at h
    · rename_i ht; simp at ht; rw [ht, sameL_eq _ _ h]
    · exact h.elim
  · simp only [Chunk.same] at h
    split at h
    · rename_i _ _ he _ ht; simp at ht; subst he; subst ht; rw [← h]; rfl
    · exact h.elim
  · simp only [Chunk.same] at h
    split at h
    · rename_i _ _ he _ ht; simp at ht; subst he; subst ht; rw [← h]; rfl
    · exact h.elim
  · simp only [Chunk.same] at h
    split at h
    · rename_i he _; subst he; rw [← h]; rfl
    · exact h.elim
  · simp only [Chunk.same] at h
    split at h
    · rename_i he _; subst he; rw [← h]; rfl
    · exact h.elim
  · simp only [Chunk.same] at h
    split at h
    · rename_i he _; subst he; rw [← h]; rfl
    · exact h.elim
  · simp only [Chunk.same] at h
    split at h
    · rename_i he _; subst he; rw [← h]; rfl
    · exact h.elim
  · simp only [Chunk.same] at h
    split at h
    · rename_i _ _ he _ ht
      simp only [Bool.and_eq_true, beq_iff_eq] at ht
      obtain ⟨rfl, rfl⟩ := ht
      subst he
      obtain ⟨h1, h2, h3⟩ := h
      rw [sameL_eq _ _ h1, ← h2, sameL_eq _ _ h3]; rfl
    · exact h.elim

/-! ### chunks in memory -/
/-- the cells of an element, as values -/
def Enc.vals (E : Enc) (a : E.α) : List Value := denL (fun _ => .nilFunc) (E.enc a)
def valsL (E : Enc) (L : List E.α) : List Value := L.flatMap E.vals

/-- the value of an element, by itself -/
def Enc.val (E : Enc) (a : E.α) : Value := match E.agg with
  | true => .agg (E.vals a).toArray
  | false => (E.vals a).headD undef
/-- a row that is read -/
def roHolds (E : Enc) (w : World) (v : Value) (L : List E.α) (F : Nat → Prop) : Prop :=
  ((∃ o, v = .slice o 0 0) ∧ L = [] ∧ ∀ x, ¬ F x) ∨ ∃ a cap, v = .slice (some a) L.length cap ∧ L.length ≤ cap ∧ a.spot = none ∧ a.block < w.heap.size ∧ (∀ j u, (valsL E L)[j]? = some u → w.cell? (a.add j) = some u) ∧ ∀ x, F x ↔ x = a.block
def rowAt (w : World) (v : Value) (us : List Value) : Prop :=
  (v = .slice none 0 0 ∧ us = []) ∨ ∃ a cap, v = .slice (some a) us.length cap ∧ us.length ≤ cap ∧ a.spot = none ∧ (∀ j u, us[j]? = some u → w.cell? (a.add j) = some u)

/-- What objects are in memory. -/
structure Objs (O : Nat → Type) where
  rep : (o : Nat) → O o → Value → World → (Nat → Prop) → Prop
  stable : ∀ o d v w w' F, rep o d v w F → (∀ x, F x → w'.heap[x]? = w.heap[x]?) → rep o d v w' F
  lt : ∀ o d v w F, rep o d v w F → ∀ x, F x → x < w.heap.size
  ptr : ∀ o d v w F, rep o d v w F → ∃ b, v = .pointer (some ⟨b, 0, none⟩)

variable (R : Objs O)

/-- chunk k, whose own value is 'ρ k', lies in the world so; F: the blocks that it is in -/
def Chunk.holds (ρ : Env) (w : World) (v : Value) (F : Nat → Prop) : Chunk T O → Prop
  | .cells cs t => ∃ b, v = .pointer (some ⟨b, 0, none⟩) ∧ w.heap[b]? = some (.cells (denL ρ cs).toArray t (0, 0)) ∧ cs.all SV.cell = true ∧ ∀ x, F x ↔ x = b
  | .arr e L t => ∃ b, v = .pointer (some ⟨b, 0, none⟩) ∧ w.heap[b]? = some (.cells (valsL (T e) L).toArray t (0, 0)) ∧ ∀ x, F x ↔ x = b
  | .vec e L t => w.ownsRow 0 t (T e).n v L.length (valsL (T e) L) ∧ ∀ x, F x ↔ v.ownBlock = some x
  | .ro e L => roHolds (T e) w v L F
  | .nest e LL => ∃ us, rowAt w v us ∧ us.length = LL.length ∧ (∀ (j : Nat) (u : Value) (L : List (T e).α), us[j]? = some u → LL[j]? = some L → ∃ F' : Nat → Prop, roHolds (T e) w u L F' ∧ ∀ x, F' x → F x) ∧ (∀ x, v.ownBlock = some x → F x) ∧ ∀ x, F x → x < w.heap.size
  | .map e L => ∃ b es clock, v = .map (some b) ∧ w.heap[b]? = some (.map es clock) ∧ es.toList.map (fun m => (m.key, m.val)) = L.map (fun p => (kval (T e).skey p.1, (T e).val p.2)) ∧ ((L.map (·.1)).Nodup ∧ (∀ p ∈ L, kok (T e).skey p.1) ∧ MapKept.Stamped es clock) ∧ ∀ x, F x ↔ x = b
  | .obj o d => R.rep o d v w F
  | .mix cs e n L ds t => ∃ b, v = .pointer (some ⟨b, 0, none⟩) ∧ w.heap[b]? = some (.cells (denL ρ cs ++ valsL (T e) L ++ denL ρ ds).toArray t (0, 0)) ∧ (cs.all SV.cell = true ∧ ds.all SV.cell = true ∧ L.length = n) ∧ ∀ x, F x ↔ x = b

theorem block_add (a : Addr) (n : Nat) : (a.add n).block = a.block := by unfold Addr.add; split <;> rfl
theorem roHolds_stable {E : Enc} {w w' : World} {v : Value} {L : List E.α} {F : Nat → Prop} (h : roHolds E w v L F) (hw : ∀ x, F x → w'.heap[x]? = w.heap[x]?) (hs : w.heap.size ≤ w'.heap.size) : roHolds E w' v L F := by
  rcases h with h | ⟨a, cap, h1, h2, h3, h4, h5, h6⟩
  · exact .inl h
  · refine .inr ⟨a, cap, h1, h2, h3, Nat.lt_of_lt_of_le h4 hs, fun j u hj => ?_, h6⟩
    rw [World.cell?_of_block (w := w) (w' := w') (a := a.add j) (by rw [block_add]; exact hw _ ((h6 _).2 rfl))]
    exact h5 j u hj
theorem rowAt_stable {w w' : World} {v : Value} {us : List Value} (h : rowAt w v us) (hw : ∀ x, v.ownBlock = some x → w'.heap[x]? = w.heap[x]?) : rowAt w' v us := by
  rcases h with h | ⟨a, cap, h1, h2, h3, h5⟩
  · exact .inl h
  · refine .inr ⟨a, cap, h1, h2, h3, fun j u hj => ?_⟩
    rw [World.cell?_of_block (w := w) (w' := w') (a := a.add j) (by rw [block_add]; exact hw _ (by rw [h1]; rfl))]
    exact h5 j u hj

theorem Chunk.holds_stable {ρ : Env} {w w' : World} {v : Value} {F : Nat → Prop} {c : Chunk T O} (h : c.holds R ρ w v F) (hw : ∀ x, F x → w'.heap[x]? = w.heap[x]?) (hs : w.heap.size ≤ w'.heap.size) : c.holds R ρ w' v F := by
  cases c with
  | cells cs t =>
    obtain ⟨b, h1, h2, h3, h4⟩ := h
    exact ⟨b, h1, by rw [hw b ((h4 b).2 rfl)]; exact h2, h3, h4⟩
  | arr e L t =>
    obtain ⟨b, h1, h2, h4⟩ := h
    exact ⟨b, h1, by rw [hw b ((h4 b).2 rfl)]; exact h2, h4⟩
  | vec e L t =>
    obtain ⟨⟨h0, h1⟩, h2⟩ := h
    refine ⟨⟨h0, ?_⟩, h2⟩
    rcases h1 with h1 | ⟨g, cap, cur, hv, hb, hg, rest⟩
    · exact .inl h1
    · exact .inr ⟨g, cap, cur, hv, hb, by rw [hw g ((h2 g).2 (by rw [hv]; rfl))]; exact hg, rest⟩
  | ro e L => exact roHolds_stable h hw hs
  | nest e LL =>
    obtain ⟨us, h1, h2, h3, h4, h5⟩ := h
    refine ⟨us, rowAt_stable h1 (fun x hx => hw x (h4 x hx)), h2, fun j u L hj hL => ?_, h4, fun x hx => Nat.lt_of_lt_of_le (h5 x hx) hs⟩
    obtain ⟨F', g1, g2⟩ := h3 j u L hj hL
    exact ⟨F', roHolds_stable g1 (fun x hx => hw x (g2 x hx)) hs, g2⟩
  | map e L =>
    obtain ⟨b, es, clock, h1, h2, h3, h4, h5⟩ := h
    exact ⟨b, es, clock, h1, by rw [hw b ((h5 b).2 rfl)]; exact h2, h3, h4, h5⟩
  | obj o d => exact R.stable o d v w w' F h hw
  | mix cs e n L ds t =>
    obtain ⟨b, h1, h2, h3, h4⟩ := h
    exact ⟨b, h1, by rw [hw b ((h4 b).2 rfl)]; exact h2, h3, h4⟩

theorem Chunk.holds_lt {ρ : Env} {w : World} {v : Value} {F : Nat → Prop} {c : Chunk T O} (h : c.holds R ρ w v F) : ∀ x, F x → x < w.heap.size := by
  have get : ∀ {b : Nat} {o : Obj}, w.heap[b]? = some o → b < w.heap.size := fun h => (Array.getElem?_eq_some_iff.1 h).1
  cases c with
  | cells cs t =>
    obtain ⟨b, h1, h2, h3, h4⟩ := h
    intro x hx; rw [(h4 x).1 hx]; exact get h2
  | arr e L t =>
    obtain ⟨b, h1, h2, h4⟩ := h
    intro x hx; rw [(h4 x).1 hx]; exact get h2
  | vec e L t =>
    intro x hx
    exact (h.1.lt x ((h.2 x).1 hx)).2
  | ro e L =>
    rcases h with h | ⟨a, cap, h1, h2, h3, h4, h5, h6⟩
    · intro x hx; exact absurd hx (h.2.2 x)
    · intro x hx; rw [(h6 x).1 hx]; exact h4
  | nest e LL =>
    obtain ⟨us, h1, h2, h3, h4, h5⟩ := h
    exact h5
  | map e L =>
    obtain ⟨b, es, clock, h1, h2, h3, h4, h5⟩ := h
    intro x hx; rw [(h5 x).1 hx]; exact get h2
  | obj o d => exact R.lt o d v w F h
  | mix cs e n L ds t =>
    obtain ⟨b, h1, h2, h3, h4⟩ := h
    intro x hx; rw [(h4 x).1 hx]; exact get h2

theorem Chunk.holds_congr {ρ ρ' : Env} {w : World} {v : Value} {F : Nat → Prop} {c : Chunk T O} (h : c.holds R ρ w v F) (hi : ∀ id ∈ c.ids, ρ id = ρ' id) : c.holds R ρ' w v F := by
  cases c with
  | cells cs t =>
    obtain ⟨b, h1, h2, h3, h4⟩ := h
    exact ⟨b, h1, by rw [h2, denL_congr cs hi], h3, h4⟩
  | mix cs e n L ds t =>
    obtain ⟨b, h1, h2, h3, h4⟩ := h
    exact ⟨b, h1, by rw [h2, denL_congr cs (fun id hid => hi id (List.mem_append_left _ hid)), denL_congr ds (fun id hid => hi id (List.mem_append_right _ hid))], h3, h4⟩
  | _ => exact h

theorem rnL_cell {π : List (Nat × Nat)} : ∀ (l l' : List SV), rnL π l = some l' → l'.all SV.cell = l.all SV.cell
  | [], l', e => by simp [rnL] at e; subst e; rfl
  | v :: vs, l', e => by
    unfold rnL at e
    split at e
    · rename_i u us hu hus
      simp only [Option.some.injEq] at e
      subst e
      simp only [List.all_cons, rnL_cell vs us hus]
      congr 1
      cases v <;> simp only [SV.rn, Option.map_eq_some_iff, Option.some.injEq] at hu <;> first
        | (subst hu; rfl)
        | (obtain ⟨_, _, rfl⟩ := hu; rfl)
    · cases e

theorem Chunk.rn_holds {π : List (Nat × Nat)} {ρ ρ' : Env} (hπ : ∀ k k', lookK k π = some k' → ρ' k' = ρ k) {w : World} {v : Value} {F : Nat → Prop} {c c' : Chunk T O} (hc : c.rn π = some c') :
    c'.holds R ρ' w v F ↔ c.holds R ρ w v F := by
  cases c with
  | cells cs t =>
    simp only [Chunk.rn, Option.map_eq_some_iff] at hc
    obtain ⟨cs', h, rfl⟩ := hc
    simp only [Chunk.holds, rnL_den hπ cs cs' h, rnL_cell cs cs' h]
  | mix cs e n L ds t =>
    simp only [Chunk.rn] at hc
    split at hc
    · rename_i cs' ds' h h'
      simp only [Option.some.injEq] at hc
      subst hc
      simp only [Chunk.holds, rnL_den hπ cs cs' h, rnL_cell cs cs' h, rnL_den hπ ds ds' h', rnL_cell ds ds' h']
    · cases hc
  | _ =>
    simp only [Chunk.rn, Option.some.injEq] at hc
    subst hc
    rfl

theorem Chunk.rn_owned {π : List (Nat × Nat)} {c c' : Chunk T O} (hc : c.rn π = some c') : c'.owned = c.owned := by
  cases c with
  | cells cs t =>
    simp only [Chunk.rn, Option.map_eq_some_iff] at hc
    obtain ⟨cs', h, rfl⟩ := hc
    rfl
  | mix cs e n L ds t =>
    simp only [Chunk.rn] at hc
    split at hc
    · simp only [Option.some.injEq] at hc; subst hc; rfl
    · cases hc
  | _ =>
    simp only [Chunk.rn, Option.some.injEq] at hc
    subst hc
    rfl

/-- Which chunks there are, apart from each other. -/
structure HeapOk (ρ : Env) (H : Nat → Option (Chunk T O)) (Fs : Nat → Nat → Prop) (w : World) : Prop where
  one : ∀ k, (ρ k).oneCell' = true
  holds : ∀ k c, H k = some c → c.holds R ρ w (ρ k) (Fs k)
  sep : ∀ k k' c c', H k = some c → H k' = some c' → k ≠ k' → c.owned = true → ∀ x, Fs k x → ¬ Fs k' x

/-- What a piece of a run leaves: outside M nothing that was there has turned. -/
structure Kept (M : Nat → Prop) (w w' : World) : Prop where
  os : w'.os = w.os
  tape : w'.tape = w.tape
  output : w'.output = w.output
  size : w.heap.size ≤ w'.heap.size
  block : ∀ b, b < w.heap.size → ¬ M b → w'.heap[b]? = w.heap[b]?

theorem Kept.refl (M : Nat → Prop) (w : World) : Kept M w w := ⟨rfl, rfl, rfl, Nat.le_refl _, fun _ _ _ => rfl⟩
theorem Kept.mono {M N : Nat → Prop} {w w' : World} (h : Kept M w w') (hm : ∀ x, x < w.heap.size → M x → N x) : Kept N w w' :=
  ⟨h.os, h.tape, h.output, h.size, fun b hb hn => h.block b hb (fun hM => hn (hm b hb hM))⟩
theorem Kept.trans {M N : Nat → Prop} {a b c : World} (h : Kept M a b) (k : Kept N b c) (hn : ∀ x, x < a.heap.size → N x → M x) : Kept M a c :=
  ⟨k.os.trans h.os, k.tape.trans h.tape, k.output.trans h.output, Nat.le_trans h.size k.size, fun x hx hM =>
    (k.block x (Nat.lt_of_lt_of_le hx h.size) (fun hN => hM (hn x hx hN))).trans (h.block x hx hM)⟩

theorem HeapOk.lt {ρ : Env} {H : Nat → Option (Chunk T O)} {Fs : Nat → Nat → Prop} {w : World} (h : HeapOk R ρ H Fs w) {k : Nat} {c : Chunk T O} (hk : H k = some c) : ∀ x, Fs k x → x < w.heap.size :=
  Chunk.holds_lt R (h.holds k c hk)
end
end Go.Sx
