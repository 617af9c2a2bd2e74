/-
  Sx: a collector over a slice's iterator (slices.AppendSeq behind slices.Values): from a word on the bare call to a contract.
-/
import Derived.Test.YthfggjfpokknlaaSxLift2
namespace Go.Sx
open Go.RowKit
section
variable {T : Nat → Enc} {O : Nat → Type} (R : Objs O)

/-- slices.AppendSeq(nil, slices.Values(..)): t: the element's type; e: its data; box: the type of the box; g: the iterator; at most N things -/
def seqCon (e : Nat) (t box : TypeId) (g : FuncId) (N : Nat) : Con T O := fun args cs => match args, cs with
  | [.raw (.slice none 0 0), .fn g' [.ptr 0 0]], [.cells [.own 1] box', .ro e' L] => match Nat.decEq e' e with
    | .isTrue h => chk (decide (g' = g) && decide (box' = box) && decide ((castE h L).length ≤ N)) (.ret ⟨some (.own 2), [(2, some (.vec e (castE h L) t))]⟩)
    | .isFalse _ => .fail
  | [.raw (.slice none 0 0), .fn g' [.ptr 0 0]], [.cells [.own 1] box', .vec e' L _] => match Nat.decEq e' e with
    | .isTrue h => chk (decide (g' = g) && decide (box' = box) && decide ((castE h L).length ≤ N)) (.ret ⟨some (.own 2), [(2, some (.vec e (castE h L) t))]⟩)
    | .isFalse _ => .fail
  | _, _ => .fail

theorem Kept.of_below {w w' : World} (h : Below w.heap.size w w') : Kept (fun _ => False) w w' := ⟨h.os, h.tape, h.output, h.size, fun b hb _ => h.block b hb⟩

theorem seqCon_ok {P : Program} {f g : FuncId} {e : Nat} {t box : TypeId} {N : Nat} (henter : ∀ (as : Array Value) (w : World), (callFunc f as).run P w = .ok (.enter f as) w)
    (hbody : ∀ (b : Nat) (sv : Value) (L : List (T e).α) (F : Nat → Prop) (w : World), b < w.heap.size → w.cell? ⟨b, 0, none⟩ = some sv → roHolds (T e) w sv L F → L.length ≤ N →
      Calls P f #[.slice none 0 0, .func (.func g) #[] #[.pointer (some ⟨b, 0, none⟩)]] w fun en w' => ∃ v, en = .returned v ∧ w'.ownsRow w.heap.size t (T e).n v L.length (valsL (T e) L) ∧ Below w.heap.size w w') :
    ConOk R P f (seqCon e t box g N : Con T O) := by
  have main : ∀ (K : Eff T O → Prop) (c1 : Chunk T O) (L : List (T e).α) (g' : FuncId) (box' : TypeId), (∀ ρ w v F, c1.holds R ρ w v F → roHolds (T e) w v L F) → c1.ids = [] →
      (chk (decide (g' = g) && decide (box' = box) && decide (L.length ≤ N)) (.ret ⟨some (.own 2), [(2, some (.vec e L t))]⟩ : Tree (Eff T O))).holds K →
      ∀ (ρ : Env) (Fs : Nat → Nat → Prop) (w : World), HeapOk R ρ (listG [.cells [.own 1] box', c1]) Fs w →
      ∃ f', (∀ (as : Array Value) (w : World), (callFunc f as).run P w = .ok (.enter f' as) w) ∧
        Calls P f' (denL ρ [.raw (.slice none 0 0), .fn g' [.ptr 0 0]]).toArray w fun en w' => ∃ e v ρ' Fs', K e ∧ en = .returned v ∧ EffOk R ρ (listG [.cells [.own 1] box', c1]) Fs w 2 e v ρ' Fs' w' := by
    intro K c1 L g' box' hro hids h ρ Fs w hp
    rw [Tree.holds_chk] at h
    obtain ⟨hd, hK⟩ := h
    simp only [Bool.and_eq_true, decide_eq_true_eq] at hd
    obtain ⟨⟨rfl, rfl⟩, hN⟩ := hd
    obtain ⟨b, hb, hcell, _, _⟩ := hp.holds 0 (.cells [.own 1] box') rfl
    have h1 := hro _ _ _ _ (hp.holds 1 c1 rfl)
    have hlt : b < w.heap.size := (Array.getElem?_eq_some_iff.1 hcell).1
    have hc : w.cell? ⟨b, 0, none⟩ = some (ρ 1) := by
      simp [World.cell?, hcell, denL, SV.den]
    refine ⟨f, henter, ?_⟩
    have hargs : (denL ρ [.raw (.slice none 0 0), .fn g' [.ptr 0 0]]).toArray = #[.slice none 0 0, .func (.func g') #[] #[.pointer (some ⟨b, 0, none⟩)]] := by
      simp [denL, SV.den, hb, addrOf, Addr.add]
    rw [hargs]
    refine (hbody b (ρ 1) L (Fs 1) w hlt hc h1 hN).mono ?_
    rintro en w' ⟨v, rfl, hrow, hbl⟩
    refine ⟨_, v, _, _, hK, rfl, EffOk.alloc R hp (fresh := 2) rfl ?_ (Kept.of_below hbl) (.vec e L t) v v (fun x => v.ownBlock = some x) _ ?_ ?_ ?_ ?_⟩
    · intro k c hk
      match k, hk with
      | 0, hk =>
        simp only [listG, List.getElem?_cons_zero, Option.some.injEq] at hk
        subst hk
        exact ⟨by decide, by simp [Chunk.ids, idsL, SV.ids]⟩
      | 1, hk =>
        simp only [listG, List.getElem?_cons_succ, List.getElem?_cons_zero, Option.some.injEq] at hk
        subst hk
        exact ⟨by decide, by rw [hids]; simp⟩
      | k + 2, hk => simp [listG] at hk
    · rcases hrow.2 with ⟨rfl, _⟩ | ⟨g, cap, cur, rfl, _⟩ <;> rfl
    · refine ⟨⟨hrow.1, ?_⟩, fun x => Iff.rfl⟩
      rcases hrow.2 with h | ⟨g, cap, cur, hv, _, rest⟩
      · exact .inl h
      · exact .inr ⟨g, cap, cur, hv, Nat.zero_le _, rest⟩
    · intro x hx
      exact (hrow.lt x hx).1
    · intro s hs
      simp only [Option.some.injEq] at hs
      subst hs
      exact (setF_same ρ 2 v).symm
  intro args cs K h ha hcs ρ Fs w hp
  unfold seqCon at h
  split at h
  · rename_i g' box' e' L
    split at h
    · rename_i he _
      subst he
      exact main K (.ro _ L) L g' box' (fun _ _ _ _ h => h) rfl h ρ Fs w hp
    · exact h.elim
  · rename_i g' box' e' L el
    split at h
    · rename_i he _
      subst he
      exact main K (.vec _ L el) L g' box' (fun _ w v F (h : w.ownsRow 0 el (T _).n v L.length (valsL (T _) L) ∧ ∀ x, F x ↔ v.ownBlock = some x) => vec_ro h.1 h.2) rfl h ρ Fs w hp
    · exact h.elim
  · exact h.elim

/-! ### a map's keys, told as a row -/
/-- a function of a map's iterator (g) whose answer is a row made of the map's entries: okL: what it asks of them; out: the row -/
def mapCon (e k : Nat) (t tm : TypeId) (g : FuncId) (okL : List (Int × (T e).α) → Bool) (out : List (Int × (T e).α) → List (T k).α) : Con T O := fun args cs => match args, cs with
  | [.fn g' [.ptr 0 0]], [.cells [.own 1] tm', .map e' L] => match Nat.decEq e' e with
    | .isTrue h => chk (decide (g' = g) && decide (tm' = tm) && okL (castM h L)) (.ret ⟨some (.own 2), [(2, some (.vec k (out (castM h L)) t))]⟩)
    | .isFalse _ => .fail
  | _, _ => .fail

theorem mapCon_ok {P : Program} {f g : FuncId} {e k : Nat} {t tm : TypeId} {okL : List (Int × (T e).α) → Bool} {out : List (Int × (T e).α) → List (T k).α} (henter : ∀ (as : Array Value) (w : World), (callFunc f as).run P w = .ok (.enter f as) w)
    (hbody : ∀ (b bm : Nat) (es : Array MapEntry) (clock : Nat) (L : List (Int × (T e).α)) (w : World), b < w.heap.size → w.cell? ⟨b, 0, none⟩ = some (.map (some bm)) → w.heap[bm]? = some (.map es clock) → ents (T e) es.toList L → (∀ p ∈ L, kok (T e).skey p.1) → MapKept.Stamped es clock → okL L = true →
      Calls P f #[.func (.func g) #[] #[.pointer (some ⟨b, 0, none⟩)]] w fun en w' => ∃ v, en = .returned v ∧ w'.ownsRow w.heap.size t (T k).n v (out L).length (valsL (T k) (out L)) ∧ Below w.heap.size w w') :
    ConOk R P f (mapCon e k t tm g okL out : Con T O) := by
  intro args cs K h ha hcs ρ Fs w hp
  unfold mapCon at h
  split at h
  case h_2 => exact h.elim
  rename_i g' tm' e' L
  split at h
  case h_2 => exact h.elim
  rename_i he _
  subst he
  rw [Tree.holds_chk] at h
  obtain ⟨hd, hK⟩ := h
  simp only [Bool.and_eq_true, decide_eq_true_eq] at hd
  obtain ⟨⟨rfl, rfl⟩, hN⟩ := hd
  obtain ⟨b, hb, hcell, _, _⟩ := hp.holds 0 (.cells [.own 1] tm') rfl
  obtain ⟨bm, es, clock, hv, hbm, hes, ⟨_, hok, hst⟩, _⟩ := hp.holds 1 (.map _ L) rfl
  have hlt : b < w.heap.size := (Array.getElem?_eq_some_iff.1 hcell).1
  have hc : w.cell? ⟨b, 0, none⟩ = some (.map (some bm)) := by
    simp [World.cell?, hcell, denL, SV.den, hv]
  refine ⟨f, henter, ?_⟩
  have hargs : (denL ρ [.fn g' [.ptr 0 0]]).toArray = #[.func (.func g') #[] #[.pointer (some ⟨b, 0, none⟩)]] := by
    simp [denL, SV.den, hb, addrOf, Addr.add]
  rw [hargs]
  refine (hbody b bm es clock L w hlt hc hbm hes hok hst hN).mono ?_
  rintro en w' ⟨v, rfl, hrow, hbl⟩
  refine ⟨_, v, _, _, hK, rfl, EffOk.alloc R hp (fresh := 2) rfl ?_ (Kept.of_below hbl) (.vec k (out L) t) v v (fun x => v.ownBlock = some x) _ ?_ ?_ ?_ ?_⟩
  · intro j c hk
    match j, hk with
    | 0, hk =>
      simp only [listG, List.getElem?_cons_zero, Option.some.injEq] at hk
      subst hk
      exact ⟨by decide, by simp [Chunk.ids, idsL, SV.ids]⟩
    | 1, hk =>
      simp only [listG, List.getElem?_cons_succ, List.getElem?_cons_zero, Option.some.injEq] at hk
      subst hk
      exact ⟨by decide, by simp [Chunk.ids]⟩
    | j + 2, hk => simp [listG] at hk
  · rcases hrow.2 with ⟨rfl, _⟩ | ⟨g, cap, cur, rfl, _⟩ <;> rfl
  · refine ⟨⟨hrow.1, ?_⟩, fun x => Iff.rfl⟩
    rcases hrow.2 with h | ⟨g, cap, cur, hv, _, rest⟩
    · exact .inl h
    · exact .inr ⟨g, cap, cur, hv, Nat.zero_le _, rest⟩
  · intro x hx
    exact (hrow.lt x hx).1
  · intro s hs
    simp only [Option.some.injEq] at hs
    subst hs
    exact (setF_same ρ 2 v).symm
end
end Go.Sx
