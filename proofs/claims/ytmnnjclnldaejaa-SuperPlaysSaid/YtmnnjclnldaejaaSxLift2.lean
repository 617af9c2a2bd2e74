/-
  Part of a proof over the seat Ytmnnjclnldaejaa: printed by a small program or typed by hand.
-/
import Derived.Test.YtmnnjclnldaejaaSxKit
import Derived.Deep.Slices
import Derived.OpenShut
/-
  Sx: what a row's arguments are: slices of ints, bools and flat structs, and slices of those.
-/
namespace Go.Sx
open Go.RowKit

inductive Leaf where
  | int (k : IntKind)
  | bool
def Leaf.has : Leaf → Value → Prop
  | .int k, v => ∃ n, v = .int k n ∧ k.min ≤ n ∧ n ≤ k.max
  | .bool, v => ∃ b, v = .bool b

/-- the kinds of a type's cells, if it is flat -/
def leavesF (g : TypeId → Option (List Leaf)) (P : Program) : List Field → Nat → Option (List Leaf)
  | [], _ => some []
  | f :: fs, o => match g f.type with
    | some l => match decide (f.offset = o) && decide (l.length = P.cellsOf f.type) with
      | true => (leavesF g P fs (o + l.length)).map (l ++ ·)
      | false => none
    | none => none
def leavesN : Nat → List Leaf → List Leaf
  | 0, _ => []
  | n + 1, l => l ++ leavesN n l
def leavesT (P : Program) : Nat → TypeId → Option (List Leaf)
  | 0, _ => none
  | d + 1, t => match P.underlying t with
    | some .bool => some [.bool]
    | some (.int k) => some [.int k]
    | some (.struct fs) => match leavesF (leavesT P d) P fs.toList 0 with
      | some l => match decide (l.length = P.cellsOf t) with
        | true => some l
        | false => none
      | none => none
    | some (.array n e) => match leavesT P d e with
      | some l => match decide (l.length = P.cellsOf e) && decide (n * l.length = P.cellsOf t) with
        | true => some (leavesN n l)
        | false => none
      | none => none
    | _ => none

theorem choose_list {α : Type} {n : Nat} {p : Nat → α → Prop} (h : ∀ i, i < n → ∃ a, p i a) : ∃ L : List α, L.length = n ∧ ∀ i (hi : i < L.length), p i L[i] := by
  refine ⟨(List.range n).attach.map fun i => Classical.choose (h i.1 (List.mem_range.1 i.2)), by simp, fun i hi => ?_⟩
  have := Classical.choose_spec (h i (by simpa using hi))
  simpa using this
theorem denL_length (ρ : Env) : ∀ l : List SV, (denL ρ l).length = l.length
  | [] => rfl
  | a :: l => by simp [denL, denL_length ρ l]
theorem each_one {α β : Type} {F : α → β → Prop} {a : α} {as : List α} : ∀ {vs : List β}, Each F (a :: as) vs → ∃ v vs', vs = v :: vs' ∧ F a v ∧ Each F as vs'
  | [], h => h.elim
  | v :: vs, ⟨h1, h2⟩ => ⟨v, vs, rfl, h1, h2⟩
theorem each_nil {α β : Type} {F : α → β → Prop} : ∀ {vs : List β}, Each F [] vs → vs = []
  | [], _ => rfl
  | _ :: _, h => h.elim
theorem has_int {k : IntKind} {v : Value} (h : Leaf.has (.int k) v) : ∃ n, v = .int k n ∧ k.min ≤ n ∧ n ≤ k.max := h
theorem has_bool {v : Value} (h : Leaf.has .bool v) : ∃ b, v = .bool b := h
theorem each_append {α β : Type} {F : α → β → Prop} : ∀ {as bs : List α} {xs ys : List β}, Each F as xs → Each F bs ys → Each F (as ++ bs) (xs ++ ys)
  | [], _, [], _, _, h => h
  | _ :: _, _, _ :: _, _, ⟨h1, h2⟩, h => ⟨h1, each_append h2 h⟩

section
variable {H : Type} {enc : TypeId × Value → H} {P : Program} {w : World} {base : Nat} {spare : Nat → Bool} {held : Bool}

theorem leavesF_conf {g : TypeId → Option (List Leaf)} (hg : ∀ t ls (cs : List Value), g t = some ls → (∃ (fuel : Nat) (x : DataW H × List MemPlace), DataW.trod enc P w base spare held fuel t cs = some x) → Each Leaf.has ls cs) {cs : List Value} :
    ∀ (fs : List Field) (o : Nat) (ls : List Leaf), leavesF g P fs o = some ls → cs.length = o + ls.length →
      (∀ f ∈ fs, ∃ (fuel : Nat) (x : DataW H × List MemPlace), DataW.trod enc P w base spare held fuel f.type ((cs.drop f.offset).take (P.cellsOf f.type)) = some x) → Each Leaf.has ls (cs.drop o)
  | [], o, ls, h, hl, _ => by
    simp only [leavesF, Option.some.injEq] at h
    subst h
    rw [List.drop_of_length_le (by simp at hl; omega)]
    exact trivial
  | f :: fs, o, ls, h, hl, ht => by
    unfold leavesF at h
    split at h
    · rename_i l hl1
      split at h
      · rename_i hc
        simp only [Bool.and_eq_true, decide_eq_true_eq] at hc
        obtain ⟨h1, h2⟩ := hc
        simp only [Option.map_eq_some_iff] at h
        obtain ⟨l2, h3, rfl⟩ := h
        simp only [List.length_append] at hl
        have a1 := hg _ _ _ hl1 (ht f (by simp))
        have a2 := leavesF_conf hg fs (o + l.length) l2 h3 (by omega) fun f' hf' => ht f' (by simp [hf'])
        rw [h1, ← h2] at a1
        have e : cs.drop o = (cs.drop o).take l.length ++ cs.drop (o + l.length) := by
          rw [← List.drop_drop, List.take_append_drop]
        rw [e]
        exact each_append a1 a2
      · cases h
    · cases h

theorem leavesN_conf {l : List Leaf} {cs : List Value} : ∀ (n o : Nat), cs.length = (o + n) * l.length →
    (∀ i, i < o + n → Each Leaf.has l ((cs.drop (i * l.length)).take l.length)) → Each Leaf.has (leavesN n l) (cs.drop (o * l.length))
  | 0, o, hl, _ => by
    rw [List.drop_of_length_le (by rw [hl, Nat.add_zero]; exact Nat.le_refl _)]
    exact trivial
  | n + 1, o, hl, h => by
    have a1 := h o (by omega)
    have a2 := leavesN_conf (l := l) (cs := cs) n (o + 1) (by rw [hl]; congr 1; omega) fun i hi => h i (by omega)
    have e : cs.drop (o * l.length) = (cs.drop (o * l.length)).take l.length ++ cs.drop ((o + 1) * l.length) := by
      rw [Nat.add_mul, Nat.one_mul, ← List.drop_drop, List.take_append_drop]
    rw [e]
    exact each_append a1 a2
theorem leavesT_conf : ∀ (d : Nat) (t : TypeId) (ls : List Leaf) (cs : List Value), leavesT P d t = some ls → (∃ (fuel : Nat) (x : DataW H × List MemPlace), DataW.trod enc P w base spare held fuel t cs = some x) → Each Leaf.has ls cs
  | 0, _, _, _, h, _ => by cases h
  | d + 1, t, ls, cs, h, ⟨fuel, x, hx⟩ => by
    unfold leavesT at h
    split at h
    · rename_i hu
      simp only [Option.some.injEq] at h
      subst h
      obtain ⟨b, rfl, _⟩ := DataW.trod_bool hu hx
      exact ⟨⟨b, rfl⟩, trivial⟩
    · rename_i k hu
      simp only [Option.some.injEq] at h
      subst h
      obtain ⟨n, rfl, _, hw⟩ := DataW.trod_int hu hx
      simp only [Lit.wf, Bool.and_eq_true, decide_eq_true_eq] at hw
      exact ⟨⟨n, rfl, hw⟩, trivial⟩
    · rename_i fs hu
      split at h
      · rename_i l hl
        split at h
        · rename_i hlen
          simp only [decide_eq_true_eq] at hlen
          simp only [Option.some.injEq] at h
          subst h
          obtain ⟨xs, n, _, _, hcs, hxs, hf⟩ := DataW.trod_struct hu hx
          have := leavesF_conf (fun t ls cs => leavesT_conf d t ls cs) (cs := cs) fs.toList 0 l hl (by omega) fun f hfm => by
            obtain ⟨i, hi⟩ := List.getElem?_of_mem hfm
            have hi' : fs[i]? = some f := by simpa using hi
            have hlt : i < xs.length := by rw [hxs]; exact (Array.getElem?_eq_some_iff.1 hi').1
            have := hf i f hi'
            rw [List.getElem?_eq_getElem hlt] at this
            exact ⟨n, _, this⟩
          simpa using this
        · cases h
      · cases h
    · rename_i n e hu
      split at h
      · rename_i l hl
        split at h
        · rename_i hlen
          simp only [Bool.and_eq_true, decide_eq_true_eq] at hlen
          simp only [Option.some.injEq] at h
          subst h
          obtain ⟨xs, m, _, _, hcs, hxs, hf⟩ := DataW.trod_array hu hx
          have := leavesN_conf (l := l) (cs := cs) n 0 (by rw [hcs, Nat.zero_add]; exact hlen.2.symm) fun i hi => by
            have hi : i < n := by omega
            have := hf i hi
            rw [List.getElem?_eq_getElem (by omega)] at this
            rw [hlen.1]
            exact leavesT_conf d e l _ hl ⟨m, _, this⟩
          simpa using this
        · cases h
      · cases h
    · cases h

theorem vals_at {E : Enc} (h0 : 0 < E.n) {A : List E.α} {j : Nat} {u : Value} (h : (valsL E A)[j]? = some u) : ∃ (hi : j / E.n < A.length), (E.vals A[j / E.n])[j % E.n]? = some u := by
  have hj : j < A.length * E.n := by
    have := (List.getElem?_eq_some_iff.1 h).1
    rwa [valsL_len] at this
  have hi : j / E.n < A.length := by rw [Nat.div_lt_iff_lt_mul h0]; exact hj
  refine ⟨hi, ?_⟩
  have hr : j % E.n < (E.vals A[j / E.n]).length := by
    have : ∀ a, (E.vals a).length = E.n := fun a => by unfold Enc.vals; rw [denL_length]; exact E.len a
    rw [this]
    exact Nat.mod_lt _ h0
  have := valsL_get E A (j / E.n) hi (j % E.n) _ (List.getElem?_eq_getElem hr)
  rw [Nat.div_add_mod' j E.n] at this
  rw [List.getElem?_eq_getElem hr, ← this, h]

/-- a slice of flat elements is a row that is read -/
theorem open_row {E : Enc} {t e : TypeId} {ls : List Leaf} {d fuel : Nat} {cs : List Value} {x : DataW H × List MemPlace} (ht : P.underlying t = some (.slice e)) (hn : P.cellsOf e = E.n) (h0 : 0 < E.n)
    (hls : leavesT P d e = some ls) (hE : ∀ vs, Each Leaf.has ls vs → ∃ a, vs = E.vals a) (h : DataW.trod enc P w base (fun _ => true) held fuel t cs = some x) :
    ∃ (v : Value) (A : List E.α) (F : Nat → Prop), cs = [v] ∧ v.oneCell' = true ∧ roHolds E w v A F ∧ (A.length : Int) ≤ 9223372036854775807 ∧ ∀ a ∈ A, Each Leaf.has ls (E.vals a) := by
  rcases Go.Deep.open_slice ht h with ⟨hc, _⟩ | ⟨a, len, cap, m, n, D, Pl, hc, _, hlc, hcap, hm, _, hi⟩
  · exact ⟨_, [], fun _ => False, hc, rfl, .inl ⟨⟨none, rfl⟩, rfl, fun _ h => h⟩, by simp, by simp⟩
  · simp only [if_true] at hm
    subst hm
    rw [hn] at hi
    have hA : ∀ i, i < len → ∃ y : E.α, w.cells? base (a.add (i * E.n)) E.n = some (E.vals y) ∧ Each Leaf.has ls (E.vals y) := by
      intro i hi'
      obtain ⟨cs', h1, h2⟩ := hi i (by omega)
      have h3 := leavesT_conf d e ls cs' hls ⟨_, _, h2⟩
      obtain ⟨y, rfl⟩ := hE cs' h3
      exact ⟨y, h1, h3⟩
    have hl : (len : Int) ≤ 9223372036854775807 := by
      have : len ≤ maxLen := by omega
      simp only [maxLen] at this
      omega
    obtain ⟨As, hlen, hAt⟩ := choose_list hA
    have hmem : ∀ y ∈ As, Each Leaf.has ls (E.vals y) := by
      intro y hy
      obtain ⟨i, hi', rfl⟩ := List.getElem_of_mem hy
      exact (hAt i hi').2
    by_cases hz : m = 0
    · have : len = 0 := by omega
      subst this
      have : As = [] := List.eq_nil_of_length_eq_zero hlen
      subst this
      exact ⟨_, [], fun _ => False, hc, rfl, .inl ⟨⟨some a, by rw [hz]⟩, rfl, fun _ h => h⟩, by simp, by simp⟩
    · obtain ⟨cs', h1, _⟩ := hi 0 (by omega)
      obtain ⟨_, hl', hc'⟩ := World.cells?_some h1
      have hcell := hc' 0 h0
      simp only [Nat.zero_mul, Addr.add, if_true] at hcell
      rw [List.getElem?_eq_getElem (by omega)] at hcell
      have hsp := World.cell?_spot hcell
      have hb : a.block < w.heap.size := by
        unfold World.cell? at hcell
        split at hcell
        · rename_i hh; exact (Array.getElem?_eq_some_iff.1 hh).1
        · cases hcell
      refine ⟨_, As, fun x => x = a.block, hc, rfl, .inr ⟨a, m, by rw [hlen], by omega, hsp, hb, fun j u hj => ?_, fun _ => Iff.rfl⟩, by rw [hlen]; exact hl, hmem⟩
      obtain ⟨hi', hv⟩ := vals_at h0 hj
      obtain ⟨_, hl2, hc2⟩ := World.cells?_some (hAt _ hi').1
      have := hc2 (j % E.n) (Nat.mod_lt _ h0)
      rw [Go.Deep.add_add, Nat.div_add_mod' j E.n] at this
      rw [this]
      exact hv

/-- a slice of slices of flat elements -/
theorem open_rows {E : Enc} {t e q : TypeId} {ls : List Leaf} {d fuel : Nat} {v : Value} {x : DataW H × List MemPlace} (ht : P.underlying t = some (.slice e)) (hc : P.cellsOf e = 1) (he : P.underlying e = some (.slice q)) (hn : P.cellsOf q = E.n) (h0 : 0 < E.n)
    (hls : leavesT P d q = some ls) (hE : ∀ vs, Each Leaf.has ls vs → ∃ a, vs = E.vals a) {r : Reach} {b0 : Nat} (hok : Value.okWide P w r b0 t v) (h : DataW.trod enc P w base (fun _ => true) held fuel t v.cells.toList = some x) :
    ∃ (LL : List (List E.α)), v.oneCell' = true ∧ (∃ us, rowAt w v us ∧ us.length = LL.length ∧ (∀ (j : Nat) (u : Value) (L : List E.α), us[j]? = some u → LL[j]? = some L → ∃ F' : Nat → Prop, roHolds E w u L F' ∧ ∀ x, F' x → x < w.heap.size) ∧ (∀ x, v.ownBlock = some x → x < w.heap.size)) ∧
      ((LL.length : Int) ≤ 9223372036854775807 ∧ ∀ L ∈ LL, (L.length : Int) ≤ 9223372036854775807 ∧ ∀ a ∈ L, Each Leaf.has ls (E.vals a)) := by
  obtain ⟨oa, ol, oc, rfl⟩ := Go.WideShapes.okWide_slice ht hok
  have hcs : (Value.slice oa ol oc).cells.toList = [.slice oa ol oc] := rfl
  rw [hcs] at h
  rcases Go.Deep.open_slice1 ht hc h with ⟨hc1, _⟩ | ⟨a, len, cap, m, n, V, D, Pl, hc1, _, hlc, hcap, hm, _, hi⟩
  · simp only [List.cons.injEq, and_true] at hc1
    rw [hc1]
    exact ⟨[], rfl, ⟨[], .inl ⟨rfl, rfl⟩, rfl, by simp, by simp [Value.ownBlock]⟩, by simp, by simp⟩
  · simp only [List.cons.injEq, and_true] at hc1
    rw [hc1] at hok ⊢
    simp only [if_true] at hm
    subst hm
    have hhas : w.has P r b0 a e m := by
      unfold Value.okWide at hok
      rw [ht] at hok
      simp only at hok
      unfold Cell.okWide at hok
      rw [ht] at hok
      simp only at hok
      unfold Cell.ok at hok
      rw [ht] at hok
      exact hok.2.2
    obtain ⟨_, hsp, row, cells, hshape, _⟩ := hhas
    have hb : a.block < w.heap.size := by
      unfold World.shape? at hshape
      split at hshape
      · rename_i hh; exact (Array.getElem?_eq_some_iff.1 hh).1
      · cases hshape
    have hA : ∀ i, i < len → ∃ y : List E.α, w.cell? (a.add i) = some (V i) ∧ (∃ F', roHolds E w (V i) y F' ∧ ∀ x, F' x → x < w.heap.size) ∧ (y.length : Int) ≤ 9223372036854775807 ∧ ∀ a ∈ y, Each Leaf.has ls (E.vals a) := by
      intro i hi'
      obtain ⟨h1, h2⟩ := hi i (by omega)
      obtain ⟨v', A, F, h3, _, h4, h5, h6⟩ := open_row he hn h0 hls hE h2
      simp only [List.cons.injEq, and_true] at h3
      subst h3
      refine ⟨A, h1, ⟨F, h4, fun x hx => ?_⟩, h5, h6⟩
      rcases h4 with h4 | ⟨a', cap', g1, g2, g3, g4, g5, g6⟩
      · exact absurd hx (h4.2.2 x)
      · rw [(g6 x).1 hx]; exact g4
    have hl : (len : Int) ≤ 9223372036854775807 := by
      have : len ≤ maxLen := by omega
      simp only [maxLen] at this
      omega
    obtain ⟨LL, hlen, hLL⟩ := choose_list hA
    refine ⟨LL, rfl, ⟨(List.range len).map V, .inr ⟨a, m, by simp, by simpa using hlc, hsp, fun j u hj => ?_⟩, by simp [hlen], fun j u L hj hL => ?_, fun x hx => ?_⟩, by rw [hlen]; exact hl, fun L hL => ?_⟩
    · have hj' : j < len := by have := (List.getElem?_eq_some_iff.1 hj).1; simpa using this
      rw [(hi j (by omega)).1]
      simpa [hj'] using hj
    · have hj' : j < len := by have := (List.getElem?_eq_some_iff.1 hj).1; simpa using this
      have e1 : V j = u := by simpa [hj'] using hj
      obtain ⟨hj2, e2⟩ := List.getElem?_eq_some_iff.1 hL
      have := (hLL j hj2).2.1
      rw [← e1, ← e2]
      exact this
    · simp only [Value.ownBlock, Option.some.injEq] at hx
      rw [← hx]; exact hb
    · obtain ⟨j, hj, rfl⟩ := List.getElem_of_mem hL
      exact (hLL j hj).2.2
end

section
variable {T : Nat → Enc} {O : Nat → Type} (R : Objs O)
/-- the chunks of a law's arguments: all of them only read -/
theorem heapOk_args (W : World) (vs : List Value) (cs : List (Chunk T O)) (hone : ∀ v ∈ vs, v.oneCell' = true)
    (h : ∀ (k : Nat) (c : Chunk T O), cs[k]? = some c → c.owned = false ∧ ∃ F : Nat → Prop, ∀ ρ, c.holds R ρ W (vs.getD k (.bool true)) F) : ∃ Fs, HeapOk R (fun k => vs.getD k (.bool true)) (listG cs) Fs W := by
  have hget : ∀ k c, listG cs k = some c → cs[k]? = some c := fun k c hk => by simpa [listG] using hk
  classical
  refine ⟨fun k => if hk : ∃ c, cs[k]? = some c then Classical.choose (h k _ hk.choose_spec).2 else fun _ => False, ?_, ?_, ?_⟩
  · intro k
    by_cases hk : k < vs.length
    · simp only [List.getD_eq_getElem?_getD, List.getElem?_eq_getElem hk, Option.getD_some]
      exact hone _ (List.getElem_mem hk)
    · simp only [List.getD_eq_getElem?_getD, List.getElem?_eq_none (Nat.le_of_not_lt hk), Option.getD_none]
      rfl
  · intro k c hk
    have hc := hget k c hk
    have hex : ∃ c, cs[k]? = some c := ⟨c, hc⟩
    simp only [dif_pos hex]
    have e : hex.choose = c := Option.some.inj (hex.choose_spec.symm.trans hc)
    have key : ∀ (c' : Chunk T O) (hc' : cs[k]? = some c'), c' = c → c.holds R (fun k => vs.getD k (.bool true)) W (vs.getD k (.bool true)) (Classical.choose (h k c' hc').2) := by
      rintro c' hc' rfl
      exact Classical.choose_spec (h k c' hc').2 _
    exact key _ hex.choose_spec e
  · intro k k' c c' hk _ _ ho
    rw [(h k c (hget k c hk)).1] at ho
    cases ho
end
theorem trodAll_cons {H : Type} {enc : TypeId × Value → H} {P : Program} {W : World} {t : TypeId} {ts : List TypeId} {v : Value} {vs : List Value} {sp : Nat → Bool} {base : Nat} {held : Bool} : ∀ {ds : List (DataW H)} {ps : List MemPlace},
    DataW.TrodAll enc P W base sp held (t :: ts) (v :: vs) ds ps → ∃ d ds' p q, ds = d :: ds' ∧ DataW.Trod enc P W base sp held t v d p ∧ DataW.TrodAll enc P W base sp held ts vs ds' q
  | [], _, h => h.elim
  | d :: ds, _, ⟨p, q, h1, h2, _⟩ => ⟨d, ds, p, q, rfl, h1, h2⟩
theorem row_sized {E : Enc} {H : Type} {enc : TypeId × Value → H} {P : Program} {w : World} {base : Nat} {spare : Nat → Bool} {held : Bool} {t e : TypeId} {fuel : Nat} {v : Value} {A : List E.α} {F : Nat → Prop} {x : DataW H × List MemPlace} (ht : P.underlying t = some (.slice e)) (hro : roHolds E w v A F)
    (h : DataW.trod enc P w base spare held fuel t [v] = some x) : A = [] ∨ ∃ es sp, x.1 = DataW.slice es sp ∧ es.length = A.length := by
  rcases Go.Deep.open_slice ht h with ⟨hc, _⟩ | ⟨a, len, cap, m, n, D, Pl, hc, _, _, _, _, hx, _⟩
  · rcases hro with ⟨_, hn, _⟩ | ⟨a, cap, hv, _⟩
    · exact .inl hn
    · rw [hv] at hc; simp at hc
  · rcases hro with ⟨_, hn, _⟩ | ⟨a', cap', hv, _⟩
    · exact .inl hn
    · rw [hv] at hc
      simp only [List.cons.injEq, Value.slice.injEq, and_true] at hc
      refine .inr ⟨_, _, by rw [hx], ?_⟩
      simp [hc.2.1]
end Go.Sx
