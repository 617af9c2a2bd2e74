/-
  Part of a proof over the seat Ythihpebdcamilaa: printed by a small program or typed by hand.
-/
import Derived.Test.YthihpebdcamilaaCalS15
import Derived.KernelRfl
namespace Go.Proofs.Ythihpebdcamilaa
open Go.Sx Go.Proofs Classical
/-- the events that are put: of each task and kind the first one -/
def putsN (l : List Ev) : Nat → List Ev
  | 0 => []
  | i + 1 => bif (putsN l i).any (key (nearE (at' ez l (i : Int)))) then putsN l i else putsN l i ++ [nearE (at' ez l (i : Int))]
def all30 (l : List Ev) : List Ev := putsN l (min 30 l.length)
theorem putsN_near (l : List Ev) : ∀ i, ∀ e ∈ putsN l i, Near e
  | 0, e, h => by cases h
  | i + 1, e, h => by
    simp only [putsN] at h
    cases hq : (putsN l i).any (key (nearE (at' ez l (i : Int))))
    · rw [hq] at h
      simp only [cond_false] at h
      rcases List.mem_append.1 h with h | h
      · exact putsN_near l i e h
      · rw [List.mem_singleton] at h
        subst h
        exact nearE_near _
    · rw [hq] at h
      exact putsN_near l i e h
theorem putsN_len (l : List Ev) : ∀ i, (putsN l i).length ≤ i
  | 0 => Nat.le_refl _
  | i + 1 => by
    have := putsN_len l i
    simp only [putsN]
    cases (putsN l i).any (key (nearE (at' ez l (i : Int))))
    · simp only [cond_false, List.length_append, List.length_singleton]; omega
    · simp only [cond_true]; omega
structure SeenOk (l : List Ev) (i : Nat) (n : Int) (U : List Bool) : Prop where
  num : n = (putsN l i).length
  len : U.length = 32
  seen : ∀ e : Ev, Near e → at' false U (e.ID * 4 + e.Kind) = (putsN l i).any (key e)
theorem SeenOk.same {l : List Ev} {i : Nat} {n : Int} {U : List Bool} (h : SeenOk l i n U) (hq : at' false U ((nearE (at' ez l (i : Int))).ID * 4 + (nearE (at' ez l (i : Int))).Kind) = true) : SeenOk l (i + 1) n U := by
  rw [h.seen _ (nearE_near _)] at hq
  have e : putsN l (i + 1) = putsN l i := by simp only [putsN]; rw [hq]; rfl
  exact ⟨by rw [e]; exact h.num, h.len, fun a ha => by rw [e]; exact h.seen a ha⟩
theorem SeenOk.new {l : List Ev} {i : Nat} {n : Int} {U : List Bool} (h : SeenOk l i n U) (hq : at' false U ((nearE (at' ez l (i : Int))).ID * 4 + (nearE (at' ez l (i : Int))).Kind) = false) : SeenOk l (i + 1) (n + 1) (U.set ((nearE (at' ez l (i : Int))).ID * 4 + (nearE (at' ez l (i : Int))).Kind).toNat true) := by
  have hn := nearE_near (at' ez l (i : Int))
  rw [h.seen _ hn] at hq
  have e : putsN l (i + 1) = putsN l i ++ [nearE (at' ez l (i : Int))] := by simp only [putsN]; rw [hq]; rfl
  refine ⟨by rw [e, h.num, List.length_append, List.length_singleton]; rfl, by rw [List.length_set]; exact h.len, fun a ha => ?_⟩
  rw [e, List.any_append]
  have hs := h.seen a ha
  generalize nearE (at' ez l (i : Int)) = b at hn
  have hl := h.len
  unfold Near at ha hn
  obtain ⟨x, hx⟩ := Int.eq_ofNat_of_zero_le (show 0 ≤ a.ID * 4 + a.Kind by omega)
  obtain ⟨y, hy⟩ := Int.eq_ofNat_of_zero_le (show 0 ≤ b.ID * 4 + b.Kind by omega)
  rw [hx] at hs
  rw [hx, hy, Int.toNat_natCast]
  have hg : at' false (U.set y true) (x : Int) = if x = y then true else at' false U (x : Int) := by
    unfold at'
    rw [Int.toNat_natCast, List.getD_eq_getElem?_getD, List.getD_eq_getElem?_getD, List.getElem?_set]
    by_cases e : y = x
    · subst e; rw [if_pos rfl, if_pos rfl, if_pos (by omega)]; rfl
    · rw [if_neg e, if_neg (show ¬ x = y from fun h => e h.symm)]
  rw [hg, hs]
  by_cases hk : key a b = true
  · have := (key_iff a b).1 hk
    rw [if_pos (by omega)]
    simp [hk]
  · have hk2 : key a b = false := by simpa using hk
    rw [if_neg fun e => hk ((key_iff a b).2 (by omega))]
    simp [hk2]
theorem SeenOk.start (l : List Ev) : SeenOk l 0 0 (List.replicate 32 false) := by
  refine ⟨rfl, List.length_replicate, fun e _ => ?_⟩
  show (List.replicate 32 false).getD _ false = false
  rw [List.getD_eq_getElem?_getD, List.getElem?_replicate]
  split <;> rfl
structure NextOk (l : List Ev) (k : Nat) (s : HS) : Prop where
  ex : ∃ P, PutOk 30 P s ∧ k + P.length = (all30 l).length
theorem all30_len (l : List Ev) : (all30 l).length ≤ 30 := by
  have := putsN_len l (min 30 l.length)
  unfold all30
  omega
/-- one more is put, or there is one -/
theorem puts_step {l : List Ev} {i : Nat} {s : HS} (h : PutOk i (putsN l i) s) :
    (thereB (calendarNumber (nearE (at' ez l (i : Int))).ID (nearE (at' ez l (i : Int))).Kind) s.2 = false → PutOk (i + 1) (putsN l (i + 1)) (pushH s (calendarNumber (nearE (at' ez l (i : Int))).ID (nearE (at' ez l (i : Int))).Kind) (nearE (at' ez l (i : Int))))) ∧
    (thereB (calendarNumber (nearE (at' ez l (i : Int))).ID (nearE (at' ez l (i : Int))).Kind) s.2 = true → PutOk (i + 1) (putsN l (i + 1)) s) := by
  have hn := nearE_near (at' ez l (i : Int))
  have ht := h.there hn
  constructor
  · intro hf
    have hq : (putsN l i).any (key (nearE (at' ez l (i : Int)))) = false := by
      cases hq : (putsN l i).any (key (nearE (at' ez l (i : Int))))
      · rfl
      · obtain ⟨p, hp, hk⟩ := List.any_eq_true.1 hq
        have := ht.2 ⟨p, hp, hk⟩
        rw [hf] at this
        cases this
    have e : putsN l (i + 1) = putsN l i ++ [nearE (at' ez l (i : Int))] := by simp only [putsN]; rw [hq]; rfl
    rw [e]
    exact h.add hn hf
  · intro hf
    obtain ⟨p, hp, hk⟩ := ht.1 hf
    have hq : (putsN l i).any (key (nearE (at' ez l (i : Int)))) = true := List.any_eq_true.2 ⟨p, hp, hk⟩
    have e : putsN l (i + 1) = putsN l i := by simp only [putsN]; rw [hq]; rfl
    rw [e]
    exact h.skip
theorem PutOk.first {i : Nat} {P : List Ev} {s : HS} (h : PutOk i P s) (hl : 0 < s.1.length) :
    ∃ (w : Nat) (p : Ev) (P' : List Ev), Near p ∧ at' tz s.1 (0 : Int) = tE p ∧ thereB (calendarNumber p.ID p.Kind) s.2 = true ∧ whereI (calendarNumber p.ID p.Kind) s.2 = (w : Int) ∧ w < s.1.length ∧ at' tz s.1 (w : Int) = tE p ∧ PutOk i P' (takeH s w) ∧ P.length = P'.length + 1 := by
  obtain ⟨p, hp, e1⟩ := List.mem_map.1 (h.ok.min hl).1
  have hn := h.near p hp
  have ht : thereB (calendarNumber p.ID p.Kind) s.2 = true := (h.there hn).2 ⟨p, hp, (key_iff p p).2 ⟨rfl, rfl⟩⟩
  obtain ⟨w, q, P', k1, k2, k3, k4, k5, k6, _⟩ := h.out hn ht
  have hq : q ∈ P := k5.mem_iff.2 (by simp)
  have : q = p := by
    have i1 := (key_id hn (h.near q hq)).2 k4
    have := h.ok.one (List.mem_map_of_mem hq) (List.mem_map_of_mem hp) (i1.trans rfl)
    have := congrArg Thing.X this
    exact this
  subst this
  exact ⟨w, q, P', hn, e1.symm, ht, k1, k2, k3, k6, by rw [k5.length_eq]; rfl⟩

/-! ### regatta/regattalaw08.len2 -/
def len2Text (l : List Ev) : Prop := ((∃ x : Nat × Int × List Bool, (((x.fst ≤ l.length) ∧ ((x.fst ≤ (30 : Nat)) ∧ (SeenOk l x.fst x.snd.fst x.snd.snd))) ∧ ((True ∧ (True ∧ ((x.snd.fst = (0 : Int)) ∧ (((↑x.fst : Int) = (0 : Int)) ∧ True)))) ∧ ((l = l) ∧ ((x.snd.snd = [false, false, false, false, false, false, false, false, false, false, false, false, false, false, false, false, false, false, false, false, false, false, false, false, false, false, false, false, false, false, false, false]) ∧ True))))) ∧ (∀ x : Nat × Int × List Bool, (((x.fst ≤ l.length) ∧ ((x.fst ≤ (30 : Nat)) ∧ (SeenOk l x.fst x.snd.fst x.snd.snd))) → (match (decide ((↑x.fst : Int) < (↑l.length : Int))) with | true => (match (decide ((↑x.fst : Int) < (30 : Int))) with | true => (match (inb (↑x.fst : Int) l.length) with | true => (match (inb (↑x.fst : Int) l.length) with | true => (match (inb (law08OpEventC1 (Op.mk (0 : Int) true (at' evE.zero l (↑x.fst : Int)).At (at' evE.zero l (↑x.fst : Int)).ID (at' evE.zero l (↑x.fst : Int)).Kind)) (8 : Nat)) with | true => (match (decide ((0 : Int) ≤ law08OpEventC1 (Op.mk (0 : Int) true (at' evE.zero l (↑x.fst : Int)).At (at' evE.zero l (↑x.fst : Int)).ID (at' evE.zero l (↑x.fst : Int)).Kind) * (↑(X15.P.types[(64 : Nat)].size / (T (1 : Nat)).n) : Int))) with | true => (match (inb (law08OpEventC2 (Op.mk (0 : Int) true (at' evE.zero l (↑x.fst : Int)).At (at' evE.zero l (↑x.fst : Int)).ID (at' evE.zero l (↑x.fst : Int)).Kind)) (4 : Nat)) with | true => (match (inb (law08OpEventC1 (Op.mk (0 : Int) true (at' evE.zero l (↑x.fst : Int)).At (at' evE.zero l (↑x.fst : Int)).ID (at' evE.zero l (↑x.fst : Int)).Kind) * (↑(X15.P.types[(64 : Nat)].size / (T (1 : Nat)).n) : Int) + law08OpEventC2 (Op.mk (0 : Int) true (at' evE.zero l (↑x.fst : Int)).At (at' evE.zero l (↑x.fst : Int)).ID (at' evE.zero l (↑x.fst : Int)).Kind)) x.snd.snd.length) with | true => (match (!at' false x.snd.snd (law08OpEventC1 (Op.mk (0 : Int) true (at' evE.zero l (↑x.fst : Int)).At (at' evE.zero l (↑x.fst : Int)).ID (at' evE.zero l (↑x.fst : Int)).Kind) * (↑(X15.P.types[(64 : Nat)].size / (T (1 : Nat)).n) : Int) + law08OpEventC2 (Op.mk (0 : Int) true (at' evE.zero l (↑x.fst : Int)).At (at' evE.zero l (↑x.fst : Int)).ID (at' evE.zero l (↑x.fst : Int)).Kind))) with | true => (match (inb (law08OpEventC1 (Op.mk (0 : Int) true (at' evE.zero l (↑x.fst : Int)).At (at' evE.zero l (↑x.fst : Int)).ID (at' evE.zero l (↑x.fst : Int)).Kind)) (8 : Nat)) with | true => (match (decide ((0 : Int) ≤ law08OpEventC1 (Op.mk (0 : Int) true (at' evE.zero l (↑x.fst : Int)).At (at' evE.zero l (↑x.fst : Int)).ID (at' evE.zero l (↑x.fst : Int)).Kind) * (↑(X15.P.types[(64 : Nat)].size / (T (1 : Nat)).n) : Int))) with | true => (match (inb (law08OpEventC2 (Op.mk (0 : Int) true (at' evE.zero l (↑x.fst : Int)).At (at' evE.zero l (↑x.fst : Int)).ID (at' evE.zero l (↑x.fst : Int)).Kind)) (4 : Nat)) with | true => (match (inb (law08OpEventC1 (Op.mk (0 : Int) true (at' evE.zero l (↑x.fst : Int)).At (at' evE.zero l (↑x.fst : Int)).ID (at' evE.zero l (↑x.fst : Int)).Kind) * (↑(X15.P.types[(64 : Nat)].size / (T (1 : Nat)).n) : Int) + law08OpEventC2 (Op.mk (0 : Int) true (at' evE.zero l (↑x.fst : Int)).At (at' evE.zero l (↑x.fst : Int)).ID (at' evE.zero l (↑x.fst : Int)).Kind)) x.snd.snd.length) with | true => (∃ x' : Nat × Int × List Bool, (((x'.fst ≤ l.length) ∧ ((x'.fst ≤ (30 : Nat)) ∧ (SeenOk l x'.fst x'.snd.fst x'.snd.snd))) ∧ (((30 : Nat) - x'.fst < (30 : Nat) - x.fst) ∧ ((True ∧ (True ∧ ((x'.snd.fst = IntKind.i64.wrap (x.snd.fst + (1 : Int))) ∧ (((↑x'.fst : Int) = IntKind.i64.wrap ((↑x.fst : Int) + (1 : Int))) ∧ True)))) ∧ ((l = l) ∧ ((x'.snd.snd = x.snd.snd.set (law08OpEventC1 (Op.mk (0 : Int) true (at' evE.zero l (↑x.fst : Int)).At (at' evE.zero l (↑x.fst : Int)).ID (at' evE.zero l (↑x.fst : Int)).Kind) * (↑(X15.P.types[(64 : Nat)].size / (T (1 : Nat)).n) : Int) + law08OpEventC2 (Op.mk (0 : Int) true (at' evE.zero l (↑x.fst : Int)).At (at' evE.zero l (↑x.fst : Int)).ID (at' evE.zero l (↑x.fst : Int)).Kind)).toNat true) ∧ True)))))) | false => False) | false => False) | false => False) | false => False) | false => (∃ x' : Nat × Int × List Bool, (((x'.fst ≤ l.length) ∧ ((x'.fst ≤ (30 : Nat)) ∧ (SeenOk l x'.fst x'.snd.fst x'.snd.snd))) ∧ (((30 : Nat) - x'.fst < (30 : Nat) - x.fst) ∧ ((True ∧ (True ∧ ((x'.snd.fst = x.snd.fst) ∧ (((↑x'.fst : Int) = IntKind.i64.wrap ((↑x.fst : Int) + (1 : Int))) ∧ True)))) ∧ ((l = l) ∧ ((x'.snd.snd = x.snd.snd) ∧ True))))))) | false => False) | false => False) | false => False) | false => False) | false => False) | false => False) | false => ((((↑(all30 l).length : Int) = x.snd.fst) ∧ True) ∧ ((l = l) ∧ True))) | false => ((((↑(all30 l).length : Int) = x.snd.fst) ∧ True) ∧ ((l = l) ∧ True))))))
theorem len2Vc (l : List Ev) : fnX X15 (annOf [(4, { σ := Nat × Int × List Bool, st := fun S x => (((S.keep [0, 3]).int 5 x.1).int 4 x.2.1).at' 3 (.arr 1 x.2.2 65), inv := fun _ x => x.1 ≤ l.length ∧ x.1 ≤ 30 ∧ SeenOk l x.1 x.2.1 x.2.2, m := fun x => 30 - x.1 })] []) Try.f22 [.own 0] [.ro 3 l] (ends [.ro 3 l] ⟨some (.raw (.int .i64 (all30 l).length)), []⟩) = len2Text l := by kernel_rfl
theorem len2Holds (l : List Ev) : len2Text l := by
  unfold len2Text
  have h4 : ((X15.P.types[(64 : Nat)].size / (T (1 : Nat)).n : Nat) : Int) = 4 := by kernel_rfl
  rw [h4]
  refine ⟨⟨(0, 0, List.replicate 32 false), ⟨Nat.zero_le _, Nat.zero_le _, SeenOk.start l⟩, by repeat' first | trivial | rfl | apply And.intro⟩, ?_⟩
  rintro ⟨i, n, U⟩ ⟨h1, h2, h3⟩
  dsimp only at h1 h2 h3 ⊢
  have hnum := h3.num
  have hpl := putsN_len l i
  by_cases c1 : i < l.length
  · rw [dec_lt c1]
    by_cases c2 : i < 30
    · have hw : ((i + 1 : Nat) : Int) = IntKind.i64.wrap ((i : Int) + (1 : Int)) := by rw [wrap_id (by omega) (by omega)]; rfl
      have hw2 : n + 1 = IntKind.i64.wrap (n + (1 : Int)) := by rw [wrap_id (by omega) (by omega)]
      rw [show decide ((i : Int) < 30) = true from decide_eq_true (by omega), inb_nat c1, evC1, evC2]
      have hn := nearE_near (at' ez l (i : Int))
      have hsame := h3.same
      have hnew := h3.new
      rw [show (at' evE.zero l (i : Int)).ID % 8 = (nearE (at' ez l (i : Int))).ID from rfl, show (at' evE.zero l (i : Int)).Kind % 4 = (nearE (at' ez l (i : Int))).Kind from rfl]
      have hU := h3.len
      generalize nearE (at' ez l (i : Int)) = e at hn hsame hnew ⊢
      have hn' := hn
      unfold Near at hn'
      rw [show inb e.ID 8 = true from inb_iff.2 ⟨by omega, by omega⟩, show inb e.Kind 4 = true from inb_iff.2 ⟨by omega, by omega⟩, show decide (0 ≤ e.ID * 4) = true from decide_eq_true (by omega), show inb (e.ID * 4 + e.Kind) U.length = true from inb_iff.2 ⟨by omega, by omega⟩]
      cases hq : at' false U (e.ID * 4 + e.Kind)
      · refine ⟨(i + 1, n + 1, U.set (e.ID * 4 + e.Kind).toNat true), ⟨by dsimp only; omega, by dsimp only; omega, hnew hq⟩, by dsimp only; omega, ?_⟩
        repeat' first | exact hw | exact hw2 | trivial | rfl | apply And.intro
      · refine ⟨(i + 1, n, U), ⟨by dsimp only; omega, by dsimp only; omega, hsame hq⟩, by dsimp only; omega, ?_⟩
        repeat' first | exact hw | trivial | rfl | apply And.intro
    · rw [show decide ((i : Int) < 30) = false from decide_eq_false (by omega)]
      have e : ((all30 l).length : Int) = n := by
        unfold all30
        rw [show min 30 l.length = i by omega, hnum]
      repeat' first | exact e | trivial | rfl | apply And.intro
  · rw [dec_ge (by omega)]
    have e : ((all30 l).length : Int) = n := by
      unfold all30
      rw [show min 30 l.length = i by omega, hnum]
    repeat' first | exact e | trivial | rfl | apply And.intro
noncomputable def len2Con : Con T O := fun args cs => match args, cs with
  | [.own 0], [.ro 3 l] => .ret ⟨some (.raw (.int .i64 (all30 l).length)), []⟩
  | _, _ => .fail
theorem len2Ok : ConOk R Try.prog 22 len2Con := con_of_fn R (X15) (TabOk.con R X15Ok) mixed Try.call22 Try.func22 len2Con (by
  intro args cs K h
  unfold len2Con at h
  split at h
  · rename_i l
    refine ⟨annOf [(4, { σ := Nat × Int × List Bool, st := fun S x => (((S.keep [0, 3]).int 5 x.1).int 4 x.2.1).at' 3 (.arr 1 x.2.2 65), inv := fun _ x => x.1 ≤ l.length ∧ x.1 ≤ 30 ∧ SeenOk l x.1 x.2.1 x.2.2, m := fun x => 30 - x.1 })] [], _, fun v S hv => ⟨_, h, hv⟩, ?_⟩
    rw [len2Vc l]
    exact len2Holds l
  · exact h.elim)
noncomputable def tab16 : Tab T O := (22, len2Con) :: tab15
theorem tabOk16 : TabOk R Try.prog tab16 := TabOk.cons R len2Ok <| tabOk15
noncomputable def X16 : Ctx T O := { X0 with con := conOf tab16 }
theorem X16Ok : TabOk R X16.P tab16 := tabOk16
end Go.Proofs.Ythihpebdcamilaa
