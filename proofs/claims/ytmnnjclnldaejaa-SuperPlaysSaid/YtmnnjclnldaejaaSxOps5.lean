/-
  Part of a proof over the seat Ytmnnjclnldaejaa: printed by a small program or typed by hand.
-/
import Derived.Test.YtmnnjclnldaejaaSxOps4
import Derived.Laws.MakeOwn
/-
  Sx: rows that grow, rows that are built; an array's element.
-/
namespace Go.Sx
section
variable {T : Nat → Enc} {O : Nat → Type} (R : Objs O)
section
variable {ρ : Env} {H : Nat → Option (Chunk T O)} {Fs : Nat → Nat → Prop} {w w' : World} {fresh : Nat} {K : Eff T O → Prop} (X : Ctx T O)

theorem zeroOk_elim {e : Nat} {i : TypeInfo} (h : zeroOk (T := T) e i = true) : ∃ z, i.zero = some z ∧ z.cells.size = (T e).n ∧ i.size = (T e).n ∧ 0 < (T e).n ∧ 0 < i.bytes := by
  unfold zeroOk at h
  split at h
  · rename_i z hz
    simp only [Bool.and_eq_true, decide_eq_true_eq] at h
    exact ⟨z, hz, h.1.1.1, h.1.1.2, h.1.2, h.2⟩
  · cases h

theorem maxLen_of_roomy {n b : Nat} (hb : 0 < b) (h : n * b ≤ 140737488355328) : n ≤ maxLen := by
  have : n * 1 ≤ n * b := Nat.mul_le_mul_left _ hb
  simp only [maxLen]
  omega

/-- where the cells lie that are added -/
theorem anyL_src {e : Nat} {x : SV} {L : List (T e).α} (h : anyL e x (headC H x) = some L) (hp : HeapOk R ρ H Fs w) :
    ((∃ o, x.den ρ = .slice o 0 0) ∧ L = []) ∨ ∃ a cap, x.den ρ = .slice (some a) L.length cap ∧ ∀ j u, (valsL (T e) L)[j]? = some u → w.cell? (a.add j) = some u := by
  unfold anyL at h
  split at h
  · simp only [Option.some.injEq] at h
    subst h
    exact .inl ⟨⟨_, rfl⟩, rfl⟩
  · rename_i k e' L' el' hk
    simp only [headC, SV.head] at hk
    obtain ⟨hown, hF⟩ := hp.holds k _ hk
    split at h
    · rename_i he _
      subst he
      simp only [castE, Option.some.injEq] at h
      subst h
      rcases vec_ro hown hF with ⟨hv, hn, _⟩ | ⟨a, cap, hv, _, _, _, hcell, _⟩
      · exact .inl ⟨hv, hn⟩
      · exact .inr ⟨a, cap, hv, hcell⟩
    · cases h
  · rename_i k e' L' hk
    simp only [headC, SV.head] at hk
    have hro := hp.holds k _ hk
    split at h
    · rename_i he _
      subst he
      simp only [castE, Option.some.injEq] at h
      subst h
      rcases hro with ⟨hv, hn, _⟩ | ⟨a, cap, hv, _, _, _, hcell, _⟩
      · exact .inl ⟨hv, hn⟩
      · exact .inr ⟨a, cap, hv, hcell⟩
    · cases h
  · cases h

theorem append_ok {t ty : TypeId} {s x : SV} (h : (appendT X fresh t s x (headC H s) (headC H x) : Tree (Eff T O)).holds K) (hp : HeapOk R ρ H Fs w) (hf : Free H fresh) :
    ∃ v w', (Builtin.append_ #[t, t] ty #[s.den ρ, x.den ρ]).run X.P w = .ok v w' ∧ OpOk R ρ H Fs w fresh K v w' := by
  have f0 : H fresh = none ∧ ∀ k c, H k = some c → k ≠ fresh ∧ ∀ id ∈ c.ids, id ≠ fresh := by simpa using hf.at (i := 0) (by unfold stride; omega)
  unfold appendT at h
  split at h
  · rename_i el hu
    split at h
    · rename_i e i he hi
      split at h
      · rename_i hz
        simp only [Bool.and_eq_true] at hz
        obtain ⟨z, hz1, hz2, hz3, hz4, hz5⟩ := zeroOk_elim hz.1
        split at h
        · rename_i L up L' hL hL'
          rw [Tree.holds_chk] at h
          obtain ⟨hroom, h⟩ := h
          simp only [roomy, decide_eq_true_eq] at hroom
          have hsrc : (x.den ρ = .slice none 0 0 ∧ L' = []) ∨ ∃ a cap, x.den ρ = .slice (some a) L'.length cap ∧ ∀ j u, (valsL (T e) L')[j]? = some u → w.cell? (a.add j) = some u := by
            rcases anyL_src R hL' hp with ⟨⟨o, hv⟩, hn⟩ | h
            · cases o with
              | none => exact .inl ⟨hv, hn⟩
              | some a => exact .inr ⟨a, 0, by rw [hv, hn]; rfl, fun j u hj => by rw [hn] at hj; simp [valsL] at hj⟩
            · exact .inr h
          -- the row itself
          have hbase : ∃ F : Nat → Prop, w.ownsRow 0 el (T e).n (s.den ρ) L.length (valsL (T e) L) ∧ (∀ x, F x ↔ (s.den ρ).ownBlock = some x) ∧
              ((up = [] ∧ ∀ x, ¬ F x) ∨ ∃ k c, up = [(k, none)] ∧ H k = some c ∧ c.owned = true ∧ ∀ x, F x ↔ Fs k x) := by
            unfold ownL at hL
            split at hL
            · simp only [Option.some.injEq, Prod.mk.injEq] at hL
              obtain ⟨rfl, rfl⟩ := hL
              exact ⟨fun _ => False, World.ownsRow_nil w 0 el (T e).n, fun x => by simp [SV.den, Value.ownBlock], .inl ⟨rfl, fun _ h => h⟩⟩
            · rename_i k e' L1 el' hk
              simp only [headC, SV.head] at hk
              obtain ⟨hown, hF⟩ := hp.holds k _ hk
              split at hL
              · rename_i heq _ hel
                subst heq
                simp only [beq_iff_eq] at hel
                subst hel
                simp only [castE, Option.some.injEq, Prod.mk.injEq] at hL
                obtain ⟨rfl, rfl⟩ := hL
                exact ⟨Fs k, hown, hF, .inr ⟨k, _, rfl, hk, rfl, fun _ => Iff.rfl⟩⟩
              · cases hL
            · cases hL
          obtain ⟨F, hown, hF, hup⟩ := hbase
          have hlen : (valsL (T e) L').length = L'.length * (T e).n := valsL_len _ _
          have h63 := maxLen_of_roomy hz5 hroom
          have key : ∃ v' w', (Builtin.append_ #[t, t] ty #[s.den ρ, x.den ρ]).run X.P w = .ok v' w' ∧ w'.ownsRow 0 el (T e).n v' (L ++ L').length (valsL (T e) (L ++ L')) ∧ w.grownBy w' (s.den ρ).ownBlock ∧ (v'.ownBlock = (s.den ρ).ownBlock ∨ v'.ownBlock = some w.heap.size) := by
            have hvl : valsL (T e) (L ++ L') = valsL (T e) L ++ valsL (T e) L' := by unfold valsL; rw [List.flatMap_append]
            rcases hsrc with ⟨hv, rfl⟩ | ⟨a, cap, hv, hcell⟩
            · rw [hv]
              have := run_append_owned_none (P := X.P) w 0 t ty el i (T e).n hu hi (s.den ρ) L.length (valsL (T e) L) hown
              exact ⟨_, _, this, by simpa using hown, ⟨rfl, rfl, rfl, Nat.le_refl _, fun _ _ _ => rfl⟩, .inl rfl⟩
            · rw [hv]
              obtain ⟨v', w', h1, h2, h3, _, h5⟩ := run_append_own_at (P := X.P) w 0 t ty el i z (T e).n i.bytes hu hi hz1 hz3 rfl hz2 hz4 (s.den ρ) L.length (valsL (T e) L) hown a L'.length cap (valsL (T e) L') hlen hcell (valsL_cell (T e) L') h63 hroom (Nat.zero_le _)
              exact ⟨v', w', h1, by rw [hvl, List.length_append]; exact h2, h3, h5⟩
          obtain ⟨v', w', hrun, hown', hgr, hat⟩ := key
          have hone : v'.oneCell' = true := by
            rcases hown'.2 with ⟨hv, _⟩ | ⟨g, cap, cur, hv, _⟩ <;> rw [hv] <;> rfl
          have hval : ∀ sv, some (SV.own fresh) = some sv → v' = sv.den (setF ρ fresh v') := by
            intro sv hs
            simp only [Option.some.injEq] at hs
            subst hs
            simp [SV.den, setF_same]
          refine ⟨v', w', hrun, ?_⟩
          rcases hup with ⟨rfl, hno⟩ | ⟨k, c, rfl, hk, ho, hFk⟩
          · refine ⟨_, _, _, h, EffOk.alloc R hp f0.1 f0.2 ⟨hgr.os, hgr.tape, hgr.output, hgr.size, fun b hb _ => hgr.block b hb (fun e => hno b ((hF b).2 e.symm))⟩ (.vec e (L ++ L') el) v' v' (fun x => v'.ownBlock = some x) _ hone ⟨hown', fun _ => Iff.rfl⟩ ?_ hval⟩
            intro x hx
            rcases hat with h1 | h1
            · rw [h1] at hx; exact absurd ((hF x).2 hx) (hno x)
            · rw [h1] at hx; simp at hx; omega
          · refine ⟨_, _, _, h, EffOk.moved R hp hf hk ho ⟨hgr.os, hgr.tape, hgr.output, hgr.size, fun b hb hn => hgr.block b hb (fun e => hn ((hFk b).1 ((hF b).2 e.symm)))⟩ (.vec e (L ++ L') el) v' v' (fun x => v'.ownBlock = some x) _ hone ⟨hown', fun _ => Iff.rfl⟩ ?_ hval⟩
            intro x hx
            rcases hat with h1 | h1
            · rw [h1] at hx; exact .inr ((hFk x).1 ((hF x).2 hx))
            · rw [h1] at hx; simp at hx; exact .inl (by omega)
        · exact h.elim
      · exact h.elim
    · exact h.elim
  · exact h.elim

/-! ### rows that are built -/
theorem fill_row (hone : ∀ k, (ρ k).oneCell' = true) {e : Nat} : ∀ (parts : List (Nat × Option SV)) (vals : List (Nat × Value)) (i : Nat) (L : List (T e).α) (pre suf : List Value),
    PartsOk ρ parts vals → decParts e i parts = some L → pre.length = i * (T e).n → suf.length = parts.length * (T e).n →
    Instr.fill (fun i => some (i * (T e).n, (T e).n)) (pre ++ suf).toArray vals = some (pre ++ valsL (T e) L).toArray ∧ L.length = parts.length
  | [], vals, i, L, pre, suf, hv, h, hp, hs => by
    cases vals with
    | nil =>
      simp only [decParts, Option.some.injEq] at h
      subst h
      have : suf = [] := List.eq_nil_of_length_eq_zero (by simpa using hs)
      subst this
      exact ⟨rfl, rfl⟩
    | cons p l => exact hv.elim
  | (j, none) :: parts, vals, i, L, pre, suf, hv, h, hp, hs => by simp [decParts] at h
  | (j, some v) :: parts, vals, i, L, pre, suf, hv, h, hp, hs => by
    cases vals with
    | nil => exact hv.elim
    | cons p l =>
      obtain ⟨j', v'⟩ := p
      obtain ⟨rfl, h1, hv⟩ := hv
      obtain rfl := h1 v rfl
      unfold decParts at h
      split at h
      · rename_i hb
        simp only [Bool.and_eq_true, decide_eq_true_eq] at hb
        obtain ⟨rfl, hc⟩ := hb
        split at h
        · rename_i a L1 ha hL
          simp only [Option.some.injEq] at h
          subst h
          have hcells := cells_den hone hc
          have hav : denL ρ v.cells = (T e).vals a := by rw [← (T e).back _ _ ha, enc_den]
          have hvn : (denL ρ v.cells).length = (T e).n := by rw [hav, vals_len]
          simp only [List.length_cons, Nat.add_mul, Nat.one_mul] at hs
          have hsz : (SV.den ρ v).cells.size = (T e).n := by rw [hcells]; simpa using hvn
          have hfold : ((SV.den ρ v).cells.zipIdx.foldl (fun cs (p : Value × Nat) => cs.setIfInBounds (j * (T e).n + p.2) p.1) (pre ++ suf).toArray) = ((pre ++ (T e).vals a) ++ suf.drop (T e).n).toArray := by
            rw [hcells, ← Array.foldl_toList, Array.toList_zipIdx]
            have := foldl_set (denL ρ v.cells) (pre ++ suf).toArray (j * (T e).n) 0 (by simp [hvn, hp]; omega)
            simp only [Nat.add_zero] at this
            rw [this, hav]
            have e1 : (pre ++ suf).take (j * (T e).n) = pre := by rw [List.take_append_of_le_length (by omega), List.take_of_length_le (by omega)]
            have e2 : (pre ++ suf).drop (j * (T e).n + (T e).n) = suf.drop (T e).n := by
              rw [List.drop_append, List.drop_of_length_le (by omega), List.nil_append, hp]
              congr 1; omega
            simp only [vals_len, e1, e2]
          obtain ⟨i1, i2⟩ := fill_row hone parts l (j + 1) L1 (pre ++ (T e).vals a) (suf.drop (T e).n) hv hL (by simp [vals_len, hp, Nat.add_mul]) (by simp; omega)
          refine ⟨?_, by simp [i2]⟩
          unfold Instr.fill
          simp only
          rw [if_neg (by rw [hsz]; simp [hp]; omega)]
          have h3 := hfold ▸ i1
          refine h3.trans ?_
          rw [valsL_cons, List.append_assoc]
        · cases h
      · cases h

theorem buildSlice_ok {t : TypeId} {n : Nat} {parts : List (Nat × Option SV)} {vals : Array (Nat × Value)} (hv' : PartsOk ρ parts vals.toList)
    (h : (buildSliceT X fresh t n parts : Tree (Eff T O)).holds K) (hp : HeapOk R ρ H Fs w) (hf : Free H fresh) :
    ∃ v w', (Instr.buildSlice t n vals).run X.P w = .ok v w' ∧ OpOk R ρ H Fs w fresh K v w' := by
  have f0 : H fresh = none ∧ ∀ k c, H k = some c → k ≠ fresh ∧ ∀ id ∈ c.ids, id ≠ fresh := by simpa using hf.at (i := 0) (by unfold stride; omega)
  unfold buildSliceT at h
  split at h
  · rename_i el hu
    split at h
    · rename_i e i he hi
      split at h
      · rename_i hz
        simp only [Bool.and_eq_true, decide_eq_true_eq] at hz
        obtain ⟨⟨hz, hlen⟩, hbig⟩ := hz
        obtain ⟨z, hz1, hz2, hz3, hz4, hz5⟩ := zeroOk_elim hz
        split at h
        · rename_i L hL
          let zs : Array Value := if n * (T e).n = 0 then #[] else z.cells
          obtain ⟨hfill, hLn⟩ := fill_row hp.one parts vals.toList 0 L [] ((Array.range (n * (T e).n)).map (zs[· % zs.size]!)).toList hv' hL (by simp) (by simp [hlen])
          have hrun : (Instr.buildSlice t n vals).run X.P w = .ok (.slice (some ⟨w.heap.size, 0, none⟩) n n) (w.alloc (.cells (valsL (T e) L).toArray el)) := by
            have hsz : (sizeOf el).run X.P w = .ok (T e).n w := by simp [sizeOf, typeInfo, hi, hz3]
            have hnb : ¬ (n * (T e).n > 2 ^ 24) := by omega
            simp only [List.nil_append, Array.toArray_toList] at hfill
            have hfill' : Instr.fill (fun i => some (i * (T e).n, (T e).n)) (Array.map (fun x => zs[x % zs.size]!) (Array.range (n * (T e).n))) vals.toList = some (valsL (T e) L).toArray := hfill
            simp only [Instr.buildSlice, Sem.run_bind, run_underlying hu, Result.andThen_ok, hsz, if_neg hnb]
            by_cases h0 : n * (T e).n = 0
            · have hzs : zs = #[] := if_pos h0
              have hf0 : Instr.fill (fun i => some (i * (T e).n, (T e).n)) #[] vals.toList = some (valsL (T e) L).toArray := by
                rw [hzs, h0, Array.range_zero'] at hfill'
                simpa using hfill'
              simp [h0, Array.range_zero', hf0, newRow]
            · have hzs : zs = z.cells := if_neg h0
              rw [hzs] at hfill'
              have hzv : (zeroValue el).run X.P w = .ok z w := by simp [zeroValue, typeInfo, hi, hz1]
              simp only [if_neg h0, Sem.run_bind, hzv, Sem.run_pure, Result.andThen_ok, hfill']
              simp [newRow]
          refine ⟨_, _, hrun, _, _, _, h, EffOk.alloc R hp f0.1 f0.2 (kept_alloc w _) (.vec e L el) (.slice (some ⟨w.heap.size, 0, none⟩) n n) _ (fun x => x = w.heap.size) _ rfl ⟨⟨by rw [valsL_len], .inr ⟨w.heap.size, n, (valsL (T e) L).toArray, ?_, Nat.zero_le _, heap_alloc_new w _, ?_, ?_, ?_, ?_⟩⟩, ?_⟩ (fun x hx => by omega) ?_⟩
          · rw [hLn, hlen]
          · omega
          · have : n * 1 ≤ n * (T e).n := Nat.mul_le_mul_left _ hz4
            simp only [maxLen]; omega
          · rw [List.size_toArray, valsL_len, hLn, hlen]
          · rw [List.take_of_length_le (by simp [valsL_len])]
          · intro x; simp [Value.ownBlock, eq_comm]
          · intro s hs
            simp only [Option.some.injEq] at hs
            subst hs
            simp [SV.den, setF_same]
        · exact h.elim
      · exact h.elim
    · exact h.elim
  · exact h.elim

/-! ### an array's element -/
theorem index_ok {t : TypeId} {x i : SV} (h : (indexT X t x i : Tree (Eff T O)).holds K) (hp : HeapOk R ρ H Fs w) : ∃ v, (Instr.index t (x.den ρ) (i.den ρ)).run X.P w = .ok v w ∧ OpOk R ρ H Fs w fresh K v w := by
  unfold indexT at h
  split at h
  · rename_i n el cs ik i hu
    split at h
    · rename_i E hE
      rw [Tree.holds_chk] at h
      obtain ⟨hin, h⟩ := h
      have hin' : 0 ≤ i ∧ i < (n : Int) := by simpa [inb] using hin
      split at h
      · rename_i v hv
        refine ⟨v.den ρ, ?_, OpOk.pure R hp h rfl⟩
        simp only [Instr.index, SV.den, asIntOf, Sem.run_bind, Sem.run_pure, Result.andThen_ok, run_underlying hu, hin', and_self, if_true, size_of X hE w]
        exact run_part_of X hv
      · exact h.elim
    · exact h.elim
  · exact h.elim
end
end
end Go.Sx
