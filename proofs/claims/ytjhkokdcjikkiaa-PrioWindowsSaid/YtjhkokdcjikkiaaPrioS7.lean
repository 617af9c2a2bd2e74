/-
  Part of a proof over the seat Ytjhkokdcjikkiaa: printed by a small program or typed by hand.
-/
import Derived.Test.YtjhkokdcjikkiaaPrioS6
import Derived.KernelRfl
import Derived.Test.YtjhkokdcjikkiaaSxIter
import Derived.Test.YtjhkokdcjikkiaaPrioIter2
namespace Go.Proofs.Ytjhkokdcjikkiaa
open Go.Sx Go.Proofs Classical
/-! ### slices.AppendSeq[[]regatta/api.Entry,regatta/api.Entry] (by hand) -/

def to6 (x : Ent) : Ent6 := (x.ID, x.SubIndex, x.SubRelease, x.SubDeadline, x.SubBit, x.SubGroup)
theorem flat_vals (L : List Ent) : flat6 (L.map to6) = valsL entE L := by
  induction L with
  | nil => rfl
  | cons a L ih =>
    have : flat6 ((a :: L).map to6) = entE.vals a ++ flat6 (L.map to6) := rfl
    rw [this, ih]
    rfl
theorem upto_list (L : List Ent) : upto (fun k => to6 (at' ez L (k : Int))) L.length = L.map to6 := by
  apply List.ext_getElem?
  intro k
  simp only [upto, List.getElem?_map]
  by_cases h : k < L.length
  · rw [List.getElem?_range h, List.getElem?_eq_getElem h]
    simp only [Option.map_some]
    rw [show at' ez L (k : Int) = L[k] by simp [at', List.getD_eq_getElem?_getD, List.getElem?_eq_getElem h]]
  · rw [List.getElem?_eq_none (by simpa using h), List.getElem?_eq_none (by simpa using h)]
    rfl
noncomputable def appSeqCon : Con T O := seqCon 2 25 37 41 1000
theorem appSeqOk : ConOk R Try.prog 44 appSeqCon := by
  refine seqCon_ok R Try.call44 ?_
  intro b sv L F w hb hc hro hN
  refine (callsIn_wide (n := 5)).1 ((appendSeq_in Fence.wide 5 trivial trivial rfl (by decide) b sv L.length (fun k => to6 (at' ez L (k : Int))) (by omega) w hb hc ?_).mono ?_)
  · rcases hro with ⟨ho, hL, _⟩ | ⟨a, cap, hv, _, hs, hlt, hcell, _⟩
    · exact .inl ⟨ho, by rw [hL]; rfl⟩
    · refine .inr ⟨a.block, a.off, cap, ?_, hlt, ?_⟩
      · obtain ⟨ab, ao, asp⟩ := a
        simp only at hs
        subst hs
        exact hv
      · intro j hj i v hi
        have hil : i < 6 := (List.getElem?_eq_some_iff.1 hi).1
        have hx : at' ez L (j : Int) = L[j] := by simp [at', List.getD_eq_getElem?_getD, List.getElem?_eq_getElem hj]
        have hi' : (entE.vals (at' ez L (j : Int)))[i]? = some v := hi
        rw [hx] at hi'
        have h2 := hcell _ _ (valsL_get entE L j hj i v hi')
        have e : a.add (j * 6 + i) = ⟨a.block, a.off + j * 6 + i, none⟩ := by
          obtain ⟨ab, ao, asp⟩ := a
          simp only at hs
          subst hs
          rw [Nat.add_assoc]
          unfold Addr.add
          split
          · rename_i h0; rw [show j * 6 + i = 0 by simpa using h0]; rfl
          · rfl
        exact e ▸ h2
  · intro en w' hex
    obtain ⟨v, he, hrow, hbl⟩ := hex
    refine ⟨v, he, ?_, hbl⟩
    rw [upto_list, flat_vals] at hrow
    exact hrow

noncomputable def tab7 : Tab T O := (44, appSeqCon) :: tab6
theorem tabOk7 : TabOk R Try.prog tab7 := TabOk.cons R appSeqOk <| tabOk6
noncomputable def X7 : Ctx T O := { X0 with con := conOf tab7 }
theorem X7Ok : TabOk R X7.P tab7 := tabOk7
end Go.Proofs.Ytjhkokdcjikkiaa
