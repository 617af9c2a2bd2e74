/-
  Part of a proof over the seat YtlfjbnflfdnoaaaGreat: printed by a small program or typed by hand.
-/
import Derived.Test.YtlfjbnflfdnoaaaGreatSxFn
/-
 Sx:objects by their layouts:an object is some chunks,the first one its variable.
-/
namespace Go.Sx
section
variable {T:Nat->Enc} {O:Nat->Type}
def noObjs:Objs O:= { rep:=fun _ _ _ _ _=>False,stable:=fun _ _ _ _ _ _ h _=>h,lt:=fun _ _ _ _ _ h=>h.elim,ptr:=fun _ _ _ _ _ h=>h.elim }
def Chunk.flat:Chunk T O->Bool
 | .cells _ _=>true
 | .arr _ _ _=>true
 | .vec _ _ _=>true
 | .map _ _=>true
 | .mix _ _ _ _ _ _=>true
 | .que _ _ _=>true
 |_=>false
theorem flat_owned {c:Chunk T O} (h:c.flat=true):c.owned=true:=by
 cases c<;>first|rfl|cases h
theorem flat_holds (R R':Objs O) {c:Chunk T O} (h:c.flat=true) {ρ:Env} {w:World} {v:Value} {F:Nat->Prop} (hc:c.holds R ρ w v F):c.holds R' ρ w v F:=by
 cases c<;>first|exact hc|cases h
theorem flat_stable (R:Objs O) {c:Chunk T O} (h:c.flat=true) {ρ:Env} {w w':World} {v:Value} {F:Nat->Prop} (hc:c.holds R ρ w v F) (hw: ∀x,F x->w'.heap[x]?=w.heap[x]?):c.holds R ρ w' v F:=by
 cases c with
 |cells cs t=>
  obtain ⟨b,h1,h2,h3,h4⟩:=hc
  exact ⟨b,h1,by rw [hw b ((h4 b).2 rfl)];exact h2,h3,h4⟩
 |arr e L t=>
  obtain ⟨b,h1,h2,h4⟩:=hc
  exact ⟨b,h1,by rw [hw b ((h4 b).2 rfl)];exact h2,h4⟩
 |vec e L t=>
  obtain ⟨⟨h0,hv⟩,hF⟩:=hc
  refine ⟨⟨h0, ?_⟩,hF⟩
  rcases hv with hv|⟨g,cap,cur,hv,h1,hg,h2⟩
  ·exact .inl hv
  ·exact .inr ⟨g,cap,cur,hv,h1,by rw [hw g ((hF g).2 (by rw [hv];rfl))];exact hg,h2⟩
 |map e L=>
  obtain ⟨b,es,clock,h1,h2,h3,h4,h5⟩:=hc
  exact ⟨b,es,clock,h1,by rw [hw b ((h5 b).2 rfl)];exact h2,h3,h4,h5⟩
 |mix cs e n L ds t=>
  obtain ⟨b,h1,h2,h3,h4⟩:=hc
  exact ⟨b,h1,by rw [hw b ((h4 b).2 rfl)];exact h2,h3,h4⟩
 |que e L t=>exact queHolds_stable hc hw
 |_=>cases h
structure LayGood {o:Nat} (ℓ:LayF T O o):Prop where
 n:0<ℓ.n/\ ℓ.n<=stride
 len: ∀d,(ℓ.lay d).length=ℓ.n
 flat: ∀d,∀c∈ℓ.lay d,c.flat=true
 ids: ∀d,∀c∈ℓ.lay d,∀id∈c.ids,id<ℓ.n
 back: ∀l d,ℓ.unlay l=some d->ℓ.lay d=l
 first: ∀d,∃cs t,(ℓ.lay d)[0]?=some (.cells cs t)
def layRep (ℓ:(o:Nat)->Option (LayF T O o)) (o:Nat) (d:O o) (v:Value) (w:World) (F:Nat->Prop):Prop:=match ℓ o with
 |none=>False
 |some ℓ=>LayGood ℓ/\ ∃ρ Fs,ρ 0=v/\ HeapOk noObjs ρ (fun j=>(ℓ.lay d)[j]?) Fs w/\ ∀x,F x↔ ∃j,j<ℓ.n/\ Fs j x
theorem flat_heap {R R':Objs O} {ρ:Env} {l:List (Chunk T O)} {Fs:Nat->Nat->Prop} {w:World} (hl: ∀c∈l,c.flat=true) (h:HeapOk R ρ (fun j=>l[j]?) Fs w):HeapOk R' ρ (fun j=>l[j]?) Fs w:=
 ⟨h.one,fun k c hc=>flat_holds R R' (hl c (List.mem_of_getElem? hc)) (h.holds k c hc),h.sep⟩
def layObjs (ℓ:(o:Nat)->Option (LayF T O o)):Objs O where
 rep:=layRep ℓ
 stable:=by
  intro o d v w w' F h hw
  unfold layRep at h ⊢
  split at h
  ·exact h
  ·rename_i ℓ' hl
   obtain ⟨hg,ρ,Fs,h1,h2,h3⟩:=h
   refine ⟨hg,ρ,Fs,h1,⟨h2.one,fun k c hc=> ?_,h2.sep⟩,h3⟩
   refine flat_stable _ (hg.flat d c (List.mem_of_getElem? hc)) (h2.holds k c hc) fun x hx=>hw x ((h3 x).2 ⟨k, ?_,hx⟩)
   rw [←hg.len d]
   exact (List.getElem?_eq_some_iff.1 hc).1
 lt:=by
  intro o d v w F h x hx
  unfold layRep at h
  split at h
  ·exact h.elim
  ·obtain ⟨hg,ρ,Fs,h1,h2,h3⟩:=h
   obtain ⟨j,hj,hx⟩:=(h3 x).1 hx
   rw [←hg.len d] at hj
   exact h2.lt _ (List.getElem?_eq_getElem hj) x hx
 ptr:=by
  intro o d v w F h
  unfold layRep at h
  split at h
  ·exact h.elim
  ·obtain ⟨hg,ρ,Fs,h1,h2,h3⟩:=h
   obtain ⟨cs,t,hc⟩:=hg.first d
   obtain ⟨b,hb,_⟩:=h2.holds 0 _ hc
   exact ⟨b,by rw [←h1];exact hb⟩
theorem layOk_of (X:Ctx T O) (h: ∀o ℓ,X.lay o=some ℓ->LayGood ℓ):LayOk (layObjs X.lay) X where
 n:=fun o ℓ e=>(h o ℓ e).n
 len:=fun o ℓ e=>(h o ℓ e).len
 own:=fun o ℓ e d c hc=>flat_owned ((h o ℓ e).flat d c hc)
 ids:=fun o ℓ e=>(h o ℓ e).ids
 back:=fun o ℓ e=>(h o ℓ e).back
 rep:=by
  intro o ℓ e d v w F
  have hg:=h o ℓ e
  have:(layObjs X.lay).rep o d v w F=(LayGood ℓ/\ ∃ρ Fs,ρ 0=v/\ HeapOk noObjs ρ (fun j=>(ℓ.lay d)[j]?) Fs w/\ ∀x,F x↔ ∃j,j<ℓ.n/\ Fs j x):=by
   show layRep X.lay o d v w F=_
   unfold layRep
   rw [e]
  rw [this]
  constructor
  ·rintro ⟨_,ρ,Fs,h1,h2,h3⟩
   exact ⟨ρ,Fs,h1,flat_heap (hg.flat d) h2,h3⟩
  ·rintro ⟨ρ,Fs,h1,h2,h3⟩
   exact ⟨hg,ρ,Fs,h1,flat_heap (hg.flat d) h2,h3⟩
end
end Go.Sx