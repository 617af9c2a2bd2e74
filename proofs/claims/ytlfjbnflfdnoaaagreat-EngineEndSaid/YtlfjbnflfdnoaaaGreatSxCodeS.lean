/-
  Part of a proof over the seat YtlfjbnflfdnoaaaGreat: printed by a small program or typed by hand.
-/
import Derived.Test.YtlfjbnflfdnoaaaGreatSxLe
/-
 Sx:code,carried out by the model.
-/
namespace Go.Sx
theorem stepR_scope {P:Program} {b:Frame} {a:Act} {k:List Item} {cs:List Frame} {w:World} {c:Code}:
  step P (lone (b.atR a (.code (.scope c)::k)) cs w)= .next (lone (b.atR a (.code c:: .inScope c::k)) cs w):=
 step_lone_go (by simp [stepG,stepG.exec,Frame.atR])
theorem stepR_inScope {P:Program} {b:Frame} {a:Act} {k:List Item} {cs:List Frame} {w:World} {c:Code}:
  step P (lone (b.atR a (.inScope c::k)) cs w)= .next (lone (b.atR a k) cs w):=
 step_lone_go (by simp [stepG,stepG.exec,Frame.atR])
theorem wpIn_scope {F:Fence} {n:Nat} {P:Program} {Q:Exit->Act->World->Prop} {a:Act} {w:World} {c:Code} (h:c.wpIn F n P (Exit.noGoto Q) a w):(Code.scope c).wpIn F n P Q a w:=by
 intro b k cs hro hb hr
 have h0:(lone (b.atR a (.code (.scope c)::k)) cs w).fenced P F:=fenced_calm hb hr rfl
 obtain ⟨e,a₁,w₁,hq,harr⟩:=h b (.inScope c::k) cs hro hb hr
 cases e with
 |normal=>exact ⟨.normal,a₁,w₁,hq, .head h0 stepR_scope (StepsIn.trans harr (.one (fenced_calm hb hr rfl) stepR_inScope))⟩
 |exit id=>
  have hx:exitTo id (.inScope c::k)=exitTo id k:=by simp [exitTo]
  exact ⟨.exit id,a₁,w₁,hq,fun k' hk=> .head h0 stepR_scope (harr.1 k' (by rw [hx];exact hk)),
   fun hr' hk=>let ⟨k₁,h1,h2⟩:=harr.2 hr' (by rw [hx];exact hk);⟨k₁,h1, .head h0 stepR_scope h2⟩⟩
 |goto l=>exact hq.elim
 |ret=>exact ⟨_,a₁,w₁,hq, .of_steps (.one h0 stepR_scope) harr⟩
 |panic ch=>exact ⟨_,a₁,w₁,hq, .of_steps (.one h0 stepR_scope) harr⟩
 |outgrown=>exact ⟨_,a₁,w₁,hq, .of_steps (.one h0 stepR_scope) harr⟩
section
variable {T:Nat->Enc} {O:Nat->Type} (R:Objs O)
def To (fx:Fx) (w0:World) (M:Nat->Prop) (K:Exit->SS T O->Prop) (e:Exit) (a:Act) (w:World):Prop:=
 ∃S ρ Fs,K e S/\ Inv R fx w0 M (· <S.next) ρ Fs S.tmps S.get a w
variable (X:Ctx T O) (A:Ann T O) {ro:Option Nat} {n nf:Nat}
theorem wfP_elim {S:SS T O} {p:Prop} (h:wfP nf S p):S.wf nf=true/\ p:=by
 unfold wfP at h
 split at h
 ·rename_i hw;exact ⟨hw,h⟩
 ·exact h.elim
theorem exec_sound (hcon:Good R X) (hm:X.P.follows .mixedOrders=true) {fx:Fx} (hn:fx.n=nf) {w0:World} {M:Nat->Prop} (c:Code): ∀(S:SS T O) (K:Exit->SS T O->Prop),exec X A nf c S K-> ∀ {ρ:Env} {Fs:Nat->Nat->Prop} {a:Act} {w:World},
  Inv R fx w0 M (· <S.next) ρ Fs S.tmps S.get a w->c.wpIn (Wd ro) n X.P (To R fx w0 M K) a w:=by
 induction c with
 |skip=>intro S K h ρ Fs a w inv;exact wpIn_skip ⟨S,ρ,Fs,h,inv⟩
 |label l=>intro S K h ρ Fs a w inv;exact wpIn_label ⟨S,ρ,Fs,h,inv⟩
 |exit id=>intro S K h ρ Fs a w inv;exact wpIn_exit ⟨S,ρ,Fs,h,inv⟩
 |ret=>intro S K h ρ Fs a w inv;exact wpIn_ret ⟨S,ρ,Fs,h,inv⟩
 |goto l=>intro S K h;exact h.elim
 |refuse l=>intro S K h;exact h.elim
 |rangeFunc=>intro S K h;exact h.elim
 |region id ops d=>
  intro S K h ρ Fs a w inv
  obtain ⟨ρ,Fs,inv⟩:=frzS_inv R (A.frz id) S inv
  refine wpIn_mono (region_sound R X d ops hcon hm h inv) ?_
  rintro e a' w' ⟨rfl,S',ρ',Fs',hK,inv'⟩
  rw [fS_eq] at hK
  obtain ⟨ρ',Fs',inv'⟩:=foldS_inv R X hcon.lay (A.fold id) inv'
  exact ⟨_,ρ',Fs',hK,inv'⟩
 |seq x y ihx ihy=>
  intro S K h ρ Fs a w inv
  simp only [exec] at h
  refine wpIn_seq ?_
  split at h
  ·refine wpIn_mono (ihx S _ h inv) ?_
   rintro e a' w' ⟨S',ρ',Fs',hK,inv'⟩
   cases e with
   |normal=>exact ihy S' K hK inv'
   |_=>exact ⟨S',ρ',Fs',hK,inv'⟩
  ·rename_i J _
   refine wpIn_mono (ihx S _ h.1 inv) ?_
   rintro e a' w' ⟨S',ρ',Fs',hK,inv'⟩
   cases e with
   |normal=>
    obtain ⟨z,hz,hle⟩:=hK
    have h2:=h.2 z hz
    rw [fS_eq] at h2
    obtain ⟨hwf,hy⟩:=wfP_elim h2
    obtain ⟨ρ'',Fs'',inv''⟩:=le_sound R hle hwf hn inv'
    exact ihy _ K hy inv''
   |_=>exact ⟨S',ρ',Fs',hK,inv'⟩
 |cond c x y ihx ihy=>
  intro S K h ρ Fs a w inv
  simp only [exec] at h
  split at h
  ·rename_i t
   split at h
   ·rename_i v hv
    have hc:a.eval (.tmp t)= .bool v:=Inv.opd R inv (x:= .tmp t) hv
    have self: ∀(b:Bool),getT S.tmps t=some (.raw (.bool b))->setT (some (.raw (.bool b))) S.tmps t=S.tmps:=by
     intro b hb
     have: ∀(l:List (Option SV)) (i:Nat) (u:SV),getT l i=some u->setT (some u) l i=l:=by
      intro l
      induction l with
      |nil=>intro i u h;rfl
      |cons z l ih=>
       intro i u h
       cases i with
       |zero=>simp only [getT] at h;simp [setT,h]
       |succ i=>simp only [getT] at h;simp [setT,ih i u h]
     exact this _ _ _ hb
    cases v with
    |true=>
     simp only at h
     rw [self true hv] at h
     exact wpIn_cond_true hc (ihx _ K h inv)
    |false=>
     simp only at h
     rw [self false hv] at h
     exact wpIn_cond_false hc (ihy _ K h inv)
   ·exact h.elim
  ·rename_i v
   cases v with
   |true=>exact wpIn_cond_true rfl (ihx S K h inv)
   |false=>exact wpIn_cond_false rfl (ihy S K h inv)
  ·exact h.elim
 |block id b ih=>
  intro S K h ρ Fs a w inv
  simp only [exec] at h
  refine wpIn_block (wpIn_mono (ih S _ h inv) ?_)
  rintro e a' w' ⟨S',ρ',Fs',hK,inv'⟩
  cases e with
  |exit id'=>
   simp only [Exit.inBlock]
   simp only at hK
   split at hK
   ·rename_i he
    rw [if_pos (by simpa using he)]
    exact ⟨S',ρ',Fs',hK,inv'⟩
   ·rename_i he
    rw [if_neg (by simpa using he)]
    exact ⟨S',ρ',Fs',hK,inv'⟩
  |_=>exact ⟨S',ρ',Fs',hK,inv'⟩
 |loop b ih=>
  intro S K h ρ Fs a w inv
  simp only [exec] at h
  split at h
  ·generalize unrOf A b=k at h
   refine wpIn_loop_ghost (fun m a w=> ∃S ρ Fs,unrX (fun S K=>exec X A nf b S K) m S K/\ Inv R fx w0 M (· <S.next) ρ Fs S.tmps S.get a w) k ⟨S,ρ,Fs,h,inv⟩ ?_
   rintro m a' w' ⟨S',ρ',Fs',hu,inv'⟩
   cases m with
   |zero=>exact hu.elim
   |succ m=>
    refine wpIn_mono (ih S' _ hu inv') ?_
    rintro e a'' w'' ⟨S'',ρ'',Fs'',hK,inv''⟩
    cases e with
    |normal=>exact ⟨m,Nat.lt_succ_self m,S'',ρ'',Fs'',hK,inv''⟩
    |_=>exact ⟨S'',ρ'',Fs'',hK,inv''⟩
  ·rename_i L _
   obtain ⟨⟨x0,hx0,hle0⟩,hround⟩:=h
   simp only [fS_eq] at hround
   obtain ⟨hwf0,_⟩:=wfP_elim (hround x0 hx0)
   refine wpIn_loop_ghost (fun m a w=> ∃x ρ Fs,L.m x=m/\ L.inv S x/\ Inv R fx w0 M (· <(L.st (S.forget (wrCode b)) x).next) ρ Fs (L.st (S.forget (wrCode b)) x).tmps (L.st (S.forget (wrCode b)) x).get a w) (L.m x0) ?_ ?_
   ·obtain ⟨ρ',Fs',inv'⟩:=le_sound R hle0 hwf0 hn inv
    exact ⟨x0,ρ',Fs',rfl,hx0,inv'⟩
   ·rintro m a' w' ⟨x,ρ',Fs',rfl,hx,inv'⟩
    obtain ⟨_,hb⟩:=wfP_elim (hround x hx)
    refine wpIn_mono (ih _ _ hb inv') ?_
    rintro e a'' w'' ⟨S'',ρ'',Fs'',hK,inv''⟩
    cases e with
    |normal=>
     obtain ⟨x',hx',hlt,hle⟩:=hK
     obtain ⟨hwf',_⟩:=wfP_elim (hround x' hx')
     obtain ⟨ρ3,Fs3,inv3⟩:=le_sound R hle hwf' hn inv''
     exact ⟨L.m x',hlt,x',ρ3,Fs3,rfl,hx',inv3⟩
    |_=>exact ⟨S'',ρ'',Fs'',hK,inv''⟩
 |scope b ih=>
  intro S K h ρ Fs a w inv
  simp only [exec] at h
  refine wpIn_scope (wpIn_mono (ih S _ h inv) ?_)
  rintro e a' w' ⟨S',ρ',Fs',hK,inv'⟩
  cases e with
  |goto l=>exact hK.elim
  |_=>exact ⟨S',ρ',Fs',hK,inv'⟩
end
end Go.Sx