/-
  Part of a proof over the seat YtlfjbnflfdnoaaaGreat: printed by a small program or typed by hand.
-/
import Derived.Test.YtlfjbnflfdnoaaaGreatSxState
import Derived.Laws.StructEq
import Derived.Laws.Tables
import Derived.Deep.MidRow
/-
 Sx:each operation does what its tree says.
-/
namespace Go.Sx
section
variable {T:Nat->Enc} {O:Nat->Type} (R:Objs O)
def OpOk (ρ:Env) (H:Nat->Option (Chunk T O)) (Fs:Nat->Nat->Prop) (w:World) (fresh:Nat) (K:Eff T O->Prop) (v:Value) (w':World):Prop:=
 ∃e ρ' Fs',K e/\ EffOk R ρ H Fs w fresh e v ρ' Fs' w'
theorem addr_add (a:Addr) (m n:Nat):(a.add m).add n=a.add (m+n):=by
 unfold Addr.add
 by_cases hm:m=0
 ·subst hm;simp
 ·by_cases hn:n=0
  ·subst hn;simp [hm]
  ·simp [hm,hn,Nat.add_assoc]
theorem Tree.holds_chk {ε:Type} {K:ε->Prop} {b:Bool} {t:Tree ε}:(chk b t).holds K↔b=true/\ t.holds K:=by
 cases b<;>simp [chk,Tree.holds]
section
variable {ρ:Env} {H:Nat->Option (Chunk T O)} {Fs:Nat->Nat->Prop} {w:World} {fresh:Nat} {K:Eff T O->Prop} (X:Ctx T O)
theorem OpOk.pure (hp:HeapOk R ρ H Fs w) {sv:SV} (h:(retv sv:Tree (Eff T O)).holds K) {v:Value} (hv:v=sv.den ρ):OpOk R ρ H Fs w fresh K v w:=
 ⟨_,ρ,Fs,h,EffOk.pure R hp fresh sv hv⟩
theorem cell_den (hone: ∀k,(ρ k).oneCell'=true) {v:SV} (h:v.cell=true):(v.den ρ).oneCell'=true:=by
 cases v with
 |raw v=>exact h
 |own k=>exact hone k
 |view k lo n E=>show (viewOf (ρ k) lo n E).oneCell'=true;unfold viewOf;split<;>rfl
 |agg cs=>cases h
 |tup cs=>cases h
 |_=>rfl
theorem cells_den (hone: ∀k,(ρ k).oneCell'=true) {v:SV} (h:v.cells.all SV.cell=true):(v.den ρ).cells=(denL ρ v.cells).toArray:=by
 have one: ∀ {u:Value},u.oneCell'=true->u.cells= #[u]:=fun {u} hu=>by cases u<;>first|rfl|cases hu
 cases v with
 |agg cs=>rfl
 |tup cs=>simp [SV.cells,SV.cell] at h
 |_=>
  simp only [SV.cells,List.all_cons,List.all_nil,Bool.and_true] at h
  rw [one (cell_den hone h)]
  simp [SV.cells,denL]
theorem all_cell_den (hone: ∀k,(ρ k).oneCell'=true): ∀ {l:List SV},l.all SV.cell=true-> ∀u∈denL ρ l,u.oneCell'=true
 |[],_,u,hu=>by simp [denL] at hu
 |v::vs,h,u,hu=>by
  simp only [List.all_cons,Bool.and_eq_true] at h
  simp only [denL,List.mem_cons] at hu
  rcases hu with rfl|hu
  ·exact cell_den hone h.1
  ·exact all_cell_den hone h.2 u hu
theorem length_denL (ρ:Env) (l:List SV):(denL ρ l).length=l.length:=by rw [denL_eq_map];simp
theorem denL_append (ρ:Env) (l m:List SV):denL ρ (l++m)=denL ρ l++denL ρ m:=by simp [denL_eq_map]
theorem denL_take (ρ:Env) (l:List SV) (n:Nat):denL ρ (l.take n)=(denL ρ l).take n:=by simp [denL_eq_map]
theorem denL_drop (ρ:Env) (l:List SV) (n:Nat):denL ρ (l.drop n)=(denL ρ l).drop n:=by simp [denL_eq_map]
theorem denL_splice (ρ:Env) (cs:List SV) (off:Nat) (new:List SV):denL ρ (splice cs off new)=(denL ρ cs).take off++denL ρ new++(denL ρ cs).drop (off+new.length):=by
 simp [splice,denL_append,denL_take,denL_drop]
theorem run_load_part {P:Program} {t:TypeId} {cs:List SV} {off:Nat} {v:SV} (hX:X.P=P) (h:partT X t cs off=some v) {b o:Nat} (hc:w.rangeAt b o (denL ρ cs)):
  (Instr.loadAt t (.pointer (some ⟨b,o+off,none⟩))).run P w= .ok (v.den ρ) w:=by
 subst hX
 unfold partT at h
 split at h
 ·rename_i n ha hs
  split at h
  ·rename_i hle
   simp only [Option.some.injEq] at h
   subst h
   have hlen:(denL ρ ((cs.drop off).take n)).length=n:=by rw [length_denL];simp;omega
   unfold isAggT at ha
   have: ∃d,X.P.underlying t=some d/\ d.isRow=true:=by
    cases hu:X.P.underlying t with
    |none=>simp [hu] at ha
    |some d=>exact ⟨d,rfl,by rw [hu] at ha;cases d<;>simp_all⟩
   obtain ⟨d,hu,hd⟩:=this
   have hr:w.rangeAt b (o+off) (denL ρ ((cs.drop off).take n)):=by
    intro j u hj
    rw [denL_take,denL_drop,List.getElem?_take] at hj
    split at hj
    ·rw [List.getElem?_drop] at hj
     have:=hc _ _ hj
     rwa [Nat.add_assoc]
    ·cases hj
   have:=run_loadAt_mid (P:=X.P) w b (o+off) t _ d hr hu hd (by rw [hlen];exact hs)
   simpa [SV.den] using this
  ·cases h
 ·rename_i n ha hs
  have hl:(denL ρ cs)[off]?=some (v.den ρ):=by rw [denL_eq_map,List.getElem?_map,h];rfl
  have hcell:=hc off _ hl
  unfold isAggT at ha
  have hagg:(isAgg t).run X.P w= .ok false w:=by
   cases hu:X.P.underlying t with
   |none=>simp [hu] at ha
   |some d=>
    unfold isAgg
    rw [Sem.run_bind,run_underlying hu w]
    rw [hu] at ha
    cases d<;>simp_all
  simp [Instr.loadAt,Instr.sureAddr,loadVar,Sem.run_bind,hagg,run_load,hcell,Result.andThen]
 ·cases h
theorem run_part_of {t:TypeId} {cs:List SV} {off:Nat} {v:SV} (h:partT X t cs off=some v):(part t (denL ρ cs).toArray off).run X.P w= .ok (v.den ρ) w:=by
 unfold partT at h
 split at h
 ·rename_i n ha hs
  split at h
  ·rename_i hle
   simp only [Option.some.injEq] at h
   subst h
   unfold isAggT at ha
   have hagg:(isAgg t).run X.P w= .ok true w:=by
    cases hu:X.P.underlying t with
    |none=>simp [hu] at ha
    |some d=>
     unfold isAgg
     rw [Sem.run_bind,run_underlying hu w]
     rw [hu] at ha
     cases d<;>simp_all
   unfold sizeT at hs
   cases hi:X.P.info? t with
   |none=>simp [hi] at hs
   |some i=>
    have hn:i.size=n:=by simpa [hi] using hs
    simp [part,Sem.run_bind,hagg,sizeOf,typeInfo,hi,hn,SV.den,denL_take,denL_drop]
  ·cases h
 ·rename_i n ha hs
  have hl:(denL ρ cs)[off]?=some (v.den ρ):=by rw [denL_eq_map,List.getElem?_map,h];rfl
  unfold isAggT at ha
  have hagg:(isAgg t).run X.P w= .ok false w:=by
   cases hu:X.P.underlying t with
   |none=>simp [hu] at ha
   |some d=>
    unfold isAgg
    rw [Sem.run_bind,run_underlying hu w]
    rw [hu] at ha
    cases d<;>simp_all
  simp [part,Sem.run_bind,hagg,hl]
 ·cases h
theorem bin_int {op:BinOp} {k:IntKind} {a b:Int} (t:TypeId) (h:(intBin op k a b:Tree (Eff T O)).holds K) (hp:HeapOk R ρ H Fs w) (x y:Operand):
  ∃v,(do eqGuard op t x y (.int k a) (.int k b);binOp op t (.int k a) (.int k b)).run X.P w= .ok v w/\ OpOk R ρ H Fs w fresh K v w:=by
 cases op<;>simp only [intBin] at h<;>first
  |exact h.elim
  |exact ⟨_,by simp [eqGuard,binOp,Op.intArith];rfl,OpOk.pure R hp h rfl⟩
  |(rw [Tree.holds_chk] at h
    have hb:b≠0:=by simpa using h.1
    exact ⟨_,by simp [eqGuard,binOp,Op.intDiv,hb];rfl,OpOk.pure R hp h.2 rfl⟩)
  |exact ⟨_,by simp [eqGuard,binOp];rfl,OpOk.pure R hp h rfl⟩
  |exact ⟨_,by simp [eqGuard,binOp,Op.intCmp];rfl,OpOk.pure R hp h rfl⟩
theorem bin_shift {op:BinOp} {k k':IntKind} {a b:Int} (t:TypeId) (h:(shiftBin op k a b:Tree (Eff T O)).holds K) (hp:HeapOk R ρ H Fs w) (x y:Operand):
  ∃v,(do eqGuard op t x y (.int k a) (.int k' b);binOp op t (.int k a) (.int k' b)).run X.P w= .ok v w/\ OpOk R ρ H Fs w fresh K v w:=by
 cases op<;>simp only [shiftBin] at h<;>first
  |exact h.elim
  |(rw [Tree.holds_chk] at h
    have hb: ¬b<0:=by simpa using h.1
    exact ⟨_,by simp [eqGuard,binOp,Op.shift,hb];rfl,OpOk.pure R hp h.2 rfl⟩)
theorem equalIn_bool {P:Program} {t:TypeId} (d:Nat) (a b:Bool) (hu:P.underlying t=some .bool):(Op.equalIn (d+1) t (.bool a) (.bool b)).run P w= .ok (a==b) w:=by
 simp [Op.equalIn,run_underlying hu]
theorem equalIn_map0 {P:Program} {t k e:TypeId} (d:Nat) (hu:P.underlying t=some (.map k e)):(Op.equalIn (d+1) t (.map none) (.map none)).run P w= .ok true w:=by
 simp [Op.equalIn,run_underlying hu]
theorem equalIn_map1 {P:Program} {t k e:TypeId} (d b:Nat) (hu:P.underlying t=some (.map k e)):(Op.equalIn (d+1) t (.map (some b)) (.map none)).run P w= .ok false w:=by
 simp [Op.equalIn,run_underlying hu]
theorem nilPtr_run {P:Program} {t el:TypeId} {x y:SV} {b:Bool} (hu:P.underlying t=some (.pointer el)) (h:nilPtr x y=some b) (d:Nat):
  (Op.equalIn (d+1) t (x.den ρ) (y.den ρ)).run P w= .ok b w:=by
 unfold nilPtr at h
 split at h<;>first
  |(cases h;done)
  |(cases h;simp [SV.den,Op.equalIn,run_underlying hu];done)
theorem nilFn_run {P:Program} {t:TypeId} {ps rs:Array TypeId} {vr:Bool} {x y:SV} {b:Bool} (hu:P.underlying t=some (.func ps rs vr)) (h:nilFn x y=some b) (d:Nat):
  (Op.equalIn (d+1) t (x.den ρ) (y.den ρ)).run P w= .ok b w:=by
 unfold nilFn at h
 split at h<;>first
  |(cases h;done)
  |(cases h;simp [SV.den,Op.equalIn,run_underlying hu];done)
theorem nilPtr_guard {P:Program} {t:TypeId} {x y:SV} {b:Bool} (h:nilPtr x y=some b) (op:BinOp) (p q:Operand):(eqGuard op t p q (x.den ρ) (y.den ρ)).run P w= .ok () w:=by
 unfold nilPtr at h
 split at h<;>first
  |(cases h;done)
  |(cases h;cases op<;>simp [SV.den,eqGuard];done)
theorem nilFn_guard {P:Program} {t:TypeId} {x y:SV} {b:Bool} (h:nilFn x y=some b) (op:BinOp) (p q:Operand):(eqGuard op t p q (x.den ρ) (y.den ρ)).run P w= .ok () w:=by
 unfold nilFn at h
 split at h<;>first
  |(cases h;done)
  |(cases h;cases op<;>simp [SV.den,eqGuard];done)
theorem nilPtr_bin {t:TypeId} {x y:SV} {b:Bool} (h:nilPtr x y=some b):binOp .eql t (x.den ρ) (y.den ρ)=(do pure (.bool (←Op.equal t (x.den ρ) (y.den ρ))))/\ binOp .neq t (x.den ρ) (y.den ρ)=(do pure (.bool (!(←Op.equal t (x.den ρ) (y.den ρ))))):=by
 unfold nilPtr at h
 split at h<;>first
  |(cases h;done)
  |exact ⟨rfl,rfl⟩
theorem nilFn_bin {t:TypeId} {x y:SV} {b:Bool} (h:nilFn x y=some b):binOp .eql t (x.den ρ) (y.den ρ)=(do pure (.bool (←Op.equal t (x.den ρ) (y.den ρ))))/\ binOp .neq t (x.den ρ) (y.den ρ)=(do pure (.bool (!(←Op.equal t (x.den ρ) (y.den ρ))))):=by
 unfold nilFn at h
 split at h<;>first
  |(cases h;done)
  |exact ⟨rfl,rfl⟩
theorem fields_run {f:TypeId->SV->SV->Option Bool} {D:Nat} {xs ys:List SV} (hf: ∀t a b c,f t a b=some c-> ∀w,(Op.equalIn D t (a.den ρ) (b.den ρ)).run X.P w= .ok c w):
  ∀(fs:List Field) (c:Bool),eqF X f fs xs ys=some c-> ∀w,(Op.eqFields D (denL ρ xs).toArray (denL ρ ys).toArray fs).run X.P w= .ok c w
 |[],c,h,w=>by simp only [eqF,Option.some.injEq] at h;subst h;simp [Op.eqFields]
 |fd::fs,c,h,w=>by
  unfold eqF at h
  split at h
  ·rename_i hn
   split at h
   ·rename_i a b ha hb
    split at h
    ·rename_i p q hp hq
     simp only [Option.some.injEq] at h
     subst h
     have ih:=fields_run hf fs q hq w
     simp only [Op.eqFields,if_pos hn,Sem.run_bind,run_part_of X ha,run_part_of X hb,Result.andThen_ok,hf _ a b p hp w]
     cases p
     ·simp
     ·simpa using ih
    ·cases h
   ·cases h
  ·cases h
theorem array_run {f:TypeId->SV->SV->Option Bool} {D E:Nat} {el:TypeId} {xs ys:List SV} (hf: ∀t a b c,f t a b=some c-> ∀w,(Op.equalIn D t (a.den ρ) (b.den ρ)).run X.P w= .ok c w):
  ∀(is:List Nat) (c:Bool),eqA X f el E is xs ys=some c-> ∀w,∃r:Option Bool×PUnit,(forIn is ((none,()):Option Bool×PUnit) fun i _=>do
    let a←part el (denL ρ xs).toArray (i*E)
    let b←part el (denL ρ ys).toArray (i*E)
    let q←Op.equalIn D el a b
    if q=false then pure (.done (some false,())) else pure (.yield (none,())):Sem _).run X.P w= .ok r w/\ r.1.getD true=c
 |[],c,h,w=>by simp only [eqA,Option.some.injEq] at h;subst h;exact ⟨(none,()),by simp⟩
 |i::is,c,h,w=>by
  unfold eqA at h
  split at h
  ·rename_i a b ha hb
   split at h
   ·rename_i p q hp hq
    simp only [Option.some.injEq] at h
    subst h
    obtain ⟨r,h1,h2⟩:=array_run hf is q hq w
    simp only [List.forIn_cons,Sem.run_bind,run_part_of X ha,run_part_of X hb,Result.andThen_ok,hf _ a b p hp w]
    cases p
    ·exact ⟨(some false,()),by simp⟩
    ·exact ⟨r,by simpa using h1,by simpa using h2⟩
   ·cases h
  ·cases h
theorem eqV_run: ∀(d D:Nat) (t:TypeId) (x y:SV) (c:Bool),eqV X d t x y=some c->d<=D-> ∀w,(Op.equalIn D t (x.den ρ) (y.den ρ)).run X.P w= .ok c w
 |0,D,t,x,y,c,h,_,w=>by simp [eqV] at h
 |d+1,D,t,x,y,c,h,hd,w=>by
  obtain ⟨D,rfl⟩: ∃D',D=D'+1:=⟨D-1,by omega⟩
  have ih: ∀t a b c,eqV X d t a b=some c-> ∀w,(Op.equalIn D t (a.den ρ) (b.den ρ)).run X.P w= .ok c w:=fun t a b c h w=>eqV_run d D t a b c h (by omega) w
  unfold eqV at h
  split at h
  ·rename_i k hu
   split at h
   ·split at h
    ·rename_i hk
     simp only [Option.some.injEq] at h
     subst h
     subst hk
     exact run_equalIn_int w D t _ _ _ _ hu
    ·cases h
   ·cases h
  ·rename_i hu
   split at h
   ·simp only [Option.some.injEq] at h
    subst h
    exact equalIn_bool D _ _ hu
   ·cases h
  ·rename_i fs hu
   split at h
   ·rename_i xs ys
    split at h
    ·cases h
    ·rename_i hs
     have hfs:X.P.fieldsOf t=fs:=by simp [Program.fieldsOf,hu]
     have:=fields_run (ρ:=ρ) X (D:=D) ih fs.toList c h w
     have h2:=run_equalIn_struct (P:=X.P) w D t (denL ρ xs).toArray (denL ρ ys).toArray (by rw [hfs];exact hu) (by simpa using hs)
     rw [hfs] at h2
     exact h2.trans this
   ·cases h
  ·rename_i n el hu
   split at h
   ·rename_i xs ys E hE
    obtain ⟨⟨r,u⟩,h1,h2⟩:=array_run (ρ:=ρ) X (D:=D) ih (List.range' 0 n) c h w
    have hz:(sizeOf el).run X.P w= .ok E w:=by
     unfold sizeT0 at hE
     cases hi:X.P.info? el with
     |none=>simp [hi] at hE
     |some ie=>simp [sizeOf,typeInfo,hi];simpa [hi] using hE
    simp only [SV.den,Op.equalIn,Sem.run_bind,run_underlying hu,Result.andThen_ok,hz]
    simp [Std.Legacy.Range.forIn_eq_forIn_range',Std.Legacy.Range.size,h1]
    cases r<;>simpa using h2
   ·cases h
  ·cases h
theorem eqGuard_agg {t:TypeId} {op:BinOp} {p q:Operand} {xs ys:Array Value} (hm: ¬X.P.eqGuardType X.P.depth t=true):(eqGuard op t p q (.agg xs) (.agg ys)).run X.P w= .ok () w:=
 run_eqGuard_agg w op t p q xs ys (by simpa using hm)
theorem bin_ok {t:TypeId} {op:BinOp} {x y:SV} (h:(binT X t op x y:Tree (Eff T O)).holds K) (hp:HeapOk R ρ H Fs w) (p q:Operand):
  ∃v,(do eqGuard op t p q (x.den ρ) (y.den ρ);binOp op t (x.den ρ) (y.den ρ)).run X.P w= .ok v w/\ OpOk R ρ H Fs w fresh K v w:=by
 unfold binT at h
 split at h
 ·rename_i k a k' b
  split at h
  ·exact bin_shift R X t h hp p q
  ·split at h
   ·rename_i hk
    subst hk
    exact bin_int R X t h hp p q
   ·exact h.elim
 ·rename_i a b
  split at h
  ·rename_i hu
   exact ⟨.bool (a==b),by simp [eqGuard,binOp,SV.den,Op.equal,Op.maxDepth,equalIn_bool 9999 a b hu],OpOk.pure R hp h rfl⟩
  ·rename_i hu
   exact ⟨.bool (a !=b),by simp [eqGuard,binOp,SV.den,Op.equal,Op.maxDepth,equalIn_bool 9999 a b hu,bne],OpOk.pure R hp h rfl⟩
  ·exact h.elim
 ·rename_i a b
  split at h
  ·rename_i hu
   exact ⟨.bool (a.data.toList==b.data.toList),by simp [eqGuard,binOp,SV.den,Op.stringOp,ByteArray.toList_eq],OpOk.pure R hp h rfl⟩
  ·rename_i hu
   exact ⟨.bool (a.data.toList !=b.data.toList),by simp [eqGuard,binOp,SV.den,Op.stringOp,bne,ByteArray.toList_eq],OpOk.pure R hp h rfl⟩
  ·exact h.elim
 ·split at h
  ·rename_i hu
   split at h
   ·rename_i b hb
    exact ⟨.bool b,by simp only [Sem.run_bind,nilPtr_guard hb,Result.andThen_ok,(nilPtr_bin hb).1,Op.equal,Op.maxDepth,nilPtr_run hu hb 9999,Sem.run_pure],OpOk.pure R hp h rfl⟩
   ·rename_i b hb
    exact ⟨.bool (!b),by simp only [Sem.run_bind,nilPtr_guard hb,Result.andThen_ok,(nilPtr_bin hb).2,Op.equal,Op.maxDepth,nilPtr_run hu hb 9999,Sem.run_pure],OpOk.pure R hp h rfl⟩
   ·exact h.elim
  ·rename_i hu
   split at h
   ·rename_i b hb
    exact ⟨.bool b,by simp only [Sem.run_bind,nilFn_guard hb,Result.andThen_ok,(nilFn_bin hb).1,Op.equal,Op.maxDepth,nilFn_run hu hb 9999,Sem.run_pure],OpOk.pure R hp h rfl⟩
   ·rename_i b hb
    exact ⟨.bool (!b),by simp only [Sem.run_bind,nilFn_guard hb,Result.andThen_ok,(nilFn_bin hb).2,Op.equal,Op.maxDepth,nilFn_run hu hb 9999,Sem.run_pure],OpOk.pure R hp h rfl⟩
   ·exact h.elim
  ·split at h
   ·rename_i xs ys _ _ _
    split at h
    ·exact h.elim
    ·rename_i hm
     split at h
     ·rename_i b hb
      have:=eqV_run (ρ:=ρ) X 8 10000 t (.agg xs) (.agg ys) b hb (by omega) w
      exact ⟨.bool b,by simp only [SV.den] at this ⊢;simp only [Sem.run_bind,eqGuard_agg X hm,Result.andThen_ok,run_eql_struct,this],OpOk.pure R hp h rfl⟩
     ·rename_i b hb
      have:=eqV_run (ρ:=ρ) X 8 10000 t (.agg xs) (.agg ys) b hb (by omega) w
      exact ⟨.bool (!b),by simp only [SV.den] at this ⊢;simp only [Sem.run_bind,eqGuard_agg X hm,Result.andThen_ok,run_neq_struct,this],OpOk.pure R hp h rfl⟩
     ·exact h.elim
   ·exact h.elim
  ·exact h.elim
theorem binM_ok {t:TypeId} {op:BinOp} {x y:SV} (h:(binM X t op x y (headC H x):Tree (Eff T O)).holds K) (hp:HeapOk R ρ H Fs w) (p q:Operand):
  ∃v,(do eqGuard op t p q (x.den ρ) (y.den ρ);binOp op t (x.den ρ) (y.den ρ)).run X.P w= .ok v w/\ OpOk R ρ H Fs w fresh K v w:=by
 unfold binM at h
 split at h
 ·rename_i k
  split at h
  ·rename_i e L kt el hc hu
   simp only [headC,SV.head] at hc
   obtain ⟨b,es,clock,hv,_⟩:=hp.holds k _ hc
   exact ⟨.bool false,by simp [eqGuard,binOp,SV.den,hv,Op.equal,Op.maxDepth,equalIn_map1 9999 b hu],OpOk.pure R hp h rfl⟩
  ·rename_i e L kt el hc hu
   simp only [headC,SV.head] at hc
   obtain ⟨b,es,clock,hv,_⟩:=hp.holds k _ hc
   exact ⟨.bool true,by simp [eqGuard,binOp,SV.den,hv,Op.equal,Op.maxDepth,equalIn_map1 9999 b hu],OpOk.pure R hp h rfl⟩
  ·exact h.elim
 ·split at h
  ·rename_i kt el hu
   exact ⟨.bool true,by simp [eqGuard,binOp,SV.den,Op.equal,Op.maxDepth,equalIn_map0 9999 hu],OpOk.pure R hp h rfl⟩
  ·rename_i kt el hu
   exact ⟨.bool false,by simp [eqGuard,binOp,SV.den,Op.equal,Op.maxDepth,equalIn_map0 9999 hu],OpOk.pure R hp h rfl⟩
  ·exact h.elim
 ·exact bin_ok R X h hp p q
theorem un_ok {op:UnOp} {x:SV} (h:(unT op x:Tree (Eff T O)).holds K) (hp:HeapOk R ρ H Fs w): ∃v,(Op.unary op (x.den ρ)).run X.P w= .ok v w/\ OpOk R ρ H Fs w fresh K v w:=by
 unfold unT at h
 split at h
 ·rename_i k n
  exact ⟨.int k (k.wrap (0-n)),by simp [SV.den,Op.unary,Op.intArith],OpOk.pure R hp h rfl⟩
 ·rename_i b
  exact ⟨.bool (!b),by simp [SV.den,Op.unary],OpOk.pure R hp h rfl⟩
 ·exact h.elim
theorem conv_ok {s d:TypeId} {x:SV} (h:(convT X s d x:Tree (Eff T O)).holds K) (hp:HeapOk R ρ H Fs w): ∃v,(convert s d (x.den ρ)).run X.P w= .ok v w/\ OpOk R ρ H Fs w fresh K v w:=by
 unfold convT at h
 split at h
 ·rename_i ds k k' n hds hu
  exact ⟨.int k (k.wrap n),by cases ds<;>simp [SV.den,convert,run_underlying hds,run_underlying hu,Conv.intToInt],OpOk.pure R hp h rfl⟩
 ·exact h.elim
theorem extract_ok {x:SV} {i:Nat} (h:(extractT x i:Tree (Eff T O)).holds K) (hp:HeapOk R ρ H Fs w): ∃v,(Instr.extract (x.den ρ) i).run X.P w= .ok v w/\ OpOk R ρ H Fs w fresh K v w:=by
 unfold extractT at h
 split at h
 ·rename_i vs
  split at h
  ·rename_i v hv
   exact ⟨v.den ρ,by simp [SV.den,Instr.extract,denL_eq_map,hv],OpOk.pure R hp h rfl⟩
  ·exact h.elim
 ·exact h.elim
theorem fieldAddr_ok {t:TypeId} {x:SV} {f:Nat} (h:(fieldAddrT X t x f:Tree (Eff T O)).holds K) (hp:HeapOk R ρ H Fs w):
  ∃v,(Instr.fieldAt t (x.den ρ) f).run X.P w= .ok v w/\ OpOk R ρ H Fs w fresh K v w:=by
 unfold fieldAddrT at h
 split at h
 ·rename_i fs hfs
  unfold fieldsOf at hfs
  split at hfs
  ·rename_i fs' hu
   simp only [Option.some.injEq] at hfs
   subst hfs
   split at h
   ·rename_i fd hf
    split at h
    ·rename_i n hs
     unfold sizeT at hs
     have hsz:(sizeOf fd.type).run X.P w= .ok (n+1) w:=by
      cases hi:X.P.info? fd.type with
      |none=>simp [hi] at hs
      |some i=>simp [sizeOf,typeInfo,hi];simpa [hi] using hs
     split at h
     ·rename_i k off
      exact ⟨_,by simp [SV.den,Instr.fieldAt,run_underlying hu,hf,Instr.sureAddr,fieldPlace,hsz,addr_add];rfl,OpOk.pure R hp h (by simp [SV.den])⟩
     ·rename_i k i E j
      exact ⟨_,by simp [SV.den,Instr.fieldAt,run_underlying hu,hf,Instr.sureAddr,fieldPlace,hsz,addr_add];rfl,OpOk.pure R hp h (by simp [SV.den,Nat.add_assoc])⟩
     ·exact h.elim
    ·exact h.elim
   ·exact h.elim
  ·cases hfs
 ·exact h.elim
theorem field_ok {t:TypeId} {x:SV} {f:Nat} (h:(fieldTT X t x f:Tree (Eff T O)).holds K) (hp:HeapOk R ρ H Fs w):
  ∃v,(Instr.field t (x.den ρ) f).run X.P w= .ok v w/\ OpOk R ρ H Fs w fresh K v w:=by
 unfold fieldTT at h
 split at h
 ·rename_i fs cs hfs
  unfold fieldsOf at hfs
  split at hfs
  ·rename_i fs' hu
   simp only [Option.some.injEq] at hfs
   subst hfs
   split at h
   ·rename_i fd hf
    split at h
    ·rename_i v hv
     exact ⟨v.den ρ,by simp [SV.den,Instr.field,run_underlying hu,hf,asAgg,run_part_of X hv],OpOk.pure R hp h rfl⟩
    ·exact h.elim
   ·exact h.elim
  ·cases hfs
 ·exact h.elim
theorem maxMin_ok {mx:Bool} {x y:SV} (h:(maxMinT mx x y:Tree (Eff T O)).holds K) (hp:HeapOk R ρ H Fs w):
  ∃v,(if mx then Builtin.max2 (x.den ρ) (y.den ρ) else Builtin.min2 (x.den ρ) (y.den ρ)).run X.P w= .ok v w/\ OpOk R ρ H Fs w fresh K v w:=by
 unfold maxMinT at h
 split at h
 ·rename_i k a k' b
  split at h
  ·cases mx
   ·exact ⟨_,by simp [SV.den,Builtin.min2],OpOk.pure R hp h rfl⟩
   ·exact ⟨_,by simp [SV.den,Builtin.max2],OpOk.pure R hp h rfl⟩
  ·exact h.elim
 ·exact h.elim
theorem assert_ok {x:SV} {xt at_:TypeId} {ok:Bool} (h:(assertT X x at_ ok:Tree (Eff T O)).holds K) (hp:HeapOk R ρ H Fs w):
  ∃v,(Instr.typeAssert (x.den ρ) xt at_ ok).run X.P w= .ok v w/\ OpOk R ρ H Fs w fresh K v w:=by
 unfold assertT at h
 split at h
 ·exact h.elim
 ·rename_i d t v hd hu
  split at h
  ·rename_i ht
   subst ht
   cases ok
   ·exact ⟨v.den ρ,by cases d<;>simp_all [SV.den,Instr.typeAssert,run_underlying hu],OpOk.pure R hp h rfl⟩
   ·exact ⟨_,by cases d<;>simp_all [SV.den,Instr.typeAssert,run_underlying hu]<;>rfl,OpOk.pure R hp h (by simp [SV.den,denL])⟩
  ·rename_i ht
   split at h
   ·rename_i z hz
    cases hi:X.P.info? at_ with
    |none=>simp [hi] at hz
    |some i=>
     have hz':i.zero=some z:=by simpa [hi] using hz
     exact ⟨.tuple #[z, .bool false],by cases d<;>simp_all [SV.den,Instr.typeAssert,run_underlying hu,zeroValue,typeInfo],OpOk.pure R hp h (by simp [SV.den,denL,svOf_den])⟩
   ·exact h.elim
 ·exact h.elim
theorem mkIface_ok {t:TypeId} {x:SV} (h:(mkIfaceT X t x:Tree (Eff T O)).holds K) (hp:HeapOk R ρ H Fs w):
  ∃v,(Instr.makeInterface t (x.den ρ)).run X.P w= .ok v w/\ OpOk R ρ H Fs w fresh K v w:=by
 unfold mkIfaceT at h
 split at h
 ·exact h.elim
 ·rename_i d hd hu
  exact ⟨.iface t (x.den ρ),by cases d<;>simp_all [Instr.makeInterface,run_underlying hu],OpOk.pure R hp h rfl⟩
 ·exact h.elim
end
end
end Go.Sx