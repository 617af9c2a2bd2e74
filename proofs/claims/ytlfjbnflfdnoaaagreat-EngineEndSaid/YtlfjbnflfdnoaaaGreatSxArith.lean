/-
  Part of a proof over the seat YtlfjbnflfdnoaaaGreat: printed by a small program or typed by hand.
-/
import Derived.Test.YtlfjbnflfdnoaaaGreatSxAnn
import Derived.Laws.BitsLemmas
/-
 Sx:numbers:no wrap where there is room,masks,bounds of products,quotients.
-/
namespace Go.Sx
theorem wrap_id {n:Int} (h0: -9223372036854775808<=n) (h1:n<=9223372036854775807):IntKind.i64.wrap n=n:=by
 rw [IntKind.wrap_i64];omega
theorem mul_le {a b A B:Int} (ha:0<=a) (hb:0<=b) (hA:a<=A) (hB:b<=B):0<=a*b/\ a*b<=A*B:=
 ⟨Int.mul_nonneg ha hb,Int.mul_le_mul hA hB hb (Int.le_trans ha hA)⟩
theorem tdiv_pos {a b:Int} (ha:0<=a):a.tdiv b=a/b:=Int.tdiv_eq_ediv_of_nonneg ha
theorem tmod_pos {a b:Int} (ha:0<=a):a.tmod b=a%b:=Int.tmod_eq_emod_of_nonneg ha
theorem div_spec (a:Int) {b:Int} (hb:0<b):b*(a/b)<=a/\ a<b*(a/b)+b:=by
 have h1:=Int.mul_ediv_add_emod a b
 have h2:=Int.emod_nonneg a (b:=b) (by omega)
 have h3:=Int.emod_lt_of_pos a hb
 omega
end Go.Sx