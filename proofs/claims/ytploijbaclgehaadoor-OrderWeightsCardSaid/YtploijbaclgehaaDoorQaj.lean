/- Part Qaj of the proof: walks on a machine that is proved sound. -/
import Derived.Test.YtploijbaclgehaaDoorQah
set_option linter.unusedVariables false
set_option linter.unusedSimpArgs false
set_option maxRecDepth 10000
section
namespace Go.Ideal
section
variable {k:IntKind} {a b:Int}
theorem c8u (h:b≠0):a1w .rem (.int k a) (.int k b)=some (.int k (a.tmod b)):=by simp [a1w,Op.intDiv,h]; rfl
@[go_sem] theorem f2s (h:b≠0):a22 .rem 0 (.lit (.int k a)) (.lit (.int k b))=some (.lit (.int k (a.tmod b))):=a3r (c8u h) rfl
theorem c8t (h:b≠0):a1w .quo (.int k a) (.int k b)=some (.int k (k.wrap (a.tdiv b))):=by simp [a1w,Op.intDiv,h]; rfl
@[go_sem] theorem f2r (h:b≠0):a22 .quo 0 (.lit (.int k a)) (.lit (.int k b))=some (.lit (.int k (k.wrap (a.tdiv b)))):=a3r (c8t h) rfl
end
namespace Tryd
section
variable {G:GG} {bk:Nat->Nat×Nat} {Q:Exit->St->Prop} {st:St}
def c6z (n m:Int):Int:=((n.tmod m)+m).tmod m
theorem c0i {n m:Int} (h:0 < m):0<=c6z n m/\c6z n m < m:=by
 have h1:=Int.lt_tmod_of_pos n h
 unfold c6z
 exact ⟨Int.tmod_nonneg _ (by omega),Int.tmod_lt_of_pos _ h⟩
theorem c0j (n m:Int) (h:0 < m) (h2:m < 2 ^ 62):ACalls pg G a8g [li n,li m] (li (c6z n m)):=by
 refine a61 rfl ?_
 have h1:=Int.lt_tmod_of_pos n h
 have h3:=Int.tmod_lt_of_pos n h
 simp (disch:=omega) [go_sem,a5a,c6z]
end
end Tryd
end Go.Ideal
end
