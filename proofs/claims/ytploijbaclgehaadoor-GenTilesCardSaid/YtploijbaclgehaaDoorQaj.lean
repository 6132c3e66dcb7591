/- Part Qaj of the proof: walks on a machine that is proved sound. -/
import Derived.Test.YtploijbaclgehaaDoorQah
set_option linter.unusedVariables false
set_option linter.unusedSimpArgs false
set_option maxRecDepth 10000
section
namespace Go.Ideal
section
variable {k:IntKind} {a b:Int}
theorem d13 (h:b≠0):a1w .rem (.int k a) (.int k b)=some (.int k (a.tmod b)):=by simp [a1w,Op.intDiv,h]; rfl
@[go_sem] theorem f7j (h:b≠0):a27 .rem 0 (.lit (.int k a)) (.lit (.int k b))=some (.lit (.int k (a.tmod b))):=a3u (d13 h) rfl
theorem d12 (h:b≠0):a1w .quo (.int k a) (.int k b)=some (.int k (k.wrap (a.tdiv b))):=by simp [a1w,Op.intDiv,h]; rfl
@[go_sem] theorem f7i (h:b≠0):a27 .quo 0 (.lit (.int k a)) (.lit (.int k b))=some (.lit (.int k (k.wrap (a.tdiv b)))):=a3u (d12 h) rfl
end
namespace Tryd
section
variable {G:GG} {bk:Nat->Nat×Nat} {Q:Exit->St->Prop} {st:St}
def d3p (n m:Int):Int:=((n.tmod m)+m).tmod m
theorem c2m {n m:Int} (h:0 < m):0<=d3p n m/\d3p n m < m:=by
 have h1:=Int.lt_tmod_of_pos n h
 unfold d3p
 exact ⟨Int.tmod_nonneg _ (by omega),Int.tmod_lt_of_pos _ h⟩
theorem c2n (n m:Int) (h:0 < m) (h2:m < 2 ^ 62):ACalls pg G a8y [li n,li m] (li (d3p n m)):=by
 refine a7o rfl ?_
 have h1:=Int.lt_tmod_of_pos n h
 have h3:=Int.tmod_lt_of_pos n h
 simp (disch:=omega) [go_sem,a5i,d3p]
end
end Tryd
end Go.Ideal
end
