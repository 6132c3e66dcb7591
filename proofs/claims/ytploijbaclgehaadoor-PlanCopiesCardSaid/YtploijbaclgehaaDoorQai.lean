/- Part Qai of the proof: walks on a machine that is proved sound. -/
import Derived.Test.YtploijbaclgehaaDoorQag
set_option linter.unusedVariables false
set_option linter.unusedSimpArgs false
set_option maxRecDepth 10000
section
namespace Go.Ideal
section
variable {k:IntKind} {a b:Int}
theorem c4w (h:b≠0):a1f .rem (.int k a) (.int k b)=some (.int k (a.tmod b)):=by simp [a1f,Op.intDiv,h]; rfl
@[go_sem] theorem e83 (h:b≠0):a2e .rem 0 (.lit (.int k a)) (.lit (.int k b))=some (.lit (.int k (a.tmod b))):=a3f (c4w h) rfl
theorem c4v (h:b≠0):a1f .quo (.int k a) (.int k b)=some (.int k (k.wrap (a.tdiv b))):=by simp [a1f,Op.intDiv,h]; rfl
@[go_sem] theorem e82 (h:b≠0):a2e .quo 0 (.lit (.int k a)) (.lit (.int k b))=some (.lit (.int k (k.wrap (a.tdiv b)))):=a3f (c4v h) rfl
end
namespace Tryd
section
variable {G:GG} {bk:Nat->Nat×Nat} {Q:Exit->St->Prop} {st:St}
def b9d (n m:Int):Int:=((n.tmod m)+m).tmod m
theorem b3s {n m:Int} (h:0 < m):0<=b9d n m/\b9d n m < m:=by
 have h1:=Int.lt_tmod_of_pos n h
 unfold b9d
 exact ⟨Int.tmod_nonneg _ (by omega),Int.tmod_lt_of_pos _ h⟩
theorem b3t (n m:Int) (h:0 < m) (h2:m < 2 ^ 62):ACalls pg G a78 [li n,li m] (li (b9d n m)):=by
 refine a62 rfl ?_
 have h1:=Int.lt_tmod_of_pos n h
 have h3:=Int.tmod_lt_of_pos n h
 simp (disch:=omega) [go_sem,a42,b9d]
end
end Tryd
end Go.Ideal
end
