/- Part Qai of the proof: walks on a machine that is proved sound. -/
import Derived.Test.YtlemfkimffoiiaaDoorQah
set_option linter.unusedVariables false
set_option linter.unusedSimpArgs false
set_option maxRecDepth 10000
section
namespace Go.Ideal
section
variable {k:IntKind} {a b:Int}
theorem d1b (h:b≠0):a1y .rem (.int k a) (.int k b)=some (.int k (a.tmod b)):=by simp [a1y,Op.intDiv,h]; rfl
@[go_sem] theorem f6v (h:b≠0):a3c .rem 0 (.lit (.int k a)) (.lit (.int k b))=some (.lit (.int k (a.tmod b))):=a3x (d1b h) rfl
theorem d1a (h:b≠0):a1y .quo (.int k a) (.int k b)=some (.int k (k.wrap (a.tdiv b))):=by simp [a1y,Op.intDiv,h]; rfl
@[go_sem] theorem f6u (h:b≠0):a3c .quo 0 (.lit (.int k a)) (.lit (.int k b))=some (.lit (.int k (k.wrap (a.tdiv b)))):=a3x (d1a h) rfl
end
namespace Tryd
section
variable {G:GG} {bk:Nat->Nat×Nat} {Q:Exit->St->Prop} {st:St}
def c5y (n m:Int):Int:=((n.tmod m)+m).tmod m
theorem b1z {n m:Int} (h:0 < m):0<=c5y n m/\c5y n m < m:=by
 have h1:=Int.lt_tmod_of_pos n h
 unfold c5y
 exact ⟨Int.tmod_nonneg _ (by omega),Int.tmod_lt_of_pos _ h⟩
theorem b52 (n m:Int) (h:0 < m) (h2:m < 2 ^ 62):ACalls pg G a8k [li n,li m] (li (c5y n m)):=by
 refine a67 rfl ?_
 have h1:=Int.lt_tmod_of_pos n h
 have h3:=Int.tmod_lt_of_pos n h
 simp (disch:=omega) [go_sem,a5f,c5y]
end
end Tryd
end Go.Ideal
end
