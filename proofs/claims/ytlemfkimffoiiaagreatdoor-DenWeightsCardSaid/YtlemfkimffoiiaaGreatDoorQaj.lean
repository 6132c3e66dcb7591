/- Part Qaj of the proof: walks on a machine that is proved sound. -/
import Derived.Test.YtlemfkimffoiiaaGreatDoorQah
set_option linter.unusedVariables false
set_option linter.unusedSimpArgs false
set_option maxRecDepth 10000
section
namespace Go.Ideal
section
variable {k:IntKind} {a b:Int}
theorem d3h (h:b≠0):a1y .rem (.int k a) (.int k b)=some (.int k (a.tmod b)):=by simp [a1y,Op.intDiv,h]; rfl
@[go_sem] theorem f9g (h:b≠0):a28 .rem 0 (.lit (.int k a)) (.lit (.int k b))=some (.lit (.int k (a.tmod b))):=a3x (d3h h) rfl
theorem d3g (h:b≠0):a1y .quo (.int k a) (.int k b)=some (.int k (k.wrap (a.tdiv b))):=by simp [a1y,Op.intDiv,h]; rfl
@[go_sem] theorem f9f (h:b≠0):a28 .quo 0 (.lit (.int k a)) (.lit (.int k b))=some (.lit (.int k (k.wrap (a.tdiv b)))):=a3x (d3g h) rfl
end
namespace Tryz
section
variable {G:GG} {bk:Nat->Nat×Nat} {Q:Exit->St->Prop} {st:St}
def c5b (n m:Int):Int:=((n.tmod m)+m).tmod m
theorem b0r {n m:Int} (h:0 < m):0<=c5b n m/\c5b n m < m:=by
 have h1:=Int.lt_tmod_of_pos n h
 unfold c5b
 exact ⟨Int.tmod_nonneg _ (by omega),Int.tmod_lt_of_pos _ h⟩
theorem b29 (n m:Int) (h:0 < m) (h2:m < 2 ^ 62):ACalls pg G a9b [li n,li m] (li (c5b n m)):=by
 refine a7m rfl ?_
 have h1:=Int.lt_tmod_of_pos n h
 have h3:=Int.tmod_lt_of_pos n h
 simp (disch:=omega) [go_sem,a5l,c5b]
end
end Tryz
end Go.Ideal
end
