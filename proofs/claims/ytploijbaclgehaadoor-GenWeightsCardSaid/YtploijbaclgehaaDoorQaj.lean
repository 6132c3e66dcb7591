/- Part Qaj of the proof: walks on a machine that is proved sound. -/
import Derived.Test.YtploijbaclgehaaDoorQah
set_option linter.unusedVariables false
set_option linter.unusedSimpArgs false
set_option maxRecDepth 10000
section
namespace Go.Ideal
section
variable {k:IntKind} {a b:Int}
theorem d41 (h:b≠0):a13 .rem (.int k a) (.int k b)=some (.int k (a.tmod b)):=by simp [a13,Op.intDiv,h]; rfl
@[go_sem] theorem g09 (h:b≠0):a3g .rem 0 (.lit (.int k a)) (.lit (.int k b))=some (.lit (.int k (a.tmod b))):=a36 (d41 h) rfl
theorem d40 (h:b≠0):a13 .quo (.int k a) (.int k b)=some (.int k (k.wrap (a.tdiv b))):=by simp [a13,Op.intDiv,h]; rfl
@[go_sem] theorem g08 (h:b≠0):a3g .quo 0 (.lit (.int k a)) (.lit (.int k b))=some (.lit (.int k (k.wrap (a.tdiv b)))):=a36 (d40 h) rfl
end
namespace Tryd
section
variable {G:GG} {bk:Nat->Nat×Nat} {Q:Exit->St->Prop} {st:St}
def c22 (n m:Int):Int:=((n.tmod m)+m).tmod m
theorem b3l {n m:Int} (h:0 < m):0<=c22 n m/\c22 n m < m:=by
 have h1:=Int.lt_tmod_of_pos n h
 unfold c22
 exact ⟨Int.tmod_nonneg _ (by omega),Int.tmod_lt_of_pos _ h⟩
theorem b3m (n m:Int) (h:0 < m) (h2:m < 2 ^ 62):ACalls pg G a9s [li n,li m] (li (c22 n m)):=by
 refine a8h rfl ?_
 have h1:=Int.lt_tmod_of_pos n h
 have h3:=Int.tmod_lt_of_pos n h
 simp (disch:=omega) [go_sem,a57,c22]
end
end Tryd
end Go.Ideal
end
