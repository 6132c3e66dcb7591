/- Part Qaj of the proof: a machine with trees for values, its soundness, and walks on it. -/
import Derived.Test.YtfncabcldhemkaaDoorQai
import Derived.Test.YtfncabcldhemkaaDoorQah
set_option linter.unusedVariables false
set_option linter.unusedSimpArgs false
set_option maxRecDepth 200000
section
namespace Go.Ideal.Tryd
attribute [local go_sem] eD eT eV eI eP
section
variable {G : GG} {bk : Nat -> Nat × Nat} {Q : Exit -> St -> Prop} {st : St}
@[go_sem] theorem f0g {xs : List Tn} {i : Nat} (h : i < xs.length) : ((fm eT xs).drop (i * 3)).take 2 = [slI xs[i].shape, lb xs[i].wide] := d0i (f := eT) (k := 3) (j := 0) (fun _ => rfl) h (by omega)
structure PlB (p : Pl) : Prop where
 views : p.views.length < 2 ^ 30
 consts : p.consts.length < 2 ^ 30
 weights : p.weights.length < 2 ^ 30
 code : p.code.length < 2 ^ 30
 v : ∀ v ∈ p.views, v.shape.length < 2 ^ 30 /\ -4611686018427387904 <= v.off /\ v.off < 4611686018427387904
 c : ∀ v ∈ p.consts, v.shape.length < 2 ^ 30 /\ v.data.length < 2 ^ 30
 w : ∀ v ∈ p.weights, v.shape.length < 2 ^ 30
structure PlL (p : Pl) : Prop where
 views : p.views.length < 2 ^ 30
 consts : p.consts.length < 2 ^ 30
 weights : p.weights.length < 2 ^ 30
 code : p.code.length < 2 ^ 30
 v : ∀ v ∈ p.views, v.shape.length < 2 ^ 30
 c : ∀ v ∈ p.consts, v.shape.length < 2 ^ 30 /\ v.data.length < 2 ^ 30
 w : ∀ v ∈ p.weights, v.shape.length < 2 ^ 30
theorem PlB.l {p : Pl} (h : PlB p) : PlL p := ⟨h.views, h.consts, h.weights, h.code, fun v hv => (h.v v hv).1, h.c, h.w⟩
structure InB (p : Pl) (i : In) : Prop where
 ins : i.ins.length < 2 ^ 30
 args : i.args.length < 2 ^ 30
end
end Go.Ideal.Tryd
end
