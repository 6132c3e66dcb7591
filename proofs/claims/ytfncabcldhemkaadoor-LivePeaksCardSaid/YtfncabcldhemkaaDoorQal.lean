/- Part Qal of the proof: a machine with trees for values, its soundness, and walks on it. -/
import Derived.Test.YtfncabcldhemkaaDoorQak
import Derived.Test.YtfncabcldhemkaaDoorQai
set_option linter.unusedVariables false
set_option linter.unusedSimpArgs false
set_option maxRecDepth 200000
section
namespace Go.Ideal.Tryd
attribute [local go_sem] eD eT eV eI eP
section
variable {G : GG} {bk : Nat -> Nat × Nat} {Q : Exit -> St -> Prop} {st : St}
@[go_sem] theorem g1b {xs : List Vw} {i : Nat} (h : i < xs.length) : (fm eV xs)[i * 3 + 1]? = some (slI xs[i].shape) := b99 (f := eV) (k := 3) (j := 1) (fun _ => rfl) h (by omega)
end
end Go.Ideal.Tryd
end
