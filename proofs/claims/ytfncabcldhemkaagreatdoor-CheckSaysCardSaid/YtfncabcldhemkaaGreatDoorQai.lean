/- Part Qai of the proof: a machine with trees for values, its soundness, and walks on it. -/
import Derived.Test.YtfncabcldhemkaaGreatDoorQag
set_option linter.unusedVariables false
set_option linter.unusedSimpArgs false
set_option maxRecDepth 10000
section
namespace Go.Ideal
section
variable {k : IntKind} {a b : Int}
theorem d7m (h : b ≠ 0) : a2x .rem (.int k a) (.int k b) = some (.int k (a.tmod b)) := by simp [a2x, Op.intDiv, h]; rfl
@[go_sem] theorem g21 (h : b ≠ 0) : a4e .rem 0 (.lit (.int k a)) (.lit (.int k b)) = some (.lit (.int k (a.tmod b))) := a47 (d7m h) rfl
theorem d7l (h : b ≠ 0) : a2x .quo (.int k a) (.int k b) = some (.int k (k.wrap (a.tdiv b))) := by simp [a2x, Op.intDiv, h]; rfl
@[go_sem] theorem g20 (h : b ≠ 0) : a4e .quo 0 (.lit (.int k a)) (.lit (.int k b)) = some (.lit (.int k (k.wrap (a.tdiv b)))) := a47 (d7l h) rfl
end
namespace Tryz
section
variable {G : GG} {bk : Nat -> Nat × Nat} {Q : Exit -> St -> Prop} {st : St}
end
end Tryz
end Go.Ideal
end
