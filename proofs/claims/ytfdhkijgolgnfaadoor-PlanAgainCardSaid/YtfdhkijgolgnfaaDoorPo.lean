/- Part Po of the proof: a machine with trees for values, its soundness, and walks on it. -/
import Derived.Test.YtfdhkijgolgnfaaDoorPn
import Derived.Test.YtfdhkijgolgnfaaDoorPb
import Derived.Test.YtfdhkijgolgnfaaDoorPj
section
set_option linter.unusedVariables false
set_option linter.unusedSimpArgs false
set_option maxRecDepth 10000
namespace Go.Ideal.Tryd
deriving instance DecidableEq for Nd
deriving instance DecidableEq for Gr
section
variable {G : Nat → Option Value} {bk : Nat → Nat × Nat} {Q : Exit → St → Prop} {st : St}
end
end Go.Ideal.Tryd
end
section
set_option linter.unusedVariables false
set_option linter.unusedSimpArgs false
set_option maxRecDepth 10000
namespace Go.Ideal
section
variable {k : IntKind} {a b : Int}
theorem d9s (h : b ≠ 0) : a07 .rem (.int k a) (.int k b) = some (.int k (a.tmod b)) := by simp [a07, Op.intDiv, h]; rfl
@[go_sem] theorem g3a (h : b ≠ 0) : a1g .rem 0 (.lit (.int k a)) (.lit (.int k b)) = some (.lit (.int k (a.tmod b))) := a3q (d9s h) rfl
theorem e0t (h : b ≠ 0) : a07 .quo (.int k a) (.int k b) = some (.int k (k.wrap (a.tdiv b))) := by simp [a07, Op.intDiv, h]; rfl
@[go_sem] theorem g38 (h : b ≠ 0) : a1g .quo 0 (.lit (.int k a)) (.lit (.int k b)) = some (.lit (.int k (k.wrap (a.tdiv b)))) := a3q (e0t h) rfl
end
namespace Tryd
section
variable {G : Nat → Option Value} {bk : Nat → Nat × Nat} {Q : Exit → St → Prop} {st : St}
end
end Tryd
end Go.Ideal
end
section
set_option linter.unusedVariables false
set_option linter.unusedSimpArgs false
set_option maxRecDepth 10000
namespace Go.Ideal.Tryd
section
variable {G : Nat → Option Value} {bk : Nat → Nat × Nat} {Q : Exit → St → Prop} {st : St}
end
end Go.Ideal.Tryd
end
