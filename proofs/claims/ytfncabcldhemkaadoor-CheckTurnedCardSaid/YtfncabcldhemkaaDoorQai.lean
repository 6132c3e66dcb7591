/- Part Qai of the proof: a machine with trees for values, its soundness, and walks on it. -/
import Derived.Test.YtfncabcldhemkaaDoorQag
section
set_option linter.unusedVariables false
set_option linter.unusedSimpArgs false
set_option maxRecDepth 10000
namespace Go.Ideal
section
variable {k : IntKind} {a b : Int}
theorem f07 (h : b ≠ 0) : a16 .rem (.int k a) (.int k b) = some (.int k (a.tmod b)) := by simp [a16, Op.intDiv, h]; rfl
@[go_sem] theorem h5t (h : b ≠ 0) : a3o .rem 0 (.lit (.int k a)) (.lit (.int k b)) = some (.lit (.int k (a.tmod b))) := a4e (f07 h) rfl
theorem f08 (h : b ≠ 0) : a16 .quo (.int k a) (.int k b) = some (.int k (k.wrap (a.tdiv b))) := by simp [a16, Op.intDiv, h]; rfl
@[go_sem] theorem h4u (h : b ≠ 0) : a3o .quo 0 (.lit (.int k a)) (.lit (.int k b)) = some (.lit (.int k (k.wrap (a.tdiv b)))) := a4e (f08 h) rfl
end
namespace Tryd
section
variable {G : GG} {bk : Nat → Nat × Nat} {Q : Exit → St → Prop} {st : St}
def c91 (n m : Int) : Int := ((n.tmod m) + m).tmod m
theorem a40 {n m : Int} (h : 0 < m) : 0 ≤ c91 n m ∧ c91 n m < m := by
  have h1 := Int.lt_tmod_of_pos n h
  unfold c91
  exact ⟨Int.tmod_nonneg _ (by omega), Int.tmod_lt_of_pos _ h⟩
theorem a4t (n m : Int) (h : 0 < m) (h2 : m < 2 ^ 62) : ACalls pg G b38 [li n, li m] (li (c91 n m)) := by
  refine b07 rfl ?_
  have h1 := Int.lt_tmod_of_pos n h
  have h3 := Int.tmod_lt_of_pos n h
  simp (disch := omega) [go_sem, a58, c91]
end
end Tryd
end Go.Ideal
end
