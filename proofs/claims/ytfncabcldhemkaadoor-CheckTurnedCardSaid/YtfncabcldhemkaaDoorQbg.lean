/- Part Qbg of the proof: a machine with trees for values, its soundness, and walks on it. -/
import Derived.Test.YtfncabcldhemkaaDoorQbf
import Derived.Test.YtfncabcldhemkaaDoorQaj
import Derived.Test.YtfncabcldhemkaaDoorQaq
section
set_option linter.unusedVariables false
set_option linter.unusedSimpArgs false
set_option maxRecDepth 200000
namespace Go.Ideal.Tryd
attribute [local go_sem] eD eT eV eI eP
section
variable {G : GG} {bk : Nat → Nat × Nat} {Q : Exit → St → Prop} {st : St}
theorem a9u (sh : List Int) (w : Bool) (h : sh.length < 2 ^ 62) : ACalls pg G b8z [.agg [slI sh, lb w]] (li (a05 sh w)) := by
  have hr := b2d sh
  refine b3u rfl ?_
  simp (disch := omega) [go_sem, b0s]
  refine a0d (e43 sh h) rfl rfl ?_
  cases w
  · simp (disch := omega) [go_sem, a05]
  · simp (disch := omega) [go_sem, a05, Int.mul_comm]
def b53 (d : Int) : Pl := ⟨8, [⟨0, [2], false⟩, ⟨4, [2], false⟩], [], [], [⟨4, d, [0, 0], [], 0, 2⟩], 0, 1⟩
theorem e8t (d : Int) : ACalls pg G a9q [li d] (.agg (eP (b53 d))) := by
  refine ACalls.shown (res := .agg [li 8, .own 3 2 [li 0, .sl 1 [li 2], lb false, li 4, .sl 1 [li 2], lb false], .own 3 0 [], .own 2 0 [], .own 6 1 [li 4, li d, .own 1 2 [li 0, li 0], .own 1 0 [], li 0, li 2], li 0, li 1]) ?_ (by rfl)
  refine a5m rfl ?_
  simp (disch := omega) [go_sem, a4r, a95, a0l]
theorem e8d (d : Int) : PlB (b53 d) := ⟨by simp [b53], by simp [b53], by simp [b53], by simp [b53], by simp [b53], by simp [b53], by simp [b53]⟩
theorem e8f (d : Int) : ∀ i ∈ (b53 d).code, InB (b53 d) i := by
  intro i h
  simp only [b53, List.mem_singleton] at h
  subst h
  exact ⟨by simp, by simp⟩
theorem a22 (hS : Sent G bk) (hA : Around G bk) {p : Pl} (hp : PlL p) (hi : ∀ i ∈ p.code, InB p i) : ACalls pg G b0f [.agg (eP p)] (a0m bk (a5n p)) := f0b hS hA hp hi (e9h hS hA hp)
theorem d9g (hS : Sent G bk) (hA : Around G bk) {p : Pl} (hp : PlL p) (hi : ∀ i ∈ p.code, InB p i) : ACalls pg G b46 [.agg (eP p)] (.tup [li (if (a5n p).isNil = true then b27 p else 0), a0m bk (a5n p)]) := e9e hS hp hi (a22 hS hA hp hi)
theorem d06 (hS : Sent G bk) (hA : Around G bk) : ACalls pg G b5b [] (lb true) := by
  have v1 : a5n (b53 1) = .nil := by rfl
  have v0 : a5n (b53 0) = .at 0 (.s 8) := by rfl
  have c1 := a22 hS hA (e8d 1).l (e8f 1)
  have c0 := a22 hS hA (e8d 0).l (e8f 0)
  rw [v1] at c1
  rw [v0] at c0
  refine b2a rfl ?_
  simp (disch := omega) [go_sem, a7t]
  refine a0f (e8t 1) (by simp [go_sem, a0r]) (by simp (disch := omega) [go_sem]) ?_
  simp (disch := omega) [go_sem]
  refine a0f c1 (a0h _) (by simp (disch := omega) [go_sem]) ?_
  simp (disch := omega) [go_sem, Er.isNil]
  refine a0f (e8t 0) (by simp [go_sem, a0r]) (by simp (disch := omega) [go_sem]) ?_
  simp (disch := omega) [go_sem]
  refine a0f c0 (a0h _) (by simp (disch := omega) [go_sem]) ?_
  simp (disch := omega) [go_sem]
  have hp := a3v G 108 0
  rw [if_neg (by decide)] at hp
  refine a0d hp rfl rfl ?_
  simp (disch := omega) [go_sem]
  refine a0f (b0t hS (e := .at 0 (.s 8)) (by constructor; decide) (108, true, 0)) rfl (by simp (disch := omega) [go_sem]) ?_
  simp (disch := omega) [go_sem]
  rfl
end
end Go.Ideal.Tryd
end
