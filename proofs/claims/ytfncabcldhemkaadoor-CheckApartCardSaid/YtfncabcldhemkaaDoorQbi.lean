/- Part Qbi of the proof: a machine with trees for values, its soundness, and walks on it. -/
import Derived.Test.YtfncabcldhemkaaDoorQbh
import Derived.Test.YtfncabcldhemkaaDoorQaq
section
set_option linter.unusedVariables false
set_option linter.unusedSimpArgs false
set_option maxRecDepth 200000
namespace Go.Ideal.Tryd
attribute [local go_sem] eD eT eV eI eP
section
variable {G : GG} {bk : Nat → Nat × Nat} {Q : Exit → St → Prop} {st : St}
theorem e8s {k : Int} (h : 1 ≤ k ∧ k ≤ 60) (w : Bool) : 1 ≤ a05 [k] w ∧ a05 [k] w ≤ 240 := by
  have e : a23 [k] = k := by
    have : c9w [k] = true := by simp [c9w, a26, a3t]; omega
    simp [a23, this, a3t]
  unfold a05
  rw [e]
  split <;> omega
theorem e0m {x : Vw} (h : 1 ≤ a05 x.shape x.wide) : a3j x x = false := by
  unfold a3j
  rw [decide_eq_false (by omega)]; rfl
theorem e11 {x y : Vw} : a3j x y = a3j y x := Bool.or_comm _ _
set_option maxHeartbeats 8000000 in
theorem d6v (hS : Sent G bk) (hA : Around G bk) (a b m n : Int) (u v : Bool) : ACalls pg G b0a [li a, li b, li m, li n, lb u, lb v] (lb true) := by
  have ra := a40 (n := a) (m := 300) (by decide)
  have rb := a40 (n := b) (m := 300) (by decide)
  have rm := a40 (n := m) (m := 60) (by decide)
  have rn := a40 (n := n) (m := 60) (by decide)
  have sx := e8s (k := c91 m 60 + 1) (by omega) u
  have sy := e8s (k := c91 n 60 + 1) (by omega) v
  refine a7c rfl ?_
  simp (disch := omega) [go_sem, a4b]
  refine a0d (d06 hS hA) rfl rfl ?_
  simp (disch := omega) [go_sem]
  refine a0d (a4t a 300 (by decide) (by decide)) rfl rfl ?_
  simp (disch := omega) [go_sem]
  refine a0d (a4t m 60 (by decide) (by decide)) rfl rfl ?_
  simp (disch := omega) [go_sem, a95, a0l]
  refine a0d (a4t b 300 (by decide) (by decide)) rfl rfl ?_
  simp (disch := omega) [go_sem]
  refine a0d (a4t n 60 (by decide) (by decide)) rfl rfl ?_
  simp (disch := omega) [go_sem, a95, a0l]
  generalize hX : c91 a 300 = A at *
  generalize hY : c91 b 300 = B at *
  generalize hM : c91 m 60 + 1 = M at *
  generalize hN : c91 n 60 + 1 = N at *
  refine h0p (x := ⟨A, [M], u⟩) (y := ⟨B, [N], v⟩) (by simp) (by simp) ra rb sx sy (by simp (disch := omega) [go_sem]) (fun s h => ?_)
  have hXY := c0f (G := G) hS.five.three ⟨A, [M], u⟩ ⟨B, [N], v⟩ (by simp) (by simp) ⟨by simp only; omega, by simp only; omega⟩ ⟨by simp only; omega, by simp only; omega⟩
  have hYX := c0f (G := G) hS.five.three ⟨B, [N], v⟩ ⟨A, [M], u⟩ (by simp) (by simp) ⟨by simp only; omega, by simp only; omega⟩ ⟨by simp only; omega, by simp only; omega⟩
  have hXX := c0f (G := G) hS.five.three ⟨A, [M], u⟩ ⟨A, [M], u⟩ (by simp) (by simp) ⟨by simp only; omega, by simp only; omega⟩ ⟨by simp only; omega, by simp only; omega⟩
  rw [e11] at hYX
  rw [e0m sx.1] at hXX
  generalize a3j ⟨A, [M], u⟩ ⟨B, [N], v⟩ = z at *
  simp (disch := omega) [go_sem, h]
  refine a0d hXY rfl rfl ?_
  simp (disch := omega) [go_sem, h]
  refine a0d hYX rfl rfl ?_
  simp (disch := omega) [go_sem, h]
  refine a0d hXX rfl rfl ?_
  simp (disch := omega) [go_sem, h]
end
end Go.Ideal.Tryd
end
