/- Part Qal of the proof: a machine with trees for values, its soundness, and walks on it. -/
import Derived.Test.YtfncabcldhemkaaDoorQak
section
set_option linter.unusedVariables false
set_option linter.unusedSimpArgs false
set_option maxRecDepth 10000
namespace Go.Ideal.Tryd
section
variable {G : GG} {bk : Nat → Nat × Nat} {Q : Exit → St → Prop} {st : St}
theorem d5r (n : Int) : ACalls pg G d3i [li n] (li (max (min n 127) (-128))) := by
  refine b8s rfl ?_
  simp (disch := omega) [go_sem, b5f]
  split <;> split <;> omega
theorem d52 (n : Int) : ACalls pg G d4y [li n] (lb (a2r n)) := by
  refine c38 rfl ?_
  have h : (decide (max (min n 127) (-128) = n)) = a2r n := by
    rw [a2r, ← Bool.decide_and]; exact decide_eq_decide.2 (by omega)
  simp (disch := omega) [go_sem, b8e]
  refine a0d (d5r n) rfl rfl ?_
  simp (disch := omega) [go_sem, h]
theorem e7e (n a b : Int) : ACalls pg G e3a [li n, li a, li b] (lb (decide (a ≤ n) && decide (n ≤ b))) := by
  refine d5w rfl ?_
  by_cases h : a ≤ n <;> simp (disch := omega) [go_sem, d5d, h]
theorem e77 (n : Int) (w : Bool) : ACalls pg G e3c [li n, lb w] (lb (d37 n w)) := by
  refine d6a rfl ?_
  cases w
  · simp (disch := omega) [go_sem, c0g]
    refine a0d (e7e n (-128) 127) rfl rfl ?_
    simp (disch := omega) [go_sem, d37, a2r]
  · simp (disch := omega) [go_sem, c0g]
    refine a0d (e7e n (-2147483648) 2147483647) rfl rfl ?_
    simp (disch := omega) [go_sem, d37]
theorem b68 (n : Int) : ACalls pg G e1d [li n] (lb (a2b n)) := by
  refine d0l rfl ?_
  by_cases h : 4 ≤ n <;> simp (disch := omega) [go_sem, c9f, h, a2b]
theorem a5c (n : Int) (h : 4 ≤ n ∧ n ≤ 11) : ACalls pg G d1o [li n] (.tup [li (a24 n), li (a2i n), lb true]) := by
  refine b9h rfl ?_
  obtain ⟨h1, h2⟩ := h
  obtain rfl | rfl | rfl | rfl | rfl | rfl | rfl | rfl : n = 4 ∨ n = 5 ∨ n = 6 ∨ n = 7 ∨ n = 8 ∨ n = 9 ∨ n = 10 ∨ n = 11 := by omega
  all_goals simp (disch := omega) [go_sem, b58, a24, a2i, a2b]
theorem h2v (n : Int) : ACalls pg G e6q [li n] (li (a24 n)) := by
  refine d6o rfl ?_
  by_cases h : n = 4 ∨ n = 5 ∨ n = 6 ∨ n = 7 ∨ n = 12 ∨ n = 13 ∨ n = 16 ∨ n = 17
  · rcases h with rfl | rfl | rfl | rfl | rfl | rfl | rfl | rfl <;> simp (disch := omega) [go_sem, d1u, a24]
  · have h' := h
    simp only [not_or] at h'
    obtain ⟨a, b, c, d, e, f, g, i⟩ := h'
    simp (disch := omega) [go_sem, d1u, a, b, c, d, e, f, g, i]
    refine a0d (b68 n) rfl rfl ?_
    cases k : a2b n <;> simp (disch := omega) [go_sem, a24, a, b, c, d, e, f, g, i, k]
theorem f9a (n : Int) : ACalls pg G e4z [li n] (li (a2i n)) := by
  refine d6b rfl ?_
  by_cases h : n = 9 ∨ n = 12 ∨ n = 14 ∨ n = 15 ∨ n = 10 ∨ n = 13 ∨ n = 11
  · rcases h with rfl | rfl | rfl | rfl | rfl | rfl | rfl <;> simp (disch := omega) [go_sem, c3z, a2i]
  · simp only [not_or] at h
    obtain ⟨a, b, c, d, e, f, g⟩ := h
    simp (disch := omega) [go_sem, c3z, a2i, a, b, c, d, e, f, g]
end
end Go.Ideal.Tryd
end
