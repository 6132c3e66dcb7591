/- Part Qal of the proof: a machine with trees for values, its soundness, and walks on it. -/
import Derived.Test.YtfncabcldhemkaaGreatDoorQak
set_option linter.unusedVariables false
set_option linter.unusedSimpArgs false
set_option maxRecDepth 10000
section
namespace Go.Ideal.Tryz
section
variable {G : GG} {bk : Nat -> Nat × Nat} {Q : Exit -> St -> Prop} {st : St}
theorem c3y (n : Int) : ACalls pg G c06 [li n] (li (max (min n 127) (-128))) := by
 refine b7s rfl ?_
 simp (disch := omega) [go_sem, b5j]
 split <;> split <;> omega
theorem c3x (n : Int) : ACalls pg G c2p [li n] (lb (a1s n)) := by
 refine b8o rfl ?_
 have h : (decide (max (min n 127) (-128) = n)) = a1s n := by
  rw [a1s, <- Bool.decide_and]; exact decide_eq_decide.2 (by omega)
 simp (disch := omega) [go_sem, b6o]
 refine a0b (c3y n) rfl rfl ?_
 simp (disch := omega) [go_sem, h]
theorem d44 (n a b : Int) : ACalls pg G c9x [li n, li a, li b] (lb (decide (a <= n) && decide (n <= b))) := by
 refine c3d rfl ?_
 by_cases h : a <= n <;> simp (disch := omega) [go_sem, c3c, h]
theorem d5e (n : Int) (w : Bool) : ACalls pg G c9y [li n, lb w] (lb (b9h n w)) := by
 refine c3e rfl ?_
 cases w
 ·simp (disch := omega) [go_sem, b8d]
  refine a0b (d44 n (-128) 127) rfl rfl ?_
  simp (disch := omega) [go_sem, b9h, a1s]
 ·simp (disch := omega) [go_sem, b8d]
  refine a0b (d44 n (-2147483648) 2147483647) rfl rfl ?_
  simp (disch := omega) [go_sem, b9h]
theorem b54 (n : Int) : ACalls pg G c8c [li n] (lb (a0x n)) := by
 refine c1u rfl ?_
 by_cases h : 4 <= n <;> simp (disch := omega) [go_sem, c0i, h, a0x]
theorem a6l (n : Int) (h : 4 <= n /\ n <= 11) : ACalls pg G c0z [li n] (.tup [li (a1x n), li (a1c n), lb true]) := by
 refine b7k rfl ?_
 obtain ⟨h1, h2⟩ := h
 obtain rfl | rfl | rfl | rfl | rfl | rfl | rfl | rfl : n = 4 \/ n = 5 \/ n = 6 \/ n = 7 \/ n = 8 \/ n = 9 \/ n = 10 \/ n = 11 := by omega
 all_goals simp (disch := omega) [go_sem, b4n, a1x, a1c, a0x]
theorem f81 (n : Int) : ACalls pg G d3z [li n] (li (a1x n)) := by
 refine c6p rfl ?_
 by_cases h : n = 4 \/ n = 5 \/ n = 6 \/ n = 7 \/ n = 12 \/ n = 13 \/ n = 16 \/ n = 17
 ·rcases h with rfl | rfl | rfl | rfl | rfl | rfl | rfl | rfl <;> simp (disch := omega) [go_sem, c1t, a1x]
 ·have h' := h
  simp only [not_or] at h'
  obtain ⟨a, b, c, d, e, f, g, i⟩ := h'
  simp (disch := omega) [go_sem, c1t, a, b, c, d, e, f, g, i]
  refine a0b (b54 n) rfl rfl ?_
  cases k : a0x n <;> simp (disch := omega) [go_sem, a1x, a, b, c, d, e, f, g, i, k]
theorem e32 (n : Int) : ACalls pg G c9z [li n] (li (a1c n)) := by
 refine c32 rfl ?_
 by_cases h : n = 9 \/ n = 12 \/ n = 14 \/ n = 15 \/ n = 10 \/ n = 13 \/ n = 11
 ·rcases h with rfl | rfl | rfl | rfl | rfl | rfl | rfl <;> simp (disch := omega) [go_sem, b8u, a1c]
 ·simp only [not_or] at h
  obtain ⟨a, b, c, d, e, f, g⟩ := h
  simp (disch := omega) [go_sem, b8u, a1c, a, b, c, d, e, f, g]
end
end Go.Ideal.Tryz
end
