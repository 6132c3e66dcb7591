/- Part Po of the proof: a machine with trees for values, its soundness, and walks on it. -/
import Derived.Test.YtfdhkijgolgnfaaGreatDoorPn
import Derived.Test.YtfdhkijgolgnfaaGreatDoorPb
import Derived.Test.YtfdhkijgolgnfaaGreatDoorPj
section
set_option linter.unusedVariables false
set_option linter.unusedSimpArgs false
set_option maxRecDepth 10000
namespace Go.Ideal.Tryz
deriving instance DecidableEq for Nd
deriving instance DecidableEq for Gr
section
variable {G : Nat → Option Value} {bk : Nat → Nat × Nat} {Q : Exit → St → Prop} {st : St}
theorem e73 (a : List Int) (hn : a.length < 2 ^ 40) : ACalls pg G c3d [slU a] (owU a) := by
  refine b61 rfl ?_
  simp (disch := omega) [go_sem, b1n]
  refine a0u (Nat × List Int) (fun p st => p.1 ≤ a.length ∧ p.2 ++ a.drop p.1 = a ∧ p.2.length = p.1 ∧ st.s 0 = slU a ∧ st.s 3 = owU p.2 ∧ st.s 4 = li p.1) (fun p => a.length - p.1) (0, []) ⟨by simp, rfl, rfl, by simp (disch := omega) [go_sem]⟩ ?_
  rintro ⟨i, ys⟩ st K ⟨hi, hm, hl, h⟩ hK
  simp only at hi hm hl h
  by_cases hlt : i < a.length
  · rw [List.drop_eq_getElem_cons hlt, List.append_cons] at hm
    simp (disch := omega) [go_sem, a40, h, hlt]
    exact hK (i + 1, ys ++ [a[i]]) _ ⟨by simp only; omega, hm, by simp [hl], by simp (disch := omega) [go_sem, h]⟩ (by simp only; omega)
  · obtain rfl : i = a.length := by omega
    rw [List.drop_length, List.append_nil] at hm
    subst hm
    simp (disch := omega) [go_sem, a40, h]
theorem h85 (hS : Sent G bk) {e : Er} (he : e.ok) (k : Int) : ACalls pg G d3k [a1j bk e, li k] (lb (decide (e.flt = (k, false, 0)))) := by
  refine c3e rfl ?_
  simp (disch := omega) [go_sem, c0q]
  refine a0g (e83 k) rfl rfl ?_
  simp (disch := omega) [go_sem]
  refine a3b (e9g hS he (k, false, 0)) rfl (by simp (disch := omega) [go_sem]) ?_
  simp (disch := omega) [go_sem]
end
end Go.Ideal.Tryz
end
section
set_option linter.unusedVariables false
set_option linter.unusedSimpArgs false
set_option maxRecDepth 10000
namespace Go.Ideal
section
variable {k : IntKind} {a b : Int}
theorem f1y (h : b ≠ 0) : a1d .rem (.int k a) (.int k b) = some (.int k (a.tmod b)) := by simp [a1d, Op.intDiv, h]; rfl
@[go_sem] theorem h7r (h : b ≠ 0) : a1o .rem 0 (.lit (.int k a)) (.lit (.int k b)) = some (.lit (.int k (a.tmod b))) := a4k (f1y h) rfl
theorem e90 (h : b ≠ 0) : a1d .quo (.int k a) (.int k b) = some (.int k (k.wrap (a.tdiv b))) := by simp [a1d, Op.intDiv, h]; rfl
@[go_sem] theorem h5h (h : b ≠ 0) : a1o .quo 0 (.lit (.int k a)) (.lit (.int k b)) = some (.lit (.int k (k.wrap (a.tdiv b)))) := a4k (e90 h) rfl
end
namespace Tryz
section
variable {G : Nat → Option Value} {bk : Nat → Nat × Nat} {Q : Exit → St → Prop} {st : St}
def f9z (n m : Int) : Int := ((n.tmod m) + m).tmod m
theorem e7y {n m : Int} (h : 0 < m) : 0 ≤ f9z n m ∧ f9z n m < m := by
  have h1 := Int.lt_tmod_of_pos n h
  unfold f9z
  exact ⟨Int.tmod_nonneg _ (by omega), Int.tmod_lt_of_pos _ h⟩
theorem e7r (n m : Int) (h : 0 < m) (h2 : m < 2 ^ 62) : ACalls pg G b7m [li n, li m] (li (f9z n m)) := by
  refine b16 rfl ?_
  have h1 := Int.lt_tmod_of_pos n h
  have h3 := Int.tmod_lt_of_pos n h
  simp (disch := omega) [go_sem, a6x, f9z]
end
end Tryz
end Go.Ideal
end
section
set_option linter.unusedVariables false
set_option linter.unusedSimpArgs false
set_option maxRecDepth 10000
namespace Go.Ideal.Tryz
theorem a9h (k : Int) : a1l (le2 k) := by
  intro x hx
  simp only [le2, List.mem_cons, List.not_mem_nil, or_false] at hx
  rcases hx with rfl | rfl <;> simp only [c3q] <;> omega
theorem a1h (w : Bool) (k : Int) : a1l (a45 w k) := by
  intro x hx
  unfold a45 at hx
  split at hx
  · simp only [List.mem_cons, List.not_mem_nil, or_false] at hx
    rcases hx with rfl | rfl | rfl | rfl <;> simp only [c3q] <;> omega
  · simp only [List.mem_cons, List.not_mem_nil, or_false] at hx
    rw [hx, c3q]; omega
theorem a0t {a b : List Int} (ha : a1l a) (hb : a1l b) : a1l (a ++ b) := fun x hx => (List.mem_append.1 hx).elim (ha x) (hb x)
theorem a12 {α : Type} {f : α → List Int} {l : List α} (h : ∀ x ∈ l, a1l (f x)) : a1l (l.flatMap f) := fun x hx => by
  obtain ⟨y, hy, hx⟩ := List.mem_flatMap.1 hx
  exact h y hy x hx
theorem b4n (k : Int) : a1l [u8 k] := fun x hx => by
  simp only [List.mem_singleton] at hx
  rw [hx, c3q]; omega
theorem d6u (sh : List Int) (w : Bool) (d : List Int) : a1l (a3a sh w d) := by
  unfold a3a a3e c22
  exact a0t (a0t (a := [_]) (b4n _) (a12 fun k _ => a9h k)) (a12 fun k _ => a1h w k)
section
variable {G : Nat → Option Value} {bk : Nat → Nat × Nat} {Q : Exit → St → Prop} {st : St}
end
end Go.Ideal.Tryz
end
