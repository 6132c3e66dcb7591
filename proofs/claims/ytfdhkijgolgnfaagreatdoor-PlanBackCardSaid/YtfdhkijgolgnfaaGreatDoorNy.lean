/- Part Ny of the proof: a machine with trees for values, its soundness, and walks on it. -/
import Derived.Test.YtfdhkijgolgnfaaGreatDoorNx
section
set_option linter.unusedVariables false
set_option linter.unusedSimpArgs false
namespace Go.Ideal
def fm {α : Type} (f : α → List AV) (xs : List α) : List AV := xs.flatMap f
section
variable {α : Type} {f : α → List AV} {k : Nat} {xs : List α}
@[go_sem] theorem g77 {z y : AV} {zs : List AV} : c6h 1 (z :: y :: zs) = z :: y :: zs := by simp [c6h]
@[go_sem] theorem f9i {zs : List AV} : c6h 0 zs = [] := by simp [c6h]
theorem b2t {x : α} : fm f (x :: xs) = f x ++ fm f xs := rfl
theorem b1o (hf : ∀ x, (f x).length = k) : (fm f xs).length = xs.length * k := by
  induction xs with
  | nil => simp [fm]
  | cons x xs ih => rw [b2t, List.length_append, hf, ih, List.length_cons, Nat.add_mul, Nat.one_mul, Nat.add_comm]
theorem a6t (hf : ∀ x, (f x).length = k) : (fm f xs).take (xs.length * k) = fm f xs := List.take_of_length_le (by rw [b1o hf]; exact Nat.le_refl _)
theorem c9h {ys : List α} : fm f (xs ++ ys) = fm f xs ++ fm f ys := by simp [fm, List.flatMap_append]
theorem c4c (hf : ∀ x, (f x).length = k) {i : Nat} (h : i < xs.length) : ((fm f xs).drop (i * k)).take k = f xs[i] := by
  induction xs generalizing i with
  | nil => simp at h
  | cons x xs ih =>
    rw [b2t]
    cases i with
    | zero => rw [Nat.zero_mul, List.drop_zero, List.take_append_of_le_length (by rw [hf]; exact Nat.le_refl _), List.take_of_length_le (by rw [hf]; exact Nat.le_refl _)]; rfl
    | succ i =>
      rw [Nat.add_mul, Nat.one_mul, List.drop_append, hf, List.drop_of_length_le (by rw [hf]; omega), List.nil_append, Nat.add_sub_cancel]
      rw [ih (by simpa using h)]
      rfl
theorem e6v {a b : List AV} : a1n (a ++ b) = a1n a ++ a1n b := by simp only [d1u, List.map_append]
theorem b2l : a1n (fm f xs) = fm (fun x => a1n (f x)) xs := by
  induction xs with
  | nil => simp [fm, a1n]
  | cons x xs ih => rw [b2t, b2t, e6v, ih]
theorem e10 {a b : List AV} : a0j (a ++ b) = (a0j a && a0j b) := by
  induction a with
  | nil => simp [a0j]
  | cons x a ih => simp only [List.cons_append, a0j, ih, Bool.and_assoc]
theorem e2r {a b : List AV} : a1e (a ++ b) = (a1e a && a1e b) := by
  induction a with
  | nil => simp [a1e]
  | cons x a ih => simp only [List.cons_append, a1e, ih, Bool.and_assoc]
theorem b9j (h : ∀ x, a0j (f x) = true) : a0j (fm f xs) = true := by
  induction xs with
  | nil => simp [fm, a0j]
  | cons x xs ih => rw [b2t, e10, h, ih]; rfl
theorem b98 (h : ∀ x, a1e (f x) = true) : a1e (fm f xs) = true := by
  induction xs with
  | nil => simp [fm, a1e]
  | cons x xs ih => rw [b2t, e2r, h, ih]; rfl
end
end Go.Ideal
end
