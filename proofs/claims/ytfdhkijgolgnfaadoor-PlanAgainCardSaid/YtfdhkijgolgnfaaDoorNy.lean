/- Part Ny of the proof: a machine with trees for values, its soundness, and walks on it. -/
import Derived.Test.YtfdhkijgolgnfaaDoorNx
section
set_option linter.unusedVariables false
set_option linter.unusedSimpArgs false
namespace Go.Ideal
def fm {α : Type} (f : α → List AV) (xs : List α) : List AV := xs.flatMap f
section
variable {α : Type} {f : α → List AV} {k : Nat} {xs : List α}
@[go_sem] theorem f2m {z y : AV} {zs : List AV} : b8v 1 (z :: y :: zs) = z :: y :: zs := by simp [b8v]
@[go_sem] theorem e5m {zs : List AV} : b8v 0 zs = [] := by simp [b8v]
theorem a9t {x : α} : fm f (x :: xs) = f x ++ fm f xs := rfl
theorem a8p (hf : ∀ x, (f x).length = k) : (fm f xs).length = xs.length * k := by
  induction xs with
  | nil => simp [fm]
  | cons x xs ih => rw [a9t, List.length_append, hf, ih, List.length_cons, Nat.add_mul, Nat.one_mul, Nat.add_comm]
theorem a5p (hf : ∀ x, (f x).length = k) : (fm f xs).take (xs.length * k) = fm f xs := List.take_of_length_le (by rw [a8p hf]; exact Nat.le_refl _)
theorem c1x {ys : List α} : fm f (xs ++ ys) = fm f xs ++ fm f ys := by simp [fm, List.flatMap_append]
theorem b75 (hf : ∀ x, (f x).length = k) {i : Nat} (h : i < xs.length) : ((fm f xs).drop (i * k)).take k = f xs[i] := by
  induction xs generalizing i with
  | nil => simp at h
  | cons x xs ih =>
    rw [a9t]
    cases i with
    | zero => rw [Nat.zero_mul, List.drop_zero, List.take_append_of_le_length (by rw [hf]; exact Nat.le_refl _), List.take_of_length_le (by rw [hf]; exact Nat.le_refl _)]; rfl
    | succ i =>
      rw [Nat.add_mul, Nat.one_mul, List.drop_append, hf, List.drop_of_length_le (by rw [hf]; omega), List.nil_append, Nat.add_sub_cancel]
      rw [ih (by simpa using h)]
      rfl
theorem d75 {a b : List AV} : a1f (a ++ b) = a1f a ++ a1f b := by simp only [d0y, List.map_append]
theorem a9v : a1f (fm f xs) = fm (fun x => a1f (f x)) xs := by
  induction xs with
  | nil => simp [fm, a1f]
  | cons x xs ih => rw [a9t, a9t, d75, ih]
theorem d2h {a b : List AV} : a0i (a ++ b) = (a0i a && a0i b) := by
  induction a with
  | nil => simp [a0i]
  | cons x a ih => simp only [List.cons_append, a0i, ih, Bool.and_assoc]
theorem d26 {a b : List AV} : a08 (a ++ b) = (a08 a && a08 b) := by
  induction a with
  | nil => simp [a08]
  | cons x a ih => simp only [List.cons_append, a08, ih, Bool.and_assoc]
theorem b4b (h : ∀ x, a0i (f x) = true) : a0i (fm f xs) = true := by
  induction xs with
  | nil => simp [fm, a0i]
  | cons x xs ih => rw [a9t, d2h, h, ih]; rfl
theorem b4g (h : ∀ x, a08 (f x) = true) : a08 (fm f xs) = true := by
  induction xs with
  | nil => simp [fm, a08]
  | cons x xs ih => rw [a9t, d26, h, ih]; rfl
end
end Go.Ideal
end
