/- Part Ny of the proof: a machine with trees for values, its soundness, and walks on it. -/
import Derived.Test.YtfdhkijgolgnfaaDoorNx

section
set_option linter.unusedVariables false
set_option linter.unusedSimpArgs false
namespace Go.Ideal
/-! ### rows of structs -/
/-- The cells of a row whose elements take several cells each. -/
def fm {α : Type} (f : α → List AV) (xs : List α) : List AV := xs.flatMap f
section
variable {α : Type} {f : α → List AV} {k : Nat} {xs : List α}
@[go_sem] theorem repl_one {z y : AV} {zs : List AV} : repl 1 (z :: y :: zs) = z :: y :: zs := by simp [repl]
@[go_sem] theorem repl_zero {zs : List AV} : repl 0 zs = [] := by simp [repl]
theorem fm_cons {x : α} : fm f (x :: xs) = f x ++ fm f xs := rfl
theorem fm_len (hf : ∀ x, (f x).length = k) : (fm f xs).length = xs.length * k := by
  induction xs with
  | nil => simp [fm]
  | cons x xs ih => rw [fm_cons, List.length_append, hf, ih, List.length_cons, Nat.add_mul, Nat.one_mul, Nat.add_comm]
theorem fm_take (hf : ∀ x, (f x).length = k) : (fm f xs).take (xs.length * k) = fm f xs := List.take_of_length_le (by rw [fm_len hf]; exact Nat.le_refl _)
theorem fm_app {ys : List α} : fm f (xs ++ ys) = fm f xs ++ fm f ys := by simp [fm, List.flatMap_append]
theorem fm_get (hf : ∀ x, (f x).length = k) {i : Nat} (h : i < xs.length) : ((fm f xs).drop (i * k)).take k = f xs[i] := by
  induction xs generalizing i with
  | nil => simp at h
  | cons x xs ih =>
    rw [fm_cons]
    cases i with
    | zero => rw [Nat.zero_mul, List.drop_zero, List.take_append_of_le_length (by rw [hf]; exact Nat.le_refl _), List.take_of_length_le (by rw [hf]; exact Nat.le_refl _)]; rfl
    | succ i =>
      rw [Nat.add_mul, Nat.one_mul, List.drop_append, hf, List.drop_of_length_le (by rw [hf]; omega), List.nil_append, Nat.add_sub_cancel]
      rw [ih (by simpa using h)]
      rfl
theorem frzL_app {a b : List AV} : frzL (a ++ b) = frzL a ++ frzL b := by simp only [frzL_eq, List.map_append]
theorem fm_frz : frzL (fm f xs) = fm (fun x => frzL (f x)) xs := by
  induction xs with
  | nil => simp [fm, frzL]
  | cons x xs ih => rw [fm_cons, fm_cons, frzL_app, ih]
theorem noOwnL_app {a b : List AV} : noOwnL (a ++ b) = (noOwnL a && noOwnL b) := by
  induction a with
  | nil => simp [noOwnL]
  | cons x a ih => simp only [List.cons_append, noOwnL, ih, Bool.and_assoc]
theorem noImmL_app {a b : List AV} : noImmL (a ++ b) = (noImmL a && noImmL b) := by
  induction a with
  | nil => simp [noImmL]
  | cons x a ih => simp only [List.cons_append, noImmL, ih, Bool.and_assoc]
theorem fm_noOwn (h : ∀ x, noOwnL (f x) = true) : noOwnL (fm f xs) = true := by
  induction xs with
  | nil => simp [fm, noOwnL]
  | cons x xs ih => rw [fm_cons, noOwnL_app, h, ih]; rfl
theorem fm_noImm (h : ∀ x, noImmL (f x) = true) : noImmL (fm f xs) = true := by
  induction xs with
  | nil => simp [fm, noImmL]
  | cons x xs ih => rw [fm_cons, noImmL_app, h, ih]; rfl
end
end Go.Ideal
end
