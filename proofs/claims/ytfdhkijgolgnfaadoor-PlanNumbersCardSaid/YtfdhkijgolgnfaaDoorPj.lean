/- Part Pj of the proof: a machine with trees for values, its soundness, and walks on it. -/
import Derived.Test.YtfdhkijgolgnfaaDoorPi
import Derived.Test.YtfdhkijgolgnfaaDoorPb

section
set_option linter.unusedVariables false
set_option linter.unusedSimpArgs false
set_option maxRecDepth 10000
namespace Go.Ideal
theorem fm_at {α : Type} {f : α → List AV} {k : Nat} {xs : List α} (hf : ∀ x, (f x).length = k) {i j : Nat} (h : i < xs.length) (hj : j < k) : (fm f xs)[i * k + j]? = (f xs[i])[j]? := by
  have h1 := fm_get (f := f) (k := k) hf h
  rw [← h1, List.getElem?_take, if_pos hj, List.getElem?_drop]
theorem fm_sub {α : Type} {f : α → List AV} {k : Nat} {xs : List α} (hf : ∀ x, (f x).length = k) {i j m : Nat} (h : i < xs.length) (hj : j + m ≤ k) : ((fm f xs).drop (i * k + j)).take m = ((f xs[i]).drop j).take m := by
  have h1 := fm_get (f := f) (k := k) hf h
  rw [← h1, List.drop_take, List.take_take, List.drop_drop, Nat.min_eq_left (by omega)]
namespace Tryd
section
variable {xs : List Nd} {i : Nat}
@[go_sem] theorem encN_0 (h : i < xs.length) : (fm encN xs)[i * 6]? = some (li xs[i].op) := fm_at (f := encN) (k := 6) (j := 0) (fun _ => rfl) h (by omega)
@[go_sem] theorem encN_1 (h : i < xs.length) : (fm encN xs)[i * 6 + 1]? = some (slI xs[i].ins) := fm_at (f := encN) (k := 6) (fun _ => rfl) h (by omega)
@[go_sem] theorem encN_2 (h : i < xs.length) : (fm encN xs)[i * 6 + 2]? = some (slI xs[i].args) := fm_at (f := encN) (k := 6) (fun _ => rfl) h (by omega)
@[go_sem] theorem encN_t (h : i < xs.length) : ((fm encN xs).drop (i * 6 + 3)).take 3 = [slI xs[i].shape, lb xs[i].wide, slI xs[i].data] := fm_sub (f := encN) (k := 6) (fun _ => rfl) h (by omega)
end
section
variable {G : Nat → Option Value} {bk : Nat → Nat × Nat} {Q : Exit → St → Prop} {st : St}
end
end Tryd
end Go.Ideal
end

section
set_option linter.unusedVariables false
set_option linter.unusedSimpArgs false
set_option maxRecDepth 10000
namespace Go.Ideal.Tryd
def Er.isNil : Er → Bool
  | .nil => true
  | _ => false
section
variable {G : Nat → Option Value} {bk : Nat → Nat × Nat} {Q : Exit → St → Prop} {st : St}
end
end Go.Ideal.Tryd
end

section
set_option linter.unusedVariables false
set_option linter.unusedSimpArgs false
set_option maxRecDepth 10000
namespace Go.Ideal.Tryd
section
variable {G : Nat → Option Value} {bk : Nat → Nat × Nat} {Q : Exit → St → Prop} {st : St}
end
end Go.Ideal.Tryd
end
