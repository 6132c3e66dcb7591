/- Part Pj of the proof: a machine with trees for values, its soundness, and walks on it. -/
import Derived.Test.YtfdhkijgolgnfaaDoorPi
import Derived.Test.YtfdhkijgolgnfaaDoorPb
section
set_option linter.unusedVariables false
set_option linter.unusedSimpArgs false
set_option maxRecDepth 10000
namespace Go.Ideal
theorem d9y {α : Type} {f : α → List AV} {k : Nat} {xs : List α} (hf : ∀ x, (f x).length = k) {i j : Nat} (h : i < xs.length) (hj : j < k) : (fm f xs)[i * k + j]? = (f xs[i])[j]? := by
  have h1 := b75 (f := f) (k := k) hf h
  rw [← h1, List.getElem?_take, if_pos hj, List.getElem?_drop]
theorem f0j {α : Type} {f : α → List AV} {k : Nat} {xs : List α} (hf : ∀ x, (f x).length = k) {i j m : Nat} (h : i < xs.length) (hj : j + m ≤ k) : ((fm f xs).drop (i * k + j)).take m = ((f xs[i]).drop j).take m := by
  have h1 := b75 (f := f) (k := k) hf h
  rw [← h1, List.drop_take, List.take_take, List.drop_drop, Nat.min_eq_left (by omega)]
namespace Tryd
section
variable {xs : List Nd} {i : Nat}
@[go_sem] theorem g1u (h : i < xs.length) : (fm c1f xs)[i * 6]? = some (li xs[i].op) := d9y (f := c1f) (k := 6) (j := 0) (fun _ => rfl) h (by omega)
@[go_sem] theorem g1o (h : i < xs.length) : (fm c1f xs)[i * 6 + 1]? = some (slI xs[i].ins) := d9y (f := c1f) (k := 6) (fun _ => rfl) h (by omega)
@[go_sem] theorem g1v (h : i < xs.length) : (fm c1f xs)[i * 6 + 2]? = some (slI xs[i].args) := d9y (f := c1f) (k := 6) (fun _ => rfl) h (by omega)
@[go_sem] theorem g39 (h : i < xs.length) : ((fm c1f xs).drop (i * 6 + 3)).take 3 = [slI xs[i].shape, lb xs[i].wide, slI xs[i].data] := f0j (f := c1f) (k := 6) (fun _ => rfl) h (by omega)
end
section
variable {G : Nat → Option Value} {bk : Nat → Nat × Nat} {Q : Exit → St → Prop} {st : St}
end
end Tryd
end Go.Ideal
end
section
set_option linter.unusedVariables false
set_option linter.unusedSimpArgs false
set_option maxRecDepth 10000
namespace Go.Ideal.Tryd
def Er.isNil : Er → Bool
  | .nil => true
  | _ => false
section
variable {G : Nat → Option Value} {bk : Nat → Nat × Nat} {Q : Exit → St → Prop} {st : St}
end
end Go.Ideal.Tryd
end
section
set_option linter.unusedVariables false
set_option linter.unusedSimpArgs false
set_option maxRecDepth 10000
namespace Go.Ideal.Tryd
section
variable {G : Nat → Option Value} {bk : Nat → Nat × Nat} {Q : Exit → St → Prop} {st : St}
end
end Go.Ideal.Tryd
end
