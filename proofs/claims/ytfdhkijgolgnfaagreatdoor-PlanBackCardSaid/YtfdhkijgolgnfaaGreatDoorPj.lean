/- Part Pj of the proof: a machine with trees for values, its soundness, and walks on it. -/
import Derived.Test.YtfdhkijgolgnfaaGreatDoorPi
import Derived.Test.YtfdhkijgolgnfaaGreatDoorPb
section
set_option linter.unusedVariables false
set_option linter.unusedSimpArgs false
set_option maxRecDepth 10000
namespace Go.Ideal
theorem e26 {α : Type} {f : α → List AV} {k : Nat} {xs : List α} (hf : ∀ x, (f x).length = k) {i j : Nat} (h : i < xs.length) (hj : j < k) : (fm f xs)[i * k + j]? = (f xs[i])[j]? := by
  have h1 := c4c (f := f) (k := k) hf h
  rw [← h1, List.getElem?_take, if_pos hj, List.getElem?_drop]
theorem f7j {α : Type} {f : α → List AV} {k : Nat} {xs : List α} (hf : ∀ x, (f x).length = k) {i j m : Nat} (h : i < xs.length) (hj : j + m ≤ k) : ((fm f xs).drop (i * k + j)).take m = ((f xs[i]).drop j).take m := by
  have h1 := c4c (f := f) (k := k) hf h
  rw [← h1, List.drop_take, List.take_take, List.drop_drop, Nat.min_eq_left (by omega)]
namespace Tryz
section
variable {xs : List Nd} {i : Nat}
@[go_sem] theorem h7n (h : i < xs.length) : (fm c88 xs)[i * 6]? = some (li xs[i].op) := e26 (f := c88) (k := 6) (j := 0) (fun _ => rfl) h (by omega)
@[go_sem] theorem h4z (h : i < xs.length) : (fm c88 xs)[i * 6 + 1]? = some (slI xs[i].ins) := e26 (f := c88) (k := 6) (fun _ => rfl) h (by omega)
@[go_sem] theorem h4p (h : i < xs.length) : (fm c88 xs)[i * 6 + 2]? = some (slI xs[i].args) := e26 (f := c88) (k := 6) (fun _ => rfl) h (by omega)
@[go_sem] theorem h48 (h : i < xs.length) : ((fm c88 xs).drop (i * 6 + 3)).take 3 = [slI xs[i].shape, lb xs[i].wide, slI xs[i].data] := f7j (f := c88) (k := 6) (fun _ => rfl) h (by omega)
end
section
variable {G : Nat → Option Value} {bk : Nat → Nat × Nat} {Q : Exit → St → Prop} {st : St}
end
end Tryz
end Go.Ideal
end
section
set_option linter.unusedVariables false
set_option linter.unusedSimpArgs false
set_option maxRecDepth 10000
namespace Go.Ideal.Tryz
def Er.isNil : Er → Bool
  | .nil => true
  | _ => false
section
variable {G : Nat → Option Value} {bk : Nat → Nat × Nat} {Q : Exit → St → Prop} {st : St}
end
end Go.Ideal.Tryz
end
section
set_option linter.unusedVariables false
set_option linter.unusedSimpArgs false
set_option maxRecDepth 10000
namespace Go.Ideal.Tryz
section
variable {G : Nat → Option Value} {bk : Nat → Nat × Nat} {Q : Exit → St → Prop} {st : St}
end
end Go.Ideal.Tryz
end
