/- Part Pd of the proof: a machine with trees for values, its soundness, and walks on it. -/
import Derived.Test.YtfdhkijgolgnfaaDoorPc
import Derived.Test.YtfdhkijgolgnfaaDoorPa
import Derived.Test.YtfdhkijgolgnfaaDoorNy
import Derived.Test.YtfdhkijgolgnfaaDoorPb
section
set_option linter.unusedVariables false
set_option linter.unusedSimpArgs false
set_option maxRecDepth 10000
namespace Go.Ideal.Tryd
section
variable {G : Nat → Option Value} {Q : Exit → St → Prop} {st : St}
abbrev lu (n : Int) : AV := .lit (.int .u8 n)
abbrev owU (xs : List Int) : AV := .own 1 xs.length (xs.map lu)
abbrev slU (xs : List Int) : AV := .sl xs.length (xs.map lu)
abbrev u8 (n : Int) : Int := IntKind.u8.wrap n
theorem c8a (xs : List Int) (n : Int) (h : xs.length < 2 ^ 40) : ACallsX pg G b4w [.var [owU xs], li n] (.tup []) [(0, .var [owU (xs ++ [u8 n])])] := by
  refine a8z (pins := [0]) (by kernel_rfl) rfl rfl rfl rfl ?_
  simp (disch := omega) [go_sem, a50]
end
end Go.Ideal.Tryd
end
section
set_option linter.unusedVariables false
set_option linter.unusedSimpArgs false
set_option maxRecDepth 10000
namespace Go.Ideal
section
variable {k yk : IntKind} {a b : Int}
theorem e1c (h : 0 ≤ b) : a07 .shr (.int k a) (.int yk b) = some (.int k (a.fdiv (2 ^ min b.toNat k.bits))) := by simp [a07, Op.shift, show ¬ b < 0 by omega]; rfl
@[go_sem] theorem g3d (h : 0 ≤ b) : a1g .shr 0 (.lit (.int k a)) (.lit (.int yk b)) = some (.lit (.int k (a.fdiv (2 ^ min b.toNat k.bits)))) := by simp [a1g, b6i, e1c h]
end
namespace Tryd
section
variable {G : Nat → Option Value} {Q : Exit → St → Prop} {st : St}
theorem b6y (xs : List Int) (n : Int) (h : xs.length < 2 ^ 40) : ACallsX pg G b3d [.var [owU xs], li n] (.tup []) [(0, .var [owU (xs ++ [u8 n, u8 (n.fdiv 256)])])] := by
  refine a77 (pins := [0]) (by kernel_rfl) rfl rfl rfl rfl ?_
  simp (disch := omega) [go_sem, a5n]
end
end Tryd
end Go.Ideal
end
section
set_option linter.unusedVariables false
set_option linter.unusedSimpArgs false
set_option maxRecDepth 10000
namespace Go.Ideal.Tryd
section
variable {Q : Exit → St → Prop} {st : St}
end
end Go.Ideal.Tryd
end
section
set_option linter.unusedVariables false
set_option linter.unusedSimpArgs false
set_option maxRecDepth 10000
namespace Go.Ideal.Tryd
structure Nd where
  op : Int
  ins : List Int
  args : List Int
  shape : List Int
  wide : Bool
  data : List Int
def c1f (n : Nd) : List AV := [li n.op, slI n.ins, slI n.args, slI n.shape, lb n.wide, slI n.data]
@[go_sem] theorem f15 {xs : List Nd} : (fm c1f xs).length = xs.length * 6 := a8p fun _ => rfl
@[go_sem] theorem f24 {xs : List Nd} {i : Nat} (h : i < xs.length) : ((fm c1f xs).drop (i * 6)).take 6 = [li xs[i].op, slI xs[i].ins, slI xs[i].args, slI xs[i].shape, lb xs[i].wide, slI xs[i].data] := b75 (f := c1f) (k := 6) (fun _ => rfl) h
@[go_sem] theorem e7v {xs : List Nd} : (fm c1f xs).take (xs.length * 6) = fm c1f xs := a5p fun _ => rfl
@[go_sem] theorem e1y {xs : List Nd} : a0i (fm c1f xs) = true := b4b fun _ => rfl
@[go_sem] theorem f3p {xs : List Nd} : a1f (fm c1f xs) = fm c1f xs := by
  rw [a9v]; congr 1
section
variable {G : Nat → Option Value} {Q : Exit → St → Prop} {st : St}
end
end Go.Ideal.Tryd
end
section
set_option linter.unusedVariables false
set_option linter.unusedSimpArgs false
set_option maxRecDepth 10000
namespace Go.Ideal.Tryd
section
variable {G : Nat → Option Value} {Q : Exit → St → Prop} {st : St}
def e5w (r : List Int) : List AV := [li 4, owI r, .own 1 0 [], .own 1 0 [], lb false, .own 1 0 []]
def g14 (r : List Int) : Nd := ⟨4, r, [], [], false, []⟩
@[go_sem] theorem f4q {xs : List (List Int)} : (fm e5w xs).length = xs.length * 6 := a8p fun _ => rfl
@[go_sem] theorem e9l {xs : List (List Int)} : (fm e5w xs).take (xs.length * 6) = fm e5w xs := a5p fun _ => rfl
@[go_sem] theorem f4n {xs : List (List Int)} : a1f (fm e5w xs) = fm c1f (xs.map g14) := by
  rw [a9v]
  induction xs with
  | nil => rfl
  | cons x xs ih =>
    rw [a9t, List.map_cons, a9t, ih]
    congr 1
    simp [e5w, c1f, g14, go_sem]
end
end Go.Ideal.Tryd
end
section
set_option linter.unusedVariables false
set_option linter.unusedSimpArgs false
set_option maxRecDepth 10000
namespace Go.Ideal.Tryd
section
variable {G : Nat → Option Value} {Q : Exit → St → Prop} {st : St}
end
end Go.Ideal.Tryd
end
section
set_option linter.unusedVariables false
set_option linter.unusedSimpArgs false
namespace Go.Ideal.Tryd
def sp (t : Nat) : List (List Int) → Nat → List Int
  | [], _ => []
  | r :: rs, i => (if (t : Int) ∈ r then [(i : Int)] else []) ++ sp t rs (i + 1)
end Go.Ideal.Tryd
end
section
set_option linter.unusedVariables false
set_option linter.unusedSimpArgs false
set_option maxRecDepth 10000
namespace Go.Ideal.Tryd
end Go.Ideal.Tryd
end
