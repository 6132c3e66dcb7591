/- Part Pd of the proof: a machine with trees for values, its soundness, and walks on it. -/
import Derived.Test.YtfdhkijgolgnfaaGreatDoorPc
import Derived.Test.YtfdhkijgolgnfaaGreatDoorPa
import Derived.Test.YtfdhkijgolgnfaaGreatDoorNy
import Derived.Test.YtfdhkijgolgnfaaGreatDoorPb
section
set_option linter.unusedVariables false
set_option linter.unusedSimpArgs false
set_option maxRecDepth 10000
namespace Go.Ideal.Tryz
section
variable {G : Nat → Option Value} {Q : Exit → St → Prop} {st : St}
abbrev lu (n : Int) : AV := .lit (.int .u8 n)
abbrev owU (xs : List Int) : AV := .own 1 xs.length (xs.map lu)
abbrev slU (xs : List Int) : AV := .sl xs.length (xs.map lu)
abbrev u8 (n : Int) : Int := IntKind.u8.wrap n
theorem d6x (xs : List Int) (n : Int) (h : xs.length < 2 ^ 40) : ACallsX pg G b86 [.var [owU xs], li n] (.tup []) [(0, .var [owU (xs ++ [u8 n])])] := by
  refine b14 (pins := [0]) (by kernel_rfl) rfl rfl rfl rfl ?_
  simp (disch := omega) [go_sem, a70]
end
end Go.Ideal.Tryz
end
section
set_option linter.unusedVariables false
set_option linter.unusedSimpArgs false
set_option maxRecDepth 10000
namespace Go.Ideal
section
variable {k yk : IntKind} {a b : Int}
theorem e9r (h : 0 ≤ b) : a1d .shr (.int k a) (.int yk b) = some (.int k (a.fdiv (2 ^ min b.toNat k.bits))) := by simp [a1d, Op.shift, show ¬ b < 0 by omega]; rfl
@[go_sem] theorem h5e (h : 0 ≤ b) : a1o .shr 0 (.lit (.int k a)) (.lit (.int yk b)) = some (.lit (.int k (a.fdiv (2 ^ min b.toNat k.bits)))) := by simp [a1o, c3f, e9r h]
end
namespace Tryz
section
variable {G : Nat → Option Value} {Q : Exit → St → Prop} {st : St}
theorem c4x (xs : List Int) (n : Int) (h : xs.length < 2 ^ 40) : ACallsX pg G b7t [.var [owU xs], li n] (.tup []) [(0, .var [owU (xs ++ [u8 n, u8 (n.fdiv 256)])])] := by
  refine b0p (pins := [0]) (by kernel_rfl) rfl rfl rfl rfl ?_
  simp (disch := omega) [go_sem, a6g]
end
end Tryz
end Go.Ideal
end
section
set_option linter.unusedVariables false
set_option linter.unusedSimpArgs false
set_option maxRecDepth 10000
namespace Go.Ideal.Tryz
section
variable {Q : Exit → St → Prop} {st : St}
end
end Go.Ideal.Tryz
end
section
set_option linter.unusedVariables false
set_option linter.unusedSimpArgs false
set_option maxRecDepth 10000
namespace Go.Ideal.Tryz
structure Nd where
  op : Int
  ins : List Int
  args : List Int
  shape : List Int
  wide : Bool
  data : List Int
def c88 (n : Nd) : List AV := [li n.op, slI n.ins, slI n.args, slI n.shape, lb n.wide, slI n.data]
@[go_sem] theorem g7f {xs : List Nd} : (fm c88 xs).length = xs.length * 6 := b1o fun _ => rfl
@[go_sem] theorem g6x {xs : List Nd} {i : Nat} (h : i < xs.length) : ((fm c88 xs).drop (i * 6)).take 6 = [li xs[i].op, slI xs[i].ins, slI xs[i].args, slI xs[i].shape, lb xs[i].wide, slI xs[i].data] := c4c (f := c88) (k := 6) (fun _ => rfl) h
@[go_sem] theorem f6y {xs : List Nd} : (fm c88 xs).take (xs.length * 6) = fm c88 xs := a6t fun _ => rfl
@[go_sem] theorem f4z {xs : List Nd} : a0j (fm c88 xs) = true := b9j fun _ => rfl
@[go_sem] theorem g5a {xs : List Nd} : a1n (fm c88 xs) = fm c88 xs := by
  rw [b2l]; congr 1
section
variable {G : Nat → Option Value} {Q : Exit → St → Prop} {st : St}
end
end Go.Ideal.Tryz
end
section
set_option linter.unusedVariables false
set_option linter.unusedSimpArgs false
set_option maxRecDepth 10000
namespace Go.Ideal.Tryz
section
variable {G : Nat → Option Value} {Q : Exit → St → Prop} {st : St}
def g0i (r : List Int) : List AV := [li 4, owI r, .own 1 0 [], .own 1 0 [], lb false, .own 1 0 []]
def h4d (r : List Int) : Nd := ⟨4, r, [], [], false, []⟩
@[go_sem] theorem g5m {xs : List (List Int)} : (fm g0i xs).length = xs.length * 6 := b1o fun _ => rfl
@[go_sem] theorem g1j {xs : List (List Int)} : (fm g0i xs).take (xs.length * 6) = fm g0i xs := a6t fun _ => rfl
@[go_sem] theorem g54 {xs : List (List Int)} : a1n (fm g0i xs) = fm c88 (xs.map h4d) := by
  rw [b2l]
  induction xs with
  | nil => rfl
  | cons x xs ih =>
    rw [b2t, List.map_cons, b2t, ih]
    congr 1
    simp [g0i, c88, h4d, go_sem]
end
end Go.Ideal.Tryz
end
section
set_option linter.unusedVariables false
set_option linter.unusedSimpArgs false
set_option maxRecDepth 10000
namespace Go.Ideal.Tryz
section
variable {G : Nat → Option Value} {Q : Exit → St → Prop} {st : St}
end
end Go.Ideal.Tryz
end
section
set_option linter.unusedVariables false
set_option linter.unusedSimpArgs false
namespace Go.Ideal.Tryz
def sp (t : Nat) : List (List Int) → Nat → List Int
  | [], _ => []
  | r :: rs, i => (if (t : Int) ∈ r then [(i : Int)] else []) ++ sp t rs (i + 1)
end Go.Ideal.Tryz
end
section
set_option linter.unusedVariables false
set_option linter.unusedSimpArgs false
set_option maxRecDepth 10000
namespace Go.Ideal.Tryz
end Go.Ideal.Tryz
end
