/- Part Pd of the proof: a machine with trees for values, its soundness, and walks on it. -/
import Derived.Test.YtfdhkijgolgnfaaDoorPc
import Derived.Test.YtfdhkijgolgnfaaDoorPa
import Derived.Test.YtfdhkijgolgnfaaDoorNy
import Derived.Test.YtfdhkijgolgnfaaDoorPb

section
set_option linter.unusedVariables false
set_option linter.unusedSimpArgs false
set_option maxRecDepth 10000
namespace Go.Ideal.Tryd
section
variable {G : Nat → Option Value} {Q : Exit → St → Prop} {st : St}
abbrev lu (n : Int) : AV := .lit (.int .u8 n)
abbrev owU (xs : List Int) : AV := .own 1 xs.length (xs.map lu)
abbrev slU (xs : List Int) : AV := .sl xs.length (xs.map lu)
abbrev u8 (n : Int) : Int := IntKind.u8.wrap n
theorem byte54 (xs : List Int) (n : Int) (h : xs.length < 2 ^ 40) : ACallsX pg G F_plan_Writer_Byte [.var [owU xs], li n] (.tup []) [(0, .var [owU (xs ++ [u8 n])])] := by
  refine plan_Writer_Byte_callX (pins := [0]) (by kernel_rfl) rfl rfl rfl rfl ?_
  simp (disch := omega) [go_sem, plan_Writer_Byte_c]
end
end Go.Ideal.Tryd
end

section
set_option linter.unusedVariables false
set_option linter.unusedSimpArgs false
set_option maxRecDepth 10000
namespace Go.Ideal
section
variable {k yk : IntKind} {a b : Int}
theorem bl_shr' (h : 0 ≤ b) : binLit .shr (.int k a) (.int yk b) = some (.int k (a.fdiv (2 ^ min b.toNat k.bits))) := by simp [binLit, Op.shift, show ¬ b < 0 by omega]; rfl
@[go_sem] theorem ba_shr (h : 0 ≤ b) : binAV .shr 0 (.lit (.int k a)) (.lit (.int yk b)) = some (.lit (.int k (a.fdiv (2 ^ min b.toNat k.bits)))) := by simp [binAV, litOp, bl_shr' h]
end
namespace Tryd
section
variable {G : Nat → Option Value} {Q : Exit → St → Prop} {st : St}
theorem count53 (xs : List Int) (n : Int) (h : xs.length < 2 ^ 40) : ACallsX pg G F_plan_Writer_Count [.var [owU xs], li n] (.tup []) [(0, .var [owU (xs ++ [u8 n, u8 (n.fdiv 256)])])] := by
  refine plan_Writer_Count_callX (pins := [0]) (by kernel_rfl) rfl rfl rfl rfl ?_
  simp (disch := omega) [go_sem, plan_Writer_Count_c]
end
end Tryd
end Go.Ideal
end

section
set_option linter.unusedVariables false
set_option linter.unusedSimpArgs false
set_option maxRecDepth 10000
namespace Go.Ideal.Tryd
section
variable {Q : Exit → St → Prop} {st : St}
end
end Go.Ideal.Tryd
end

section
set_option linter.unusedVariables false
set_option linter.unusedSimpArgs false
set_option maxRecDepth 10000
namespace Go.Ideal.Tryd
/-- A graph's node. -/
structure Nd where
  op : Int
  ins : List Int
  args : List Int
  shape : List Int
  wide : Bool
  data : List Int
def encN (n : Nd) : List AV := [li n.op, slI n.ins, slI n.args, slI n.shape, lb n.wide, slI n.data]
@[go_sem] theorem encN_len {xs : List Nd} : (fm encN xs).length = xs.length * 6 := fm_len fun _ => rfl
@[go_sem] theorem encN_get {xs : List Nd} {i : Nat} (h : i < xs.length) : ((fm encN xs).drop (i * 6)).take 6 = [li xs[i].op, slI xs[i].ins, slI xs[i].args, slI xs[i].shape, lb xs[i].wide, slI xs[i].data] := fm_get (f := encN) (k := 6) (fun _ => rfl) h
@[go_sem] theorem encN_take {xs : List Nd} : (fm encN xs).take (xs.length * 6) = fm encN xs := fm_take fun _ => rfl
@[go_sem] theorem encN_noOwn {xs : List Nd} : noOwnL (fm encN xs) = true := fm_noOwn fun _ => rfl
@[go_sem] theorem encN_frz {xs : List Nd} : frzL (fm encN xs) = fm encN xs := by
  rw [fm_frz]; congr 1
section
variable {G : Nat → Option Value} {Q : Exit → St → Prop} {st : St}
end
end Go.Ideal.Tryd
end

section
set_option linter.unusedVariables false
set_option linter.unusedSimpArgs false
set_option maxRecDepth 10000
namespace Go.Ideal.Tryd
section
variable {G : Nat → Option Value} {Q : Exit → St → Prop} {st : St}
def encO (r : List Int) : List AV := [li 4, owI r, .own 1 0 [], .own 1 0 [], lb false, .own 1 0 []]
def ndOf (r : List Int) : Nd := ⟨4, r, [], [], false, []⟩
@[go_sem] theorem encO_len {xs : List (List Int)} : (fm encO xs).length = xs.length * 6 := fm_len fun _ => rfl
@[go_sem] theorem encO_take {xs : List (List Int)} : (fm encO xs).take (xs.length * 6) = fm encO xs := fm_take fun _ => rfl
@[go_sem] theorem encO_frz {xs : List (List Int)} : frzL (fm encO xs) = fm encN (xs.map ndOf) := by
  rw [fm_frz]
  induction xs with
  | nil => rfl
  | cons x xs ih =>
    rw [fm_cons, List.map_cons, fm_cons, ih]
    congr 1
    simp [encO, encN, ndOf, go_sem]
end
end Go.Ideal.Tryd
end

section
set_option linter.unusedVariables false
set_option linter.unusedSimpArgs false
set_option maxRecDepth 10000
namespace Go.Ideal.Tryd
section
variable {G : Nat → Option Value} {Q : Exit → St → Prop} {st : St}
end
end Go.Ideal.Tryd
end

section
set_option linter.unusedVariables false
set_option linter.unusedSimpArgs false
namespace Go.Ideal.Tryd
def sp (t : Nat) : List (List Int) → Nat → List Int
  | [], _ => []
  | r :: rs, i => (if (t : Int) ∈ r then [(i : Int)] else []) ++ sp t rs (i + 1)
end Go.Ideal.Tryd
end

section
set_option linter.unusedVariables false
set_option linter.unusedSimpArgs false
set_option maxRecDepth 10000
namespace Go.Ideal.Tryd
end Go.Ideal.Tryd
end
