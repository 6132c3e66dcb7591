/- Part Qak of the proof: a machine with trees for values, its soundness, and walks on it. -/
import Derived.Test.YtfncabcldhemkaaDoorQaj
import Derived.Test.YtfncabcldhemkaaDoorQai
set_option linter.unusedVariables false
set_option linter.unusedSimpArgs false
set_option maxRecDepth 200000
section
namespace Go.Ideal.Tryd
attribute [local go_sem] eD eT eV eI eP
section
variable {G : GG} {bk : Nat -> Nat × Nat} {Q : Exit -> St -> Prop} {st : St}
def LB (r : Dr) : Prop := r.1.shape.length < 2 ^ 40
theorem a8p {e : Er} {r : Dr} (h : LB r) : LB (chk e r) := by unfold chk; split; exact h; show (0 : Nat) < 2 ^ 40; decide
theorem a5d {g : Nat} : LB (bad g) := by show (0 : Nat) < 2 ^ 40; decide
theorem b9j {r : Dr} (h : LB r) : ∀ {l : List Ds}, LB (b5l l r)
 | [] => h
 | d :: ds => a8p (b9j h)
theorem a51 {c : Prop} [Decidable c] {a b : Dr} (h : LB a) (h2 : LB b) : LB (if c then a else b) := by split; exact h; exact h2
theorem b9k {sh : List Int} {w : Bool} (h : sh.length < 2 ^ 40) : LB (b3j sh w) := a8p h
theorem c5d {ins : List Ds} (hf : ∀ d ∈ ins, d.shape.length < 2 ^ 40) (k : Nat) : (ins[k]!).shape.length < 2 ^ 40 := by
 by_cases h : k < ins.length
 ·have := hf _ (List.getElem_mem h); simpa [h] using this
 ·simp only [getElem!_def, List.getElem?_eq_none (Nat.le_of_not_lt h)]
  show (0 : Nat) < 2 ^ 40
  decide
theorem c3e {op : Int} {ins : List Ds} (hf : ∀ d ∈ ins, d.shape.length < 2 ^ 40) : (a3a op ins).1.shape.length < 2 ^ 40 := by
 have h0 := c5d hf 0
 unfold a3a
 split
 ·exact h0
 ·split
  ·split <;> simp [dn]
  ·split
   ·simp [dn]
   ·simp only [List.length_dropLast]; omega
theorem d21 {op : Int} {args : List Int} {ins : List Ds} (hf : ∀ d ∈ ins, d.shape.length < 2 ^ 40) (ha : args.length < 2 ^ 40) : (opR op args ins).1.shape.length < 2 ^ 40 := by
 have h0 := c5d hf 0
 have hl := c3e (op := op) hf
 have l2 : ∀ {a b : Int}, ([a, b] : List Int).length < 2 ^ 40 := by intros; simp
 have l3 : ∀ {a b c : Int}, ([a, b, c] : List Int).length < 2 ^ 40 := by intros; simp
 show LB (opR op args ins)
 unfold opR
 refine a51 (a51 ?_ a5d) a5d
 refine a51 (a8p (a8p (a51 (a51 (b9k l2) a5d) a5d))) ?_
 refine a51 (a8p (a8p (a51 (a51 (a51 (b9k l3) a5d) a5d) a5d))) ?_
 refine a51 (a8p (a51 (a51 (a51 l3 a5d) a5d) a5d)) ?_
 refine a51 (b9j (a51 (b9k hl) a5d)) ?_
 refine a51 (a8p (a8p (a51 ha a5d))) ?_
 refine a51 (a8p (a51 l2 a5d)) ?_
 exact b9j (a51 a5d (a51 (show LB (⟨ins[0]!.shape, a1o op ins[0]!.wide⟩, .nil) from h0) a5d))
end
end Go.Ideal.Tryd
end
