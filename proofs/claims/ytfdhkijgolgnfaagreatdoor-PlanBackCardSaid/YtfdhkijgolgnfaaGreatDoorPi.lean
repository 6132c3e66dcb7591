/- Part Pi of the proof: a machine with trees for values, its soundness, and walks on it. -/
import Derived.Test.YtfdhkijgolgnfaaGreatDoorPh
section
set_option linter.unusedVariables false
set_option linter.unusedSimpArgs false
set_option maxRecDepth 10000
namespace Go.Ideal.Tryz
structure Gr where
  nodes : List Nd
  out : Int
def f1w (n : Nd) : List AV := [li n.op, owI n.ins, owI n.args, owI n.shape, lb n.wide, owI n.data]
@[go_sem] theorem g52 {xs : List Nd} : (fm f1w xs).length = xs.length * 6 := b1o fun _ => rfl
@[go_sem] theorem g24 {xs : List Nd} : (fm f1w xs).take (xs.length * 6) = fm f1w xs := a6t fun _ => rfl
@[go_sem] theorem g6p {xs : List Nd} : a1n (fm f1w xs) = fm c88 xs := by
  rw [b2l]
  congr 1
  funext n
  simp [f1w, c88, go_sem]
@[go_sem] theorem f3d {xs : List Nd} : a1e (fm f1w xs) = true := b98 fun n => by simp [f1w, go_sem]
theorem d56 (xs : List Int) : a0w (owI xs) = true := by simp only [a0w]; exact b9g xs
section
variable {G : Nat → Option Value} {bk : Nat → Nat × Nat} {Q : Exit → St → Prop} {st : St}
theorem e0k (sh : List Int) (w : Bool) (hlen : sh.length < 2 ^ 62) : ACalls pg G c13 [.agg [slI sh, lb w]] (lb (decide (sh.length ≤ 8))) := by
  refine b5a rfl ?_
  by_cases h : sh.length ≤ 8
  · have h' : (sh.length : Int) ≤ 8 := by omega
    simp (disch := omega) [go_sem, a4z, h, h']
  · have h' : ¬ (sh.length : Int) ≤ 8 := by omega
    simp (disch := omega) [go_sem, a4z, h, h']
theorem f1s (sh : List Int) (w : Bool) (data : List Int) (m : Nat) (hlen : sh.length < 2 ^ 62) : ACalls pg G b7f [f5x sh w data, li m] (lb (decide (sh.length ≤ 8) && decide (data.length ≤ m))) := by
  refine b1t rfl ?_
  simp (disch := omega) [go_sem, a6p]
  refine a0g (e0k sh w hlen) rfl rfl ?_
  by_cases h : sh.length ≤ 8
  · by_cases h2 : data.length ≤ m
    · have h2' : (data.length : Int) ≤ m := by omega
      simp (disch := omega) [go_sem, h, h2, h2']
    · have h2' : ¬ (data.length : Int) ≤ m := by omega
      simp (disch := omega) [go_sem, h, h2, h2']
  · simp (disch := omega) [go_sem, h]
structure Nd.fin (n : Nd) : Prop where
  ins : n.ins.length < 2 ^ 62
  args : n.args.length < 2 ^ 62
  shape : n.shape.length < 2 ^ 62
  data : n.data.length < 2 ^ 62
structure Nd.sh (n : Nd) : Prop where
  ins : n.ins.length < 2 ^ 36
  args : n.args.length < 2 ^ 36
  shape : n.shape.length < 2 ^ 36
  data : n.data.length < 2 ^ 36
end
end Go.Ideal.Tryz
end
section
set_option linter.unusedVariables false
set_option linter.unusedSimpArgs false
set_option maxRecDepth 10000
namespace Go.Ideal.Tryz
def e9h (k : Int) : Bool := !decide (0 ≤ k ∧ k ≤ 65535)
def e3b (a : Int) : Bool := !decide (-2147483648 ≤ a ∧ a ≤ 2147483647)
section
variable {G : Nat → Option Value} {bk : Nat → Nat × Nat} {Q : Exit → St → Prop} {st : St}
theorem e42 (n : Int) : ACalls pg G d95 [li n] (lb (decide (-2147483648 ≤ n ∧ n ≤ 2147483647))) := by
  refine c8w rfl ?_
  by_cases h1 : -2147483648 ≤ n <;> by_cases h2 : n ≤ 2147483647 <;> simp (disch := omega) [go_sem, c39, h1, h2]
theorem c4w (sh : List Int) (w : Bool) (data : List Int) : a5k sh w data = .nil ∨ (∃ g, g < 21 ∧ a5k sh w data = .s g) ∨ ∃ p g, g < 21 ∧ a5k sh w data = .at p (.s g) := by
  unfold a5k
  split
  · split
    · cases a3n w data 0 with
      | none => exact .inl rfl
      | some i => exact .inr (.inr ⟨i, 3, by decide, rfl⟩)
    · exact .inr (.inl ⟨6, by decide, rfl⟩)
  · rcases b1a sh with e | e | e <;> rw [e]
    · exact .inl rfl
    · exact .inr (.inl ⟨2, by decide, rfl⟩)
    · exact .inr (.inl ⟨3, by decide, rfl⟩)
theorem a7z (xs : List Int) (n : Int) (h : xs.length < 2 ^ 40) : ACallsX pg G b5c [.var [owU xs], li n] (.tup []) [(0, .var [owU (xs ++ a45 true n)])] := by
  refine a9b (pins := [0]) (by kernel_rfl) rfl rfl rfl rfl ?_
  simp (disch := omega) [go_sem, a5q, a45]
end
end Go.Ideal.Tryz
end
section
set_option linter.unusedVariables false
set_option linter.unusedSimpArgs false
set_option maxRecDepth 10000
namespace Go.Ideal.Tryz
theorem c6i (b : List Int) : (a0w (AV.tup []) && [((0 : Nat), AV.var [owU b])].all fun p => a0w p.2) = true := by simp [a0w, a1e, e5u]
theorem c0h {sh : List Int} {w : Bool} {data : List Int} (h : a5k sh w data = .nil) : sh.length ≤ 4 ∧ data.length ≤ 16384 := by
  unfold a5k at h
  split at h
  · rename_i ok
    split at h
    · rename_i he
      have := a4t sh
      simp only [c74, Bool.and_eq_true, decide_eq_true_eq] at ok
      exact ⟨ok.1.1, by omega⟩
    · cases h
  · rename_i ok
    exact absurd (a29.1 h) ok
structure Nd.good (n : Nd) : Prop where
  ins : n.ins.length ≤ 8
  args : n.args.length ≤ 8
  tens : n.op = 2 → a5k n.shape n.wide n.data = .nil
theorem a04 : ∀ l : List Int, (l.flatMap (a45 true)).length = 4 * l.length
  | [] => rfl
  | k :: ks => by simp only [List.flatMap_cons, List.length_append, a04 ks, a45, if_true, List.length_cons, List.length_nil]; omega
section
variable {G : Nat → Option Value} {bk : Nat → Nat × Nat} {Q : Exit → St → Prop} {st : St}
end
end Go.Ideal.Tryz
end
