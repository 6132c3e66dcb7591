/- Part Pi of the proof: a machine with trees for values, its soundness, and walks on it. -/
import Derived.Test.YtfdhkijgolgnfaaDoorPh
section
set_option linter.unusedVariables false
set_option linter.unusedSimpArgs false
set_option maxRecDepth 10000
namespace Go.Ideal.Tryd
structure Gr where
  nodes : List Nd
  out : Int
def d9k (n : Nd) : List AV := [li n.op, owI n.ins, owI n.args, owI n.shape, lb n.wide, owI n.data]
@[go_sem] theorem f3n {xs : List Nd} : (fm d9k xs).length = xs.length * 6 := a8p fun _ => rfl
@[go_sem] theorem e8y {xs : List Nd} : (fm d9k xs).take (xs.length * 6) = fm d9k xs := a5p fun _ => rfl
@[go_sem] theorem f4u {xs : List Nd} : a1f (fm d9k xs) = fm c1f xs := by
  rw [a9v]
  congr 1
  funext n
  simp [d9k, c1f, go_sem]
@[go_sem] theorem e2r {xs : List Nd} : a08 (fm d9k xs) = true := b4g fun n => by simp [d9k, go_sem]
theorem c6f (xs : List Int) : a0r (owI xs) = true := by simp only [a0r]; exact b4j xs
section
variable {G : Nat → Option Value} {bk : Nat → Nat × Nat} {Q : Exit → St → Prop} {st : St}
structure Nd.fin (n : Nd) : Prop where
  ins : n.ins.length < 2 ^ 62
  args : n.args.length < 2 ^ 62
  shape : n.shape.length < 2 ^ 62
  data : n.data.length < 2 ^ 62
structure Nd.sh (n : Nd) : Prop where
  ins : n.ins.length < 2 ^ 36
  args : n.args.length < 2 ^ 36
  shape : n.shape.length < 2 ^ 36
  data : n.data.length < 2 ^ 36
theorem d6h (a : List Int) (hn : a.length < 2 ^ 62) : ACalls pg G b1c [slU a, slU a] (lb true) := by
  refine a8c rfl ?_
  simp (disch := omega) [go_sem, a4y]
  refine a02 Nat (fun i st => i ≤ a.length ∧ st.s 0 = slU a ∧ st.s 1 = slU a ∧ st.s 5 = li i) (fun i => a.length - i) 0 ⟨by simp, by simp (disch := omega) [go_sem]⟩ ?_
  rintro i st K ⟨hi, h⟩ hK
  by_cases hlt : i < a.length
  · simp (disch := omega) [go_sem, a2u, h, hlt]
    refine a2i ?_
    simp (disch := omega) [go_sem, h, hlt]
    refine a13 (by decide) fun s2 hs he => ?_
    simp (disch := omega) [go_sem, hs, h]
    exact hK (i + 1) _ ⟨by omega, by simp (disch := omega) [go_sem, hs, h]⟩ (by omega)
  · obtain rfl : i = a.length := by omega
    simp (disch := omega) [go_sem, a2u, h]
end
end Go.Ideal.Tryd
end
section
set_option linter.unusedVariables false
set_option linter.unusedSimpArgs false
set_option maxRecDepth 10000
namespace Go.Ideal.Tryd
def d8l (k : Int) : Bool := !decide (0 ≤ k ∧ k ≤ 65535)
def d3i (a : Int) : Bool := !decide (-2147483648 ≤ a ∧ a ≤ 2147483647)
section
variable {G : Nat → Option Value} {bk : Nat → Nat × Nat} {Q : Exit → St → Prop} {st : St}
theorem d4n (n : Int) : ACalls pg G c9g [li n] (lb (decide (-2147483648 ≤ n ∧ n ≤ 2147483647))) := by
  refine b9q rfl ?_
  by_cases h1 : -2147483648 ≤ n <;> by_cases h2 : n ≤ 2147483647 <;> simp (disch := omega) [go_sem, b7h, h1, h2]
theorem b8u (sh : List Int) (w : Bool) (data : List Int) : a4o sh w data = .nil ∨ (∃ g, g < 21 ∧ a4o sh w data = .s g) ∨ ∃ p g, g < 21 ∧ a4o sh w data = .at p (.s g) := by
  unfold a4o
  split
  · split
    · cases a2z w data 0 with
      | none => exact .inl rfl
      | some i => exact .inr (.inr ⟨i, 3, by decide, rfl⟩)
    · exact .inr (.inl ⟨6, by decide, rfl⟩)
  · rcases a7u sh with e | e | e <;> rw [e]
    · exact .inl rfl
    · exact .inr (.inl ⟨2, by decide, rfl⟩)
    · exact .inr (.inl ⟨3, by decide, rfl⟩)
theorem a6a (xs : List Int) (n : Int) (h : xs.length < 2 ^ 40) : ACallsX pg G b08 [.var [owU xs], li n] (.tup []) [(0, .var [owU (xs ++ a4q true n)])] := by
  refine a7k (pins := [0]) (by kernel_rfl) rfl rfl rfl rfl ?_
  simp (disch := omega) [go_sem, a4u, a4q]
end
end Go.Ideal.Tryd
end
section
set_option linter.unusedVariables false
set_option linter.unusedSimpArgs false
set_option maxRecDepth 10000
namespace Go.Ideal.Tryd
theorem c0s (b : List Int) : (a0r (AV.tup []) && [((0 : Nat), AV.var [owU b])].all fun p => a0r p.2) = true := by simp [a0r, a08, d36]
theorem b8f {sh : List Int} {w : Bool} {data : List Int} (h : a4o sh w data = .nil) : sh.length ≤ 4 ∧ data.length ≤ 16384 := by
  unfold a4o at h
  split at h
  · rename_i ok
    split at h
    · rename_i he
      have := a34 sh
      simp only [b9e, Bool.and_eq_true, decide_eq_true_eq] at ok
      exact ⟨ok.1.1, by omega⟩
    · cases h
  · rename_i ok
    exact absurd (a2j.1 h) ok
structure Nd.good (n : Nd) : Prop where
  ins : n.ins.length ≤ 8
  args : n.args.length ≤ 8
  tens : n.op = 2 → a4o n.shape n.wide n.data = .nil
theorem a1d : ∀ l : List Int, (l.flatMap (a4q true)).length = 4 * l.length
  | [] => rfl
  | k :: ks => by simp only [List.flatMap_cons, List.length_append, a1d ks, a4q, if_true, List.length_cons, List.length_nil]; omega
section
variable {G : Nat → Option Value} {bk : Nat → Nat × Nat} {Q : Exit → St → Prop} {st : St}
end
end Go.Ideal.Tryd
end
