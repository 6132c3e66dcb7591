/- Part Pi of the proof: a machine with trees for values, its soundness, and walks on it. -/
import Derived.Test.YtfdhkijgolgnfaaDoorPh

section
set_option linter.unusedVariables false
set_option linter.unusedSimpArgs false
set_option maxRecDepth 10000
namespace Go.Ideal.Tryd
/-! ### graphs: copies, equalities, size -/
structure Gr where
  nodes : List Nd
  out : Int
/-- A node that is held alone. -/
def encM (n : Nd) : List AV := [li n.op, owI n.ins, owI n.args, owI n.shape, lb n.wide, owI n.data]
@[go_sem] theorem encM_len {xs : List Nd} : (fm encM xs).length = xs.length * 6 := fm_len fun _ => rfl
@[go_sem] theorem encM_take {xs : List Nd} : (fm encM xs).take (xs.length * 6) = fm encM xs := fm_take fun _ => rfl
@[go_sem] theorem encM_frz {xs : List Nd} : frzL (fm encM xs) = fm encN xs := by
  rw [fm_frz]
  congr 1
  funext n
  simp [encM, encN, go_sem]
@[go_sem] theorem encM_noImm {xs : List Nd} : noImmL (fm encM xs) = true := fm_noImm fun n => by simp [encM, go_sem]
theorem noImm_owI (xs : List Int) : noImm (owI xs) = true := by simp only [noImm]; exact noImmL_li xs
section
variable {G : Nat → Option Value} {bk : Nat → Nat × Nat} {Q : Exit → St → Prop} {st : St}
/-- Nothing of it is too long for a machine. -/
structure Nd.fin (n : Nd) : Prop where
  ins : n.ins.length < 2 ^ 62
  args : n.args.length < 2 ^ 62
  shape : n.shape.length < 2 ^ 62
  data : n.data.length < 2 ^ 62
structure Nd.sh (n : Nd) : Prop where
  ins : n.ins.length < 2 ^ 36
  args : n.args.length < 2 ^ 36
  shape : n.shape.length < 2 ^ 36
  data : n.data.length < 2 ^ 36
/-! ### is there a node such that -/
end
end Go.Ideal.Tryd
end

section
set_option linter.unusedVariables false
set_option linter.unusedSimpArgs false
set_option maxRecDepth 10000
namespace Go.Ideal.Tryd
/-! ### graph.Bytes -/
def oddI (k : Int) : Bool := !decide (0 ≤ k ∧ k ≤ 65535)
def offI (a : Int) : Bool := !decide (-2147483648 ≤ a ∧ a ≤ 2147483647)
section
variable {G : Nat → Option Value} {bk : Nat → Nat × Nat} {Q : Exit → St → Prop} {st : St}
theorem fits107 (n : Int) : ACalls pg G F_plan_Fits [li n] (lb (decide (-2147483648 ≤ n ∧ n ≤ 2147483647))) := by
  refine plan_Fits_call rfl ?_
  by_cases h1 : -2147483648 ≤ n <;> by_cases h2 : n ≤ 2147483647 <;> simp (disch := omega) [go_sem, plan_Fits_c, h1, h2]
theorem tvErr_cases (sh : List Int) (w : Bool) (data : List Int) : tvErr sh w data = .nil ∨ (∃ g, g < 21 ∧ tvErr sh w data = .s g) ∨ ∃ p g, g < 21 ∧ tvErr sh w data = .at p (.s g) := by
  unfold tvErr
  split
  · split
    · cases firstBad w data 0 with
      | none => exact .inl rfl
      | some i => exact .inr (.inr ⟨i, 3, by decide, rfl⟩)
    · exact .inr (.inl ⟨6, by decide, rfl⟩)
  · rcases dvErr_cases sh with e | e | e <;> rw [e]
    · exact .inl rfl
    · exact .inr (.inl ⟨2, by decide, rfl⟩)
    · exact .inr (.inl ⟨3, by decide, rfl⟩)
theorem number55 (xs : List Int) (n : Int) (h : xs.length < 2 ^ 40) : ACallsX pg G F_plan_Writer_Number [.var [owU xs], li n] (.tup []) [(0, .var [owU (xs ++ put1 true n)])] := by
  refine plan_Writer_Number_callX (pins := [0]) (by kernel_rfl) rfl rfl rfl rfl ?_
  simp (disch := omega) [go_sem, plan_Writer_Number_c, put1]
end
end Go.Ideal.Tryd
end

section
set_option linter.unusedVariables false
set_option linter.unusedSimpArgs false
set_option maxRecDepth 10000
namespace Go.Ideal.Tryd
theorem ni_w (b : List Int) : (noImm (AV.tup []) && [((0 : Nat), AV.var [owU b])].all fun p => noImm p.2) = true := by simp [noImm, noImmL, noImmL_lu]
theorem tvErr_len {sh : List Int} {w : Bool} {data : List Int} (h : tvErr sh w data = .nil) : sh.length ≤ 4 ∧ data.length ≤ 16384 := by
  unfold tvErr at h
  split at h
  · rename_i ok
    split at h
    · rename_i he
      have := elemsI_rng sh
      simp only [shOk, Bool.and_eq_true, decide_eq_true_eq] at ok
      exact ⟨ok.1.1, by omega⟩
    · cases h
  · rename_i ok
    exact absurd (dvErr_ok.1 h) ok
structure Nd.good (n : Nd) : Prop where
  ins : n.ins.length ≤ 8
  args : n.args.length ≤ 8
  tens : n.op = 2 → tvErr n.shape n.wide n.data = .nil
theorem put1_true_len : ∀ l : List Int, (l.flatMap (put1 true)).length = 4 * l.length
  | [] => rfl
  | k :: ks => by simp only [List.flatMap_cons, List.length_append, put1_true_len ks, put1, if_true, List.length_cons, List.length_nil]; omega
section
variable {G : Nat → Option Value} {bk : Nat → Nat × Nat} {Q : Exit → St → Prop} {st : St}
end
end Go.Ideal.Tryd
end
