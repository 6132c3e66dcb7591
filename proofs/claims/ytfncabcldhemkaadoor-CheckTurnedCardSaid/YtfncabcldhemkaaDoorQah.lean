/- Part Qah of the proof: a machine with trees for values, its soundness, and walks on it. -/
import Derived.Test.YtfncabcldhemkaaDoorQag
section
set_option linter.unusedVariables false
set_option linter.unusedSimpArgs false
namespace Go.Ideal
section
variable {N : Nat} {st st1 st2 : St} {P : Program} {G : GG} {K : St → Prop}
def c04 (N : Nat) (a b : St) : Prop := (∀ u, u < N → b.s u = a.s u) ∧ ∀ u, b.ep u = a.ep u
@[congr] theorem f0p {a b b' : St} (h : b = b') : c04 N a b = c04 N a b' := by rw [h]
@[go_sem] theorem f4s : c04 N st st = True := by simp [c04]
def e87 (N : Nat) (a b : St) : Prop := c04 N a b
@[go_sem] theorem f7h {t : Nat} {v : AV} : c04 N st1 (st2.put t v) = frI (decide (N ≤ t) && !nm v) (c04 N st1 st2) (e87 N st1 (st2.put t v)) := by
  simp only [frI, e87]
  split
  · rename_i h
    simp only [Bool.and_eq_true, decide_eq_true_eq, Bool.not_eq_true'] at h
    apply propext
    simp only [c04, St.put_s, St.put_ep, h.2, Bool.false_eq_true, and_false, if_false]
    constructor
    · rintro ⟨h1, h2⟩
      exact ⟨fun u hu => by have := h1 u hu; rwa [if_neg (by omega)] at this, h2⟩
    · rintro ⟨h1, h2⟩
      exact ⟨fun u hu => by rw [if_neg (by omega)]; exact h1 u hu, h2⟩
  · rfl
theorem b67 {d : Option Nat} {res : AV} (h : c04 N st1 st2) : b4f st2 N d res = b4f st1 N d res := by
  have e : st2.clear N = st1.clear N := by
    refine St.ext' (fun u => ?_) (fun u => h.2 u)
    simp only [St.clear]
    by_cases hu : u < N
    · simp [hu, h.1 u hu]
    · simp [hu]
  cases d <;> simp only [b4f, e]
theorem a0f {d : Option Nat} {f : FuncId} {pre : List AV} {res : AV} (hA : ACalls P G f pre res) (hn : a0r res = true) (h12 : c04 N st1 st2) (h : K (b4f st1 N d res)) : cal P G N d f pre st1 st2 K := f0d hA hn h (by rw [b67 h12]; exact h)
theorem a5a {aft : DA} {rest : List AO} {fps : List (List Nat × List Nat)} {d : Option Nat} {f : FuncId} {st : St} {pre : List AV} {rd : List Nat} {res : AV} (hA : ACalls P G f pre res) (hn : a0r res = true) (h12 : c04 N st1 st2) (hrd : ∀ t ∈ rd, t < N) (W : List Nat) (hW : ∀ t ∈ W, t < N) (hf : fr N W st (b4f st1 N d res)) (h : b0x aft.2 (b4f st1 N d res) ∧ b1s P G N aft rest (fps ++ [(rd, W)]) K (b4f st1 N d res)) : e4h P G N aft d f pre rd rest fps K st st1 st2 := by
  cases hi : a0z res with
  | true => exact a0p hA hn hi hrd W hW hf h
  | false => exact d9l hA hn hi hrd W hW (by rw [b67 h12]; exact hf) (by rw [b67 h12]; exact h)
end
namespace Tryd
section
variable {bk : Nat → Nat × Nat} {e : Er} {st : St} {N d t j : Nat} {x : X}
@[go_sem] theorem g88 : nm (a0m bk e) = false := by cases e <;> rfl
@[go_sem] theorem f4f : a0q (a0m bk e) = none := by cases e <;> rfl
@[go_sem] theorem f1d : a2s (a0m bk e) = none := by cases e <;> rfl
@[go_sem] theorem g4e : frz (a0m bk e) = a0m bk e := by cases e <;> simp only [a0m, frz]
@[go_sem] theorem f3v {kl : Nat → List Nat → Bool} : a06 kl (a0m bk e) = a0m bk e := by cases e <;> simp only [a0m, a06]
@[go_sem] theorem g7e : mvS st d x (a0m bk e) = some (st.put d (a0m bk e)) := by cases e <;> simp [a0m, mvS, a0s]
@[go_sem] theorem f82 : d3a st N d (.t t) (a0m bk e) = some (st.put d (a0m bk e)) := by cases e <;> simp [a0m, go_sem]
@[go_sem] theorem g40 {q : List Nat} {o : Nat} : ldK st t q o (some (a0m bk e)) = some (a0m bk e) := by cases e <;> simp [a0m, ldK, a0s]
@[go_sem] theorem g6d : psS st N (.t t) j (a0m bk e) = some (st.put j (a0m bk e)) := by cases e <;> simp [a0m, go_sem]
@[go_sem] theorem g5n : gvS st N (.t t) j (a0m bk e) = some (st.put j (a0m bk e)) := by cases e <;> simp [a0m, go_sem]
@[go_sem] theorem f7t {i : Nat} {ks : List AV} : e9k st N d (.t t) i ks (some (a0m bk e)) = some (st.put d (a0m bk e)) := by cases e <;> simp [a0m, go_sem]
@[go_sem] theorem g7h : a3o .eql 2 (a0m bk e) (.lit .nilIface) = some (.lit (.bool e.isNil)) := by cases e <;> rfl
@[go_sem] theorem g7f : a3o .neq 2 (a0m bk e) (.lit .nilIface) = some (.lit (.bool !e.isNil)) := by cases e <;> rfl
def kE (st : St) (t : Nat) : Er → St
  | .at _ _ => st.put t .dead
  | _ => st
@[go_sem] theorem g5f : giv st N (.t t) (a0m bk e) = some (kE st t e, [a0m bk e]) := by cases e <;> simp [a0m, go_sem, kE, e5y]
@[go_sem] theorem h9t {u : Nat} (h : u ≠ t) : (kE st t e).s u = st.s u := by cases e <;> simp [kE, h]
@[go_sem] theorem h8f {u : Nat} : (kE st t e).ep u = st.ep u := by cases e <;> simp [kE, St.put_ep, a0q]
end
end Tryd
end Go.Ideal
end
