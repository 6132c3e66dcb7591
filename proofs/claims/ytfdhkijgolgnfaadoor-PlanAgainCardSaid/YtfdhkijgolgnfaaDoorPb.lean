/- Part Pb of the proof: a machine with trees for values, its soundness, and walks on it. -/
import Derived.Test.YtfdhkijgolgnfaaDoorPa
section
set_option linter.unusedVariables false
set_option linter.unusedSimpArgs false
set_option maxRecDepth 10000
namespace Go.Ideal.Tryd
inductive Er where
  | nil
  | s (g : Nat)
  | at (p : Int) (e : Er)
def a1p (bk : Nat → Nat × Nat) : Er → AV
  | .nil => .lit .nilIface
  | .s g => sv bk g
  | .at p e => .ifc g40 (.ip [li p, a1p bk e] 0)
abbrev wr (n : Int) : Int := IntKind.i64.wrap n
def inB (n : Nat) (u : List (List Int)) : Prop := ∀ r ∈ u, ∀ k ∈ r, 0 ≤ k ∧ k < (n : Int)
section
variable {G : Nat → Option Value} {bk : Nat → Nat × Nat} {Q : Exit → St → Prop} {st : St}
end
def e0i : List Int → List Int → List Int
  | [], l => l
  | k :: ks, l => e0i ks (l.set k.toNat (wr (l[k.toNat]! - 1)))
theorem d1u : ∀ (ks l : List Int), (e0i ks l).length = l.length
  | [], l => rfl
  | k :: ks, l => by rw [e0i, d1u]; simp
section
variable {G : Nat → Option Value} {Q : Exit → St → Prop} {st : St}
end
end Go.Ideal.Tryd
end
section
set_option linter.unusedVariables false
set_option linter.unusedSimpArgs false
set_option maxRecDepth 10000
namespace Go.Ideal.Tryd
section
variable {G : Nat → Option Value} {bk : Nat → Nat × Nat}
abbrev fl (x : Int × Bool × Int) : AV := f8q x.1 x.2.1 x.2.2
inductive Er.ok : Er → Prop
  | nil : Er.ok .nil
  | s {g : Nat} (h : g < 21) : Er.ok (.s g)
  | at {p : Int} {g : Nat} (h : g < 21) : Er.ok (.at p (.s g))
theorem d5i (e : Er) : a0l (a1p bk e) = true ∧ a0j (a1p bk e) = true := by
  cases e <;> simp [a1p, a0l, a0j]
end
end Go.Ideal.Tryd
end
section
set_option linter.unusedVariables false
set_option linter.unusedSimpArgs false
set_option maxRecDepth 10000
namespace Go.Ideal.Tryd
section
variable {G : Nat → Option Value} {bk : Nat → Nat}
end
end Go.Ideal.Tryd
end
section
set_option linter.unusedVariables false
set_option linter.unusedSimpArgs false
set_option maxRecDepth 10000
namespace Go.Ideal.Tryd
section
variable {G : Nat → Option Value} {bk : Nat → Nat × Nat} {Q : Exit → St → Prop} {st : St}
end
end Go.Ideal.Tryd
end
section
set_option linter.unusedVariables false
set_option linter.unusedSimpArgs false
namespace Go.Ideal.Tryd
theorem get!_set {α : Type} [Inhabited α] {l : List α} {i k : Nat} {v : α} (hi : i < l.length) : (l.set i v)[k]! = if k = i then v else l[k]! := by
  by_cases h : k = i
  · subst h; simp [hi]
  · simp only [h, if_false]
    by_cases hk : k < l.length
    · simp [hk, Ne.symm h, List.getElem_set]
    · simp [hk]
theorem d3q {n : Nat} : ∀ {ks l : List Int}, l.length = n → (∀ k ∈ ks, 0 ≤ k ∧ k < (n : Int)) → (∀ k, k < n → (ks.count (k : Int) : Int) ≤ l[k]! ∧ l[k]! < 2 ^ 62) → ∀ k, k < n → (e0i ks l)[k]! = l[k]! - ks.count (k : Int)
  | [], l, hl, hk, hb, k, hkn => by simp [e0i]
  | x :: xs, l, hl, hk, hb, k, hkn => by
    obtain ⟨h1, h2⟩ := hk x (by simp)
    have hx : x.toNat < l.length := by omega
    have e : (x.toNat : Int) = x := by omega
    have hbx := hb x.toNat (by omega)
    rw [e] at hbx
    simp only [List.count_cons_self] at hbx
    have hw : wr (l[x.toNat]! - 1) = l[x.toNat]! - 1 := b77 (by omega)
    rw [e0i, hw, d3q (n := n) (by simpa using hl) (fun k hk' => hk k (by simp [hk'])) (fun k hkn => ?_) k hkn, get!_set hx]
    · by_cases hkx : k = x.toNat
      · subst hkx; rw [if_pos rfl, e, List.count_cons_self]; omega
      · have : ¬ (x = (k : Int)) := by omega
        simp only [hkx, if_false, List.count_cons, beq_iff_eq, this, Nat.add_zero]
    · rw [get!_set hx]
      have := hb k hkn
      by_cases hkx : k = x.toNat
      · subst hkx; rw [e] at this ⊢; rw [if_pos rfl]; simp only [List.count_cons_self] at this; omega
      · have hne : ¬ (x = (k : Int)) := by omega
        simp only [hkx, if_false]
        simp only [List.count_cons, beq_iff_eq, hne, if_false, Nat.add_zero] at this
        exact this
def cnt (done : List Bool) (row : List Int) : Nat := row.countP fun x => !done[x.toNat]!
theorem d3o {done : List Bool} {i : Nat} (hi : i < done.length) (hd : done[i]! = false) : ∀ {row : List Int}, (∀ x ∈ row, 0 ≤ x ∧ x < (done.length : Int)) → cnt (done.set i true) row + row.count (i : Int) = cnt done row
  | [], _ => by simp [cnt]
  | x :: xs, h => by
    have ih := d3o hi hd (row := xs) (fun y hy => h y (by simp [hy]))
    simp only [cnt] at ih ⊢
    rw [List.countP_cons, List.countP_cons, List.count_cons, get!_set hi]
    have := (h x (by simp)).1
    by_cases hx : x.toNat = i
    · have : x = (i : Int) := by omega
      subst this
      simp [hd] at ih ⊢
      omega
    · have : ¬ (x = (i : Int)) := by omega
      simp only [hx, if_false, beq_iff_eq, this, Nat.add_zero]
      omega
structure J (ins u : List (List Int)) (done : List Bool) (left : List Int) : Prop where
  hd : done.length = ins.length
  hl : left.length = ins.length
  left : ∀ k, k < ins.length → left[k]! = cnt done ins[k]!
structure U (ins u : List (List Int)) : Prop where
  inb : inB ins.length ins
  len : ∀ r ∈ ins, r.length < 2 ^ 61
  cnt : ∀ k, k < ins.length → ∀ j, j < ins.length → (u[k]!).count (j : Int) = (ins[j]!).count (k : Int)
  ub : ∀ k, k < ins.length → ∀ x ∈ u[k]!, 0 ≤ x ∧ x < (ins.length : Int)
theorem e7k {done : List Bool} {row : List Int} : cnt done row ≤ row.length := List.countP_le_length
theorem J.step {ins u : List (List Int)} {done : List Bool} {left : List Int} (hU : U ins u) (h : J ins u done left) {i : Nat} (hi : i < ins.length) (hdi : done[i]! = false) : J ins u (done.set i true) (e0i u[i]! left) where
  hd := by simpa using h.hd
  hl := by rw [d1u]; exact h.hl
  left k hk := by
    have hrow : ∀ k, k < ins.length → ins[k]! ∈ ins := fun k hk => by simp [hk]
    have hset : ∀ k, k < ins.length → cnt (done.set i true) ins[k]! + (ins[k]!).count (i : Int) = cnt done ins[k]! := fun k hk => d3o (by rw [h.hd]; exact hi) hdi (fun x hx => by rw [h.hd]; exact hU.inb _ (hrow k hk) x hx)
    rw [d3q h.hl (hU.ub i hi) (fun k hk => ?_) k hk, h.left k hk, hU.cnt i hi k hk]
    · have := hset k hk
      omega
    · rw [h.left k hk, hU.cnt i hi k hk]
      have := hset k hk
      have h2 := e7k (done := done) (row := ins[k]!)
      have h3 := hU.len _ (hrow k hk)
      omega
end Go.Ideal.Tryd
end
section
set_option linter.unusedVariables false
set_option linter.unusedSimpArgs false
namespace Go.Ideal.Tryd
structure Ordered (ins : List (List Int)) (done : List Bool) (out : List Int) : Prop where
  hd : done.length = ins.length
  nd : out.Nodup
  mem : ∀ x, x < ins.length → (done[x]! = true ↔ (x : Int) ∈ out)
  rng : ∀ x ∈ out, 0 ≤ x ∧ x < (ins.length : Int)
  beh : ∀ p, p < out.length → ∀ y ∈ ins[(out[p]!).toNat]!, y ∈ out.take p
end Go.Ideal.Tryd
end
section
set_option linter.unusedVariables false
set_option linter.unusedSimpArgs false
set_option maxRecDepth 10000
namespace Go.Ideal.Tryd
section
variable {G : Nat → Option Value} {bk : Nat → Nat × Nat} {Q : Exit → St → Prop} {st : St}
end
end Go.Ideal.Tryd
end
