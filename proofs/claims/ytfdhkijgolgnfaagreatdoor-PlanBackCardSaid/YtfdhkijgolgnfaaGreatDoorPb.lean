/- Part Pb of the proof: a machine with trees for values, its soundness, and walks on it. -/
import Derived.Test.YtfdhkijgolgnfaaGreatDoorPa
section
set_option linter.unusedVariables false
set_option linter.unusedSimpArgs false
set_option maxRecDepth 10000
namespace Go.Ideal.Tryz
inductive Er where
  | nil
  | s (g : Nat)
  | at (p : Int) (e : Er)
def a1j (bk : Nat → Nat × Nat) : Er → AV
  | .nil => .lit .nilIface
  | .s g => sv bk g
  | .at p e => .ifc h8o (.ip [li p, a1j bk e] 0)
abbrev wr (n : Int) : Int := IntKind.i64.wrap n
def inB (n : Nat) (u : List (List Int)) : Prop := ∀ r ∈ u, ∀ k ∈ r, 0 ≤ k ∧ k < (n : Int)
section
variable {G : Nat → Option Value} {bk : Nat → Nat × Nat} {Q : Exit → St → Prop} {st : St}
end
def e9z : List Int → List Int → List Int
  | [], l => l
  | k :: ks, l => e9z ks (l.set k.toNat (wr (l[k.toNat]! - 1)))
theorem e08 : ∀ (ks l : List Int), (e9z ks l).length = l.length
  | [], l => rfl
  | k :: ks, l => by rw [e9z, e08]; simp
section
variable {G : Nat → Option Value} {Q : Exit → St → Prop} {st : St}
end
end Go.Ideal.Tryz
end
section
set_option linter.unusedVariables false
set_option linter.unusedSimpArgs false
set_option maxRecDepth 10000
namespace Go.Ideal.Tryz
section
variable {G : Nat → Option Value} {bk : Nat → Nat × Nat}
theorem e83 (n : Int) : ACalls pg G c5r [li n] (d93 n false 0) := by
  refine b9w rfl ?_
  simp (disch := omega) [go_sem, b3s]
theorem e6q (hS : Sent G bk) {g h : Nat} (hg : g < 21) (hh : h < 21) : ACalls pg G c3b [sv bk g, sv bk h] (lb (decide (g = h))) := by
  refine b8t rfl ?_
  simp (disch := omega) [go_sem, b1m, hS.blk]
  by_cases h2 : g = h
  · simp [h2]
  · simp [h2]; intro h3 h4; exact h2 (hS.inj _ _ hg hh (Prod.ext h3 h4))
theorem d19 : a2i.length = 21 := rfl
theorem d6l : ∀ g ∈ a2i, g < 21 := by decide
def b9z (g : Nat) : List Nat → Nat → Int
  | [], _ => -1
  | h :: hs, i => if g = h then 101 + i else b9z g hs (i + 1)
def c2x (g : Nat) : Int := b9z g a2i 0
theorem d1h {g i k : Nat} (h : i < a2i.length) : b9z g (a2i.drop i) k = if g = a2i[i] then 101 + (k : Int) else b9z g (a2i.drop (i + 1)) (k + 1) := by
  rw [List.drop_eq_getElem_cons h]; rfl
theorem c9k (hS : Sent G bk) {g : Nat} (hg : g < 21) : ACalls pg G b7n [sv bk g] (li (c2x g)) := by
  refine b11 rfl ?_
  simp (disch := omega) [go_sem, a6k]
  refine a0g (d4h G bk hS) rfl rfl ?_
  simp (disch := omega) [go_sem]
  refine a0u Nat (fun i st => st.s 0 = sv bk g ∧ st.s 3 = .own 1 21 (a2i.map (sv bk)) ∧ st.s 4 = li i ∧ i ≤ 21 ∧ b9z g (a2i.drop i) i = c2x g) (fun i => 21 - i) 0 ?_ ?_
  · exact ⟨by simp (disch := omega) [go_sem], by simp (disch := omega) [go_sem], by simp (disch := omega) [go_sem], by simp, rfl⟩
  · rintro i st K ⟨h0, h3, h4, hi, hc⟩ hK
    by_cases hlt : i < 21
    · have hlt' : i < a2i.length := hlt
      rw [d1h hlt'] at hc
      have hlt2 : a2i[i] < 21 := d6l _ (List.getElem_mem hlt')
      simp (disch := omega) [go_sem, a3w, h0, h3, h4, d19, hlt]
      refine a0g (e6q hS hg hlt2) rfl rfl ?_
      by_cases hgi : g = a2i[i]
      · rw [if_pos hgi] at hc
        simp (disch := omega) [go_sem, h4, ← hgi, ← hc]
      · rw [if_neg hgi] at hc
        simp (disch := omega) [go_sem, h0, h3, h4, hgi]
        exact hK (i + 1) _ ⟨by simp (disch := omega) [go_sem, h0], by simp (disch := omega) [go_sem, h3], by simp (disch := omega) [go_sem, h4], by omega, hc⟩ (by omega)
    · obtain rfl : i = 21 := by omega
      have : c2x g = -1 := by rw [← hc]; rfl
      simp (disch := omega) [go_sem, a3w, h3, h4, this]
abbrev fl (x : Int × Bool × Int) : AV := d93 x.1 x.2.1 x.2.2
def Er.flt : Er → Int × Bool × Int
  | .nil => (0, false, 0)
  | .s g => (c2x g, false, 0)
  | .at p (.s g) => (c2x g, true, p)
  | _ => (-1, false, 0)
inductive Er.ok : Er → Prop
  | nil : Er.ok .nil
  | s {g : Nat} (h : g < 21) : Er.ok (.s g)
  | at {p : Int} {g : Nat} (h : g < 21) : Er.ok (.at p (.s g))
theorem e5x : ∀ g, g < 21 → c2x g ≠ 0 := by decide
theorem e9n (hS : Sent G bk) {e : Er} (he : e.ok) : ACalls pg G c3n [a1j bk e] (fl e.flt) := by
  refine b63 rfl ?_
  cases he with
  | nil =>
    simp (disch := omega) [go_sem, a34, a1j]
    refine a0g (e8x G) rfl rfl ?_
    simp (disch := omega) [go_sem, Er.flt]
  | s h =>
    simp (disch := omega) [go_sem, a34, a1j]
    refine a0g (c9k hS h) rfl rfl ?_
    simp (disch := omega) [go_sem]
    refine a0g (e83 _) rfl rfl ?_
    simp (disch := omega) [go_sem, Er.flt]
  | @«at» p g h =>
    simp (disch := omega) [go_sem, a34, a1j]
    refine a1r ?_
    simp (disch := omega) [go_sem]
    refine a16 (c9k hS h) rfl rfl (by simp) [32] (by simp) (by simp (disch := omega) [go_sem]) ?_
    simp (disch := omega) [go_sem]
    refine a16 (e1o G _ _) (by split <;> rfl) (by split <;> rfl) (by simp) [37] (by simp) (by simp (disch := omega) [go_sem]) ?_
    rw [if_neg (e5x g h)]
    simp (disch := omega) [go_sem]
    refine a1q (by decide) fun s2 hs he => ?_
    simp (disch := omega) [go_sem, hs, Er.flt]
theorem e47 (e : Er) : a0k (a1j bk e) = true ∧ a0l (a1j bk e) = true := by
  cases e <;> simp [a1j, a0k, a0l]
theorem e9g (hS : Sent G bk) {e : Er} (he : e.ok) (f : Int × Bool × Int) : ACalls pg G c6f [a1j bk e, fl f] (lb (decide (e.flt = f))) := by
  refine b9d rfl ?_
  have hf := e9n (G := G) (bk := bk) hS he
  have goal : ∀ x : Int × Bool × Int, (decide (x.1 = f.1) && (decide (x.2.1 = f.2.1) && decide (x.2.2 = f.2.2))) = decide (x = f) := by
    rintro ⟨a, b, c⟩; obtain ⟨d, e, f⟩ := f; simp
  cases he with
  | _ =>
    simp (disch := omega) [go_sem, b26, a1j] at hf ⊢
    refine a1r ?_
    simp (disch := omega) [go_sem]
    refine a16 hf rfl rfl (by simp) [6] (by simp) (by simp (disch := omega) [go_sem]) ?_
    simp (disch := omega) [go_sem]
    refine a16 (g3p G _ _ _ _ _ _) rfl rfl (by simp) [8] (by simp) (by simp (disch := omega) [go_sem]) ?_
    simp (disch := omega) [go_sem]
    refine a1q (by decide) fun s2 hs he => ?_
    simp (disch := omega) [go_sem, hs]
    exact goal _
end
end Go.Ideal.Tryz
end
section
set_option linter.unusedVariables false
set_option linter.unusedSimpArgs false
set_option maxRecDepth 10000
namespace Go.Ideal.Tryz
section
variable {G : Nat → Option Value} {bk : Nat → Nat}
theorem d9j {α : Type} [Inhabited α] {xs ys : List α} (hl : xs.length = ys.length) (h : ∀ i, i < xs.length → xs[i]! = ys[i]!) : xs = ys := by
  apply List.ext_getElem hl
  intro i h1 h2
  have := h i h1
  simpa [h1, h2] using this
theorem c9n {a b : List Int} (ha : a.length < 2 ^ 62) : ACalls pg G b65 [slI a, slI b] (lb (decide (a = b))) := by
  refine b1v rfl ?_
  by_cases hl : a.length = b.length
  · have hl' : (a.length : Int) = b.length := by omega
    simp (disch := omega) [go_sem, a4a, hl']
    refine a0u Nat (fun i st => st.s 0 = slI a ∧ st.s 1 = slI b ∧ st.s 5 = li i ∧ i ≤ a.length ∧ ∀ j, j < i → a[j]! = b[j]!) (fun i => a.length - i) 0 ?_ ?_
    · exact ⟨by simp (disch := omega) [go_sem, hl], by simp (disch := omega) [go_sem], by simp (disch := omega) [go_sem], by simp, fun j hj => by omega⟩
    · rintro i st K ⟨h0, h1, h5, hi, hc⟩ hK
      by_cases hlt : i < a.length
      · have hlt2 : i < b.length := by omega
        simp (disch := omega) [go_sem, a3u, h0, h1, h5, hlt]
        refine a1r ?_
        simp (disch := omega) [go_sem, h0, h1, h5]
        refine a1q (by decide) fun s2 hs he => ?_
        by_cases he2 : a[i] = b[i]
        · simp (disch := omega) [go_sem, hs, he2, h5]
          exact hK (i + 1) _ ⟨by simp (disch := omega) [go_sem, hs, h0], by simp (disch := omega) [go_sem, hs, h1], by simp (disch := omega) [go_sem], by omega, fun j hj => by
            by_cases hji : j = i
            · subst hji; simpa [hlt, hlt2] using he2
            · exact hc j (by omega)⟩ (by omega)
        · have : a ≠ b := by rintro rfl; exact he2 rfl
          simp (disch := omega) [go_sem, hs, he2, h5, this]
      · have : a = b := d9j hl fun j hj => hc j (by omega)
        simp (disch := omega) [go_sem, a3u, h0, h5, hlt, this]
  · have hl' : ¬ (a.length : Int) = b.length := by omega
    have : a ≠ b := by rintro rfl; exact hl rfl
    simp (disch := omega) [go_sem, a4a, hl', this]
end
end Go.Ideal.Tryz
end
section
set_option linter.unusedVariables false
set_option linter.unusedSimpArgs false
set_option maxRecDepth 10000
namespace Go.Ideal.Tryz
section
variable {G : Nat → Option Value} {bk : Nat → Nat × Nat} {Q : Exit → St → Prop} {st : St}
end
end Go.Ideal.Tryz
end
section
set_option linter.unusedVariables false
set_option linter.unusedSimpArgs false
namespace Go.Ideal.Tryz
theorem get!_set {α : Type} [Inhabited α] {l : List α} {i k : Nat} {v : α} (hi : i < l.length) : (l.set i v)[k]! = if k = i then v else l[k]! := by
  by_cases h : k = i
  · subst h; simp [hi]
  · simp only [h, if_false]
    by_cases hk : k < l.length
    · simp [hk, Ne.symm h, List.getElem_set]
    · simp [hk]
theorem e4m {n : Nat} : ∀ {ks l : List Int}, l.length = n → (∀ k ∈ ks, 0 ≤ k ∧ k < (n : Int)) → (∀ k, k < n → (ks.count (k : Int) : Int) ≤ l[k]! ∧ l[k]! < 2 ^ 62) → ∀ k, k < n → (e9z ks l)[k]! = l[k]! - ks.count (k : Int)
  | [], l, hl, hk, hb, k, hkn => by simp [e9z]
  | x :: xs, l, hl, hk, hb, k, hkn => by
    obtain ⟨h1, h2⟩ := hk x (by simp)
    have hx : x.toNat < l.length := by omega
    have e : (x.toNat : Int) = x := by omega
    have hbx := hb x.toNat (by omega)
    rw [e] at hbx
    simp only [List.count_cons_self] at hbx
    have hw : wr (l[x.toNat]! - 1) = l[x.toNat]! - 1 := c4d (by omega)
    rw [e9z, hw, e4m (n := n) (by simpa using hl) (fun k hk' => hk k (by simp [hk'])) (fun k hkn => ?_) k hkn, get!_set hx]
    · by_cases hkx : k = x.toNat
      · subst hkx; rw [if_pos rfl, e, List.count_cons_self]; omega
      · have : ¬ (x = (k : Int)) := by omega
        simp only [hkx, if_false, List.count_cons, beq_iff_eq, this, Nat.add_zero]
    · rw [get!_set hx]
      have := hb k hkn
      by_cases hkx : k = x.toNat
      · subst hkx; rw [e] at this ⊢; rw [if_pos rfl]; simp only [List.count_cons_self] at this; omega
      · have hne : ¬ (x = (k : Int)) := by omega
        simp only [hkx, if_false]
        simp only [List.count_cons, beq_iff_eq, hne, if_false, Nat.add_zero] at this
        exact this
def cnt (done : List Bool) (row : List Int) : Nat := row.countP fun x => !done[x.toNat]!
theorem e4p {done : List Bool} {i : Nat} (hi : i < done.length) (hd : done[i]! = false) : ∀ {row : List Int}, (∀ x ∈ row, 0 ≤ x ∧ x < (done.length : Int)) → cnt (done.set i true) row + row.count (i : Int) = cnt done row
  | [], _ => by simp [cnt]
  | x :: xs, h => by
    have ih := e4p hi hd (row := xs) (fun y hy => h y (by simp [hy]))
    simp only [cnt] at ih ⊢
    rw [List.countP_cons, List.countP_cons, List.count_cons, get!_set hi]
    have := (h x (by simp)).1
    by_cases hx : x.toNat = i
    · have : x = (i : Int) := by omega
      subst this
      simp [hd] at ih ⊢
      omega
    · have : ¬ (x = (i : Int)) := by omega
      simp only [hx, if_false, beq_iff_eq, this, Nat.add_zero]
      omega
structure J (ins u : List (List Int)) (done : List Bool) (left : List Int) : Prop where
  hd : done.length = ins.length
  hl : left.length = ins.length
  left : ∀ k, k < ins.length → left[k]! = cnt done ins[k]!
structure U (ins u : List (List Int)) : Prop where
  inb : inB ins.length ins
  len : ∀ r ∈ ins, r.length < 2 ^ 61
  cnt : ∀ k, k < ins.length → ∀ j, j < ins.length → (u[k]!).count (j : Int) = (ins[j]!).count (k : Int)
  ub : ∀ k, k < ins.length → ∀ x ∈ u[k]!, 0 ≤ x ∧ x < (ins.length : Int)
theorem g3x {done : List Bool} {row : List Int} : cnt done row ≤ row.length := List.countP_le_length
theorem J.step {ins u : List (List Int)} {done : List Bool} {left : List Int} (hU : U ins u) (h : J ins u done left) {i : Nat} (hi : i < ins.length) (hdi : done[i]! = false) : J ins u (done.set i true) (e9z u[i]! left) where
  hd := by simpa using h.hd
  hl := by rw [e08]; exact h.hl
  left k hk := by
    have hrow : ∀ k, k < ins.length → ins[k]! ∈ ins := fun k hk => by simp [hk]
    have hset : ∀ k, k < ins.length → cnt (done.set i true) ins[k]! + (ins[k]!).count (i : Int) = cnt done ins[k]! := fun k hk => e4p (by rw [h.hd]; exact hi) hdi (fun x hx => by rw [h.hd]; exact hU.inb _ (hrow k hk) x hx)
    rw [e4m h.hl (hU.ub i hi) (fun k hk => ?_) k hk, h.left k hk, hU.cnt i hi k hk]
    · have := hset k hk
      omega
    · rw [h.left k hk, hU.cnt i hi k hk]
      have := hset k hk
      have h2 := g3x (done := done) (row := ins[k]!)
      have h3 := hU.len _ (hrow k hk)
      omega
end Go.Ideal.Tryz
end
section
set_option linter.unusedVariables false
set_option linter.unusedSimpArgs false
namespace Go.Ideal.Tryz
structure Ordered (ins : List (List Int)) (done : List Bool) (out : List Int) : Prop where
  hd : done.length = ins.length
  nd : out.Nodup
  mem : ∀ x, x < ins.length → (done[x]! = true ↔ (x : Int) ∈ out)
  rng : ∀ x ∈ out, 0 ≤ x ∧ x < (ins.length : Int)
  beh : ∀ p, p < out.length → ∀ y ∈ ins[(out[p]!).toNat]!, y ∈ out.take p
end Go.Ideal.Tryz
end
section
set_option linter.unusedVariables false
set_option linter.unusedSimpArgs false
set_option maxRecDepth 10000
namespace Go.Ideal.Tryz
section
variable {G : Nat → Option Value} {bk : Nat → Nat × Nat} {Q : Exit → St → Prop} {st : St}
end
end Go.Ideal.Tryz
end
