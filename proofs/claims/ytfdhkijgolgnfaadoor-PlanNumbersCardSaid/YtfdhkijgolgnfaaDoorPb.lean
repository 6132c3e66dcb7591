/- Part Pb of the proof: a machine with trees for values, its soundness, and walks on it. -/
import Derived.Test.YtfdhkijgolgnfaaDoorPa

section
set_option linter.unusedVariables false
set_option linter.unusedSimpArgs false
set_option maxRecDepth 10000
namespace Go.Ideal.Tryd
/-- An error of api: none, a sentinel (by its variable), a place with an error. -/
inductive Er where
  | nil
  | s (g : Nat)
  | at (p : Int) (e : Er)
def encE (bk : Nat → Nat × Nat) : Er → AV
  | .nil => .lit .nilIface
  | .s g => sv bk g
  | .at p e => .ifc T_At (.ip [li p, encE bk e] 0)
abbrev wr (n : Int) : Int := IntKind.i64.wrap n
/-! ### order.Sort, as it is written -/
/-- Numbers that name places. -/
def inB (n : Nat) (u : List (List Int)) : Prop := ∀ r ∈ u, ∀ k ∈ r, 0 ≤ k ∧ k < (n : Int)
section
variable {G : Nat → Option Value} {bk : Nat → Nat × Nat} {Q : Exit → St → Prop} {st : St}
end
/-! ### the second part -/
def oDec : List Int → List Int → List Int
  | [], l => l
  | k :: ks, l => oDec ks (l.set k.toNat (wr (l[k.toNat]! - 1)))
theorem oDec_len : ∀ (ks l : List Int), (oDec ks l).length = l.length
  | [], l => rfl
  | k :: ks, l => by rw [oDec, oDec_len]; simp
section
variable {G : Nat → Option Value} {Q : Exit → St → Prop} {st : St}
end
end Go.Ideal.Tryd
end

section
set_option linter.unusedVariables false
set_option linter.unusedSimpArgs false
set_option maxRecDepth 10000
namespace Go.Ideal.Tryd
section
variable {G : Nat → Option Value} {bk : Nat → Nat × Nat}
theorem bare57 (n : Int) : ACalls pg G F_lodgeref_Bare [li n] (fault n false 0) := by
  refine lodgeref_Bare_call rfl ?_
  simp (disch := omega) [go_sem, lodgeref_Bare_c]
theorem alike140 (hS : Sent G bk) {g h : Nat} (hg : g < 21) (hh : h < 21) : ACalls pg G F_lodgesee_Alike [sv bk g, sv bk h] (lb (decide (g = h))) := by
  refine lodgesee_Alike_call rfl ?_
  simp (disch := omega) [go_sem, lodgesee_Alike_c, hS.blk]
  by_cases h2 : g = h
  · simp [h2]
  · simp [h2]; intro h3 h4; exact h2 (hS.inj _ _ hg hh (Prod.ext h3 h4))
theorem sentOrder_len : sentOrder.length = 21 := rfl
theorem sentOrder_lt : ∀ g ∈ sentOrder, g < 21 := by decide
def codeFrom (g : Nat) : List Nat → Nat → Int
  | [], _ => -1
  | h :: hs, i => if g = h then 101 + i else codeFrom g hs (i + 1)
/-- A sentinel's number. -/
def codeOf (g : Nat) : Int := codeFrom g sentOrder 0
theorem codeFrom_drop {g i k : Nat} (h : i < sentOrder.length) : codeFrom g (sentOrder.drop i) k = if g = sentOrder[i] then 101 + (k : Int) else codeFrom g (sentOrder.drop (i + 1)) (k + 1) := by
  rw [List.drop_eq_getElem_cons h]; rfl
theorem sentinel99 (hS : Sent G bk) {g : Nat} (hg : g < 21) : ACalls pg G F_lodgesee_sentinel [sv bk g] (li (codeOf g)) := by
  refine lodgesee_sentinel_call rfl ?_
  simp (disch := omega) [go_sem, lodgesee_sentinel_c]
  refine cal_pure (sentinels139 G bk hS) rfl rfl ?_
  simp (disch := omega) [go_sem]
  refine aw_loop Nat (fun i st => st.s 0 = sv bk g ∧ st.s 3 = .own 1 21 (sentOrder.map (sv bk)) ∧ st.s 4 = li i ∧ i ≤ 21 ∧ codeFrom g (sentOrder.drop i) i = codeOf g) (fun i => 21 - i) 0 ?_ ?_
  · exact ⟨by simp (disch := omega) [go_sem], by simp (disch := omega) [go_sem], by simp (disch := omega) [go_sem], by simp, rfl⟩
  · rintro i st K ⟨h0, h3, h4, hi, hc⟩ hK
    by_cases hlt : i < 21
    · have hlt' : i < sentOrder.length := hlt
      rw [codeFrom_drop hlt'] at hc
      have hlt2 : sentOrder[i] < 21 := sentOrder_lt _ (List.getElem_mem hlt')
      simp (disch := omega) [go_sem, lodgesee_sentinel_l0, h0, h3, h4, sentOrder_len, hlt]
      refine cal_pure (alike140 hS hg hlt2) rfl rfl ?_
      by_cases hgi : g = sentOrder[i]
      · rw [if_pos hgi] at hc
        simp (disch := omega) [go_sem, h4, ← hgi, ← hc]
      · rw [if_neg hgi] at hc
        simp (disch := omega) [go_sem, h0, h3, h4, hgi]
        exact hK (i + 1) _ ⟨by simp (disch := omega) [go_sem, h0], by simp (disch := omega) [go_sem, h3], by simp (disch := omega) [go_sem, h4], by omega, hc⟩ (by omega)
    · obtain rfl : i = 21 := by omega
      have : codeOf g = -1 := by rw [← hc]; rfl
      simp (disch := omega) [go_sem, lodgesee_sentinel_l0, h3, h4, this]
abbrev fl (x : Int × Bool × Int) : AV := fault x.1 x.2.1 x.2.2
/-- What lodgesee.Fault says. -/
def Er.flt : Er → Int × Bool × Int
  | .nil => (0, false, 0)
  | .s g => (codeOf g, false, 0)
  | .at p (.s g) => (codeOf g, true, p)
  | _ => (-1, false, 0)
inductive Er.ok : Er → Prop
  | nil : Er.ok .nil
  | s {g : Nat} (h : g < 21) : Er.ok (.s g)
  | at {p : Int} {g : Nat} (h : g < 21) : Er.ok (.at p (.s g))
theorem codeOf_ne : ∀ g, g < 21 → codeOf g ≠ 0 := by decide
theorem fault49 (hS : Sent G bk) {e : Er} (he : e.ok) : ACalls pg G F_lodgesee_Fault [encE bk e] (fl e.flt) := by
  refine lodgesee_Fault_call rfl ?_
  cases he with
  | nil =>
    simp (disch := omega) [go_sem, lodgesee_Fault_c, encE]
    refine cal_pure (none47 G) rfl rfl ?_
    simp (disch := omega) [go_sem, Er.flt]
  | s h =>
    simp (disch := omega) [go_sem, lodgesee_Fault_c, encE]
    refine cal_pure (sentinel99 hS h) rfl rfl ?_
    simp (disch := omega) [go_sem]
    refine cal_pure (bare57 _) rfl rfl ?_
    simp (disch := omega) [go_sem, Er.flt]
  | @«at» p g h =>
    simp (disch := omega) [go_sem, lodgesee_Fault_c, encE]
    refine aw_draw ?_
    simp (disch := omega) [go_sem]
    refine dCal_pure (sentinel99 hS h) rfl rfl (by simp) [32] (by simp) (by simp (disch := omega) [go_sem]) ?_
    simp (disch := omega) [go_sem]
    refine dCal_pure (placed20 G _ _) (by split <;> rfl) (by split <;> rfl) (by simp) [37] (by simp) (by simp (disch := omega) [go_sem]) ?_
    rw [if_neg (codeOf_ne g h)]
    simp (disch := omega) [go_sem]
    refine dFin_i (by decide) fun s2 hs he => ?_
    simp (disch := omega) [go_sem, hs, Er.flt]
theorem encE_nr (e : Er) : noRef (encE bk e) = true ∧ noOwn (encE bk e) = true := by
  cases e <;> simp [encE, noRef, noOwn]
theorem same18 (hS : Sent G bk) {e : Er} (he : e.ok) (f : Int × Bool × Int) : ACalls pg G F_lodgesee_Same [encE bk e, fl f] (lb (decide (e.flt = f))) := by
  refine lodgesee_Same_call rfl ?_
  have hf := fault49 (G := G) (bk := bk) hS he
  have goal : ∀ x : Int × Bool × Int, (decide (x.1 = f.1) && (decide (x.2.1 = f.2.1) && decide (x.2.2 = f.2.2))) = decide (x = f) := by
    rintro ⟨a, b, c⟩; obtain ⟨d, e, f⟩ := f; simp
  cases he with
  | _ =>
    simp (disch := omega) [go_sem, lodgesee_Same_c, encE] at hf ⊢
    refine aw_draw ?_
    simp (disch := omega) [go_sem]
    refine dCal_pure hf rfl rfl (by simp) [6] (by simp) (by simp (disch := omega) [go_sem]) ?_
    simp (disch := omega) [go_sem]
    refine dCal_pure (same48 G _ _ _ _ _ _) rfl rfl (by simp) [8] (by simp) (by simp (disch := omega) [go_sem]) ?_
    simp (disch := omega) [go_sem]
    refine dFin_i (by decide) fun s2 hs he => ?_
    simp (disch := omega) [go_sem, hs]
    exact goal _
end
end Go.Ideal.Tryd
end

section
set_option linter.unusedVariables false
set_option linter.unusedSimpArgs false
set_option maxRecDepth 10000
namespace Go.Ideal.Tryd
section
variable {G : Nat → Option Value} {bk : Nat → Nat}
end
end Go.Ideal.Tryd
end

section
set_option linter.unusedVariables false
set_option linter.unusedSimpArgs false
set_option maxRecDepth 10000
namespace Go.Ideal.Tryd
/-! ### lodgeref17.Sort, as it is written -/
section
variable {G : Nat → Option Value} {bk : Nat → Nat × Nat} {Q : Exit → St → Prop} {st : St}
end
end Go.Ideal.Tryd
end

section
set_option linter.unusedVariables false
set_option linter.unusedSimpArgs false
namespace Go.Ideal.Tryd
/-! ### The two orders are one (plain) -/
theorem get!_set {α : Type} [Inhabited α] {l : List α} {i k : Nat} {v : α} (hi : i < l.length) : (l.set i v)[k]! = if k = i then v else l[k]! := by
  by_cases h : k = i
  · subst h; simp [hi]
  · simp only [h, if_false]
    by_cases hk : k < l.length
    · simp [hk, Ne.symm h, List.getElem_set]
    · simp [hk]
theorem dec_get {n : Nat} : ∀ {ks l : List Int}, l.length = n → (∀ k ∈ ks, 0 ≤ k ∧ k < (n : Int)) → (∀ k, k < n → (ks.count (k : Int) : Int) ≤ l[k]! ∧ l[k]! < 2 ^ 62) → ∀ k, k < n → (oDec ks l)[k]! = l[k]! - ks.count (k : Int)
  | [], l, hl, hk, hb, k, hkn => by simp [oDec]
  | x :: xs, l, hl, hk, hb, k, hkn => by
    obtain ⟨h1, h2⟩ := hk x (by simp)
    have hx : x.toNat < l.length := by omega
    have e : (x.toNat : Int) = x := by omega
    have hbx := hb x.toNat (by omega)
    rw [e] at hbx
    simp only [List.count_cons_self] at hbx
    have hw : wr (l[x.toNat]! - 1) = l[x.toNat]! - 1 := wrap_i64' (by omega)
    rw [oDec, hw, dec_get (n := n) (by simpa using hl) (fun k hk' => hk k (by simp [hk'])) (fun k hkn => ?_) k hkn, get!_set hx]
    · by_cases hkx : k = x.toNat
      · subst hkx; rw [if_pos rfl, e, List.count_cons_self]; omega
      · have : ¬ (x = (k : Int)) := by omega
        simp only [hkx, if_false, List.count_cons, beq_iff_eq, this, Nat.add_zero]
    · rw [get!_set hx]
      have := hb k hkn
      by_cases hkx : k = x.toNat
      · subst hkx; rw [e] at this ⊢; rw [if_pos rfl]; simp only [List.count_cons_self] at this; omega
      · have hne : ¬ (x = (k : Int)) := by omega
        simp only [hkx, if_false]
        simp only [List.count_cons, beq_iff_eq, hne, if_false, Nat.add_zero] at this
        exact this
/-- How many of a row's places have not come. -/
def cnt (done : List Bool) (row : List Int) : Nat := row.countP fun x => !done[x.toNat]!
theorem cnt_set {done : List Bool} {i : Nat} (hi : i < done.length) (hd : done[i]! = false) : ∀ {row : List Int}, (∀ x ∈ row, 0 ≤ x ∧ x < (done.length : Int)) → cnt (done.set i true) row + row.count (i : Int) = cnt done row
  | [], _ => by simp [cnt]
  | x :: xs, h => by
    have ih := cnt_set hi hd (row := xs) (fun y hy => h y (by simp [hy]))
    simp only [cnt] at ih ⊢
    rw [List.countP_cons, List.countP_cons, List.count_cons, get!_set hi]
    have := (h x (by simp)).1
    by_cases hx : x.toNat = i
    · have : x = (i : Int) := by omega
      subst this
      simp [hd] at ih ⊢
      omega
    · have : ¬ (x = (i : Int)) := by omega
      simp only [hx, if_false, beq_iff_eq, this, Nat.add_zero]
      omega
structure J (ins u : List (List Int)) (done : List Bool) (left : List Int) : Prop where
  hd : done.length = ins.length
  hl : left.length = ins.length
  left : ∀ k, k < ins.length → left[k]! = cnt done ins[k]!
structure U (ins u : List (List Int)) : Prop where
  inb : inB ins.length ins
  len : ∀ r ∈ ins, r.length < 2 ^ 61
  cnt : ∀ k, k < ins.length → ∀ j, j < ins.length → (u[k]!).count (j : Int) = (ins[j]!).count (k : Int)
  ub : ∀ k, k < ins.length → ∀ x ∈ u[k]!, 0 ≤ x ∧ x < (ins.length : Int)
theorem cnt_le {done : List Bool} {row : List Int} : cnt done row ≤ row.length := List.countP_le_length
theorem J.step {ins u : List (List Int)} {done : List Bool} {left : List Int} (hU : U ins u) (h : J ins u done left) {i : Nat} (hi : i < ins.length) (hdi : done[i]! = false) : J ins u (done.set i true) (oDec u[i]! left) where
  hd := by simpa using h.hd
  hl := by rw [oDec_len]; exact h.hl
  left k hk := by
    have hrow : ∀ k, k < ins.length → ins[k]! ∈ ins := fun k hk => by simp [hk]
    have hset : ∀ k, k < ins.length → cnt (done.set i true) ins[k]! + (ins[k]!).count (i : Int) = cnt done ins[k]! := fun k hk => cnt_set (by rw [h.hd]; exact hi) hdi (fun x hx => by rw [h.hd]; exact hU.inb _ (hrow k hk) x hx)
    rw [dec_get h.hl (hU.ub i hi) (fun k hk => ?_) k hk, h.left k hk, hU.cnt i hi k hk]
    · have := hset k hk
      omega
    · rw [h.left k hk, hU.cnt i hi k hk]
      have := hset k hk
      have h2 := cnt_le (done := done) (row := ins[k]!)
      have h3 := hU.len _ (hrow k hk)
      omega
end Go.Ideal.Tryd
end

section
set_option linter.unusedVariables false
set_option linter.unusedSimpArgs false
namespace Go.Ideal.Tryd
/-! ### Each stands behind its ins (plain) -/
/-- What is so at each round. -/
structure Ordered (ins : List (List Int)) (done : List Bool) (out : List Int) : Prop where
  hd : done.length = ins.length
  nd : out.Nodup
  mem : ∀ x, x < ins.length → (done[x]! = true ↔ (x : Int) ∈ out)
  rng : ∀ x ∈ out, 0 ≤ x ∧ x < (ins.length : Int)
  beh : ∀ p, p < out.length → ∀ y ∈ ins[(out[p]!).toNat]!, y ∈ out.take p
end Go.Ideal.Tryd
end

section
set_option linter.unusedVariables false
set_option linter.unusedSimpArgs false
set_option maxRecDepth 10000
namespace Go.Ideal.Tryd
section
variable {G : Nat → Option Value} {bk : Nat → Nat × Nat} {Q : Exit → St → Prop} {st : St}
end
end Go.Ideal.Tryd
end
