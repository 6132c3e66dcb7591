/- Part Wr of the proof: a machine with trees for values, its soundness, and walks on it. -/
import Derived.Test.YtfdhkijgolgnfaaDoorWb

section
set_option linter.unusedVariables false
set_option linter.unusedSimpArgs false
set_option maxRecDepth 10000
namespace Go.Ideal
section
variable {k : IntKind} {a b : Int}
theorem bl_rem' (h : b ≠ 0) : binLit .rem (.int k a) (.int k b) = some (.int k (a.tmod b)) := by simp [binLit, Op.intDiv, h]; rfl
@[go_sem] theorem ba_rem (h : b ≠ 0) : binAV .rem 0 (.lit (.int k a)) (.lit (.int k b)) = some (.lit (.int k (a.tmod b))) := ba_arith (bl_rem' h) rfl
theorem bl_quo' (h : b ≠ 0) : binLit .quo (.int k a) (.int k b) = some (.int k (k.wrap (a.tdiv b))) := by simp [binLit, Op.intDiv, h]; rfl
@[go_sem] theorem ba_quo (h : b ≠ 0) : binAV .quo 0 (.lit (.int k a)) (.lit (.int k b)) = some (.lit (.int k (k.wrap (a.tdiv b)))) := ba_arith (bl_quo' h) rfl
end
namespace Tryd
section
variable {G : Nat → Option Value} {bk : Nat → Nat × Nat} {Q : Exit → St → Prop} {st : St}
def numb (n m : Int) : Int := ((n.tmod m) + m).tmod m
theorem numb_rng {n m : Int} (h : 0 < m) : 0 ≤ numb n m ∧ numb n m < m := by
  have h1 := Int.lt_tmod_of_pos n h
  unfold numb
  exact ⟨Int.tmod_nonneg _ (by omega), Int.tmod_lt_of_pos _ h⟩
theorem number19 (n m : Int) (h : 0 < m) (h2 : m < 2 ^ 62) : ACalls pg G F_lodgeworld_Number [li n, li m] (li (numb n m)) := by
  refine lodgeworld_Number_call rfl ?_
  have h1 := Int.lt_tmod_of_pos n h
  have h3 := Int.tmod_lt_of_pos n h
  simp (disch := omega) [go_sem, lodgeworld_Number_c, numb]
/-! ### numbers in a row -/
def rowsG (n k : Nat) : List (List Int) := (List.range n).map fun j => if j < k then [(j : Int) + 1] else []
theorem rowsG_len {n k : Nat} : (rowsG n k).length = n := by simp [rowsG]
theorem rowsG_zero {n : Nat} : rowsG n 0 = List.replicate n [] := by
  apply List.ext_getElem <;> simp [rowsG]
theorem rowsG_set {n k : Nat} (h : k < n) : (rowsG n k).set k [(k : Int) + 1] = rowsG n (k + 1) := by
  apply List.ext_getElem
  · simp [rowsG]
  · intro i h1 h2
    rw [List.getElem_set]
    simp only [rowsG, List.getElem_map, List.getElem_range]
    split
    · subst_vars; simp
    · congr 1
      apply propext
      omega
def ringG (n : Nat) : List (List Int) := (rowsG n (n - 1)).set (n - 1) [0]
def rowTest (n : Nat) : Bool := (match oSort (rowsG n (n - 1)) with
  | .ok o => o == (List.range n).map (fun (i : Nat) => (n : Int) - 1 - i)
  | _ => false) && (match oSort (ringG n) with
  | .error e => e.1 == 0 && e.2 == 1
  | _ => false) && decide (tot (rowsG n (n - 1)) < 100) && decide (tot (ringG n) < 100)
theorem rowTests : ((List.range 60).all fun m => rowTest (m + 1)) = true := by kernel_rfl
theorem rowTest_at {n : Nat} (h : 1 ≤ n) (h2 : n ≤ 60) : oSort (rowsG n (n - 1)) = .ok ((List.range n).map (fun (i : Nat) => (n : Int) - 1 - i)) ∧ oSort (ringG n) = .error (0, 1) ∧ tot (rowsG n (n - 1)) < 100 ∧ tot (ringG n) < 100 := by
  have := List.all_eq_true.1 rowTests (n - 1) (by simp; omega)
  rw [show n - 1 + 1 = n by omega] at this
  simp only [rowTest, Bool.and_eq_true, decide_eq_true_eq] at this
  obtain ⟨⟨⟨h1, h2⟩, h3⟩, h4⟩ := this
  refine ⟨?_, ?_, h3, h4⟩
  · split at h1
    · rename_i o ho
      simp only [beq_iff_eq] at h1
      rw [ho, h1]
    · cases h1
  · split at h2
    · rename_i e he
      obtain ⟨e1, e2⟩ := e
      simp only [Bool.and_eq_true, beq_iff_eq] at h2
      rw [he, h2.1, h2.2]
    · cases h2
theorem or_l0 {n : Nat} {b ok : Bool} (h1 : 1 ≤ n) (hn : n ≤ 60) (h0 : st.s 0 = li n) (h1b : st.s 1 = lb b) (h5 : st.s 5 = lb ok) (h6 : st.s 6 = owII (rowsG n 0)) (h7 : st.s 7 = li 0)
    (hex : ∀ s, s.s 0 = li n → s.s 1 = lb b → s.s 5 = lb ok → s.s 6 = owII (rowsG n (n - 1)) → Q (.exit 0) s) : AW pg G 79 (.loop lodgelaw18_OrderRows_l0) Q st := by
  refine aw_loop Nat (fun i st => i + 1 ≤ n ∧ st.s 0 = li n ∧ st.s 1 = lb b ∧ st.s 5 = lb ok ∧ st.s 6 = owII (rowsG n i) ∧ st.s 7 = li i) (fun i => n - i) 0 ?_ ?_
  · exact ⟨by omega, h0, h1b, h5, h6, h7⟩
  · clear h0 h1b h5 h6 h7
    rintro i st K ⟨hi, h0, h1b, h5, h6, h7⟩ hK
    have hl := rowsG_len (n := n) (k := i)
    by_cases hlt : i + 1 < n
    · have hlt' : (i : Int) + 1 < n := by omega
      simp (disch := omega) [go_sem, lodgelaw18_OrderRows_l0, h0, h6, h7, hlt', hl]
      refine hK (i + 1) _ ⟨by omega, by simp (disch := omega) [go_sem, h0], by simp (disch := omega) [go_sem, h1b], by simp (disch := omega) [go_sem, h5], ?_, by simp (disch := omega) [go_sem, h7]⟩ (by omega)
      rw [← rowsG_set (by omega)]
      simp (disch := omega) [go_sem, h6, hl]
    · have hlt' : ¬ (i : Int) + 1 < n := by omega
      simp (disch := omega) [go_sem, lodgelaw18_OrderRows_l0, h0, h7, hlt']
      obtain rfl : i = n - 1 := by omega
      exact hex _ (by simp (disch := omega) [go_sem, h0]) (by simp (disch := omega) [go_sem, h1b]) (by simp (disch := omega) [go_sem, h5]) (by simp (disch := omega) [go_sem, h6])
end
end Tryd
end Go.Ideal
end

section
set_option linter.unusedVariables false
set_option linter.unusedSimpArgs false
set_option maxRecDepth 10000
namespace Go.Ideal.Tryd
section
variable {G : Nat → Option Value} {bk : Nat → Nat × Nat} {Q : Exit → St → Prop} {st : St}
def downN (n : Nat) : List Int := (List.range n).map (fun (i : Nat) => (n : Int) - 1 - i)
theorem or_l1 {n : Nat} {e : AV} (hn : n ≤ 60) (h0 : st.s 0 = li n) (h5 : st.s 5 = lb true) (h8 : st.s 8 = owI (downN n)) (h9 : st.s 9 = e) (he : ∃ v, e = .lit v) (h10 : st.s 10 = li 0)
    (hex : ∀ s, s.s 5 = lb true → s.s 9 = e → Q (.exit 2) s) : AW pg G 79 (.loop lodgelaw18_OrderRows_l1) Q st := by
  obtain ⟨v, rfl⟩ := he
  refine aw_loop Nat (fun i st => i ≤ n ∧ st.s 0 = li n ∧ st.s 5 = lb true ∧ st.s 8 = owI (downN n) ∧ st.s 9 = .lit v ∧ st.s 10 = li i) (fun i => n - i) 0 ?_ ?_
  · exact ⟨by omega, h0, h5, h8, h9, h10⟩
  · clear h0 h5 h8 h9 h10
    rintro i st K ⟨hi, h0, h5, h8, h9, h10⟩ hK
    have hl : (downN n).length = n := by simp [downN]
    by_cases hlt : i < n
    · have hg : (downN n)[i]'(by omega) = (n : Int) - 1 - i := by simp [downN]
      simp (disch := omega) [go_sem, lodgelaw18_OrderRows_l1, h0, h8, h10, hlt, hl, hg]
      exact hK (i + 1) _ ⟨by omega, by simp (disch := omega) [go_sem, h0], by simp (disch := omega) [go_sem, h5], by simp (disch := omega) [go_sem, h8], by simp (disch := omega) [go_sem, h9], by simp (disch := omega) [go_sem, h10]⟩ (by omega)
    · simp (disch := omega) [go_sem, lodgelaw18_OrderRows_l1, h0, h10, hlt]
      exact hex _ (by simp (disch := omega) [go_sem, h5]) (by simp (disch := omega) [go_sem, h9])
theorem orderRows4 (hS : Sent G bk) (n : Int) (b : Bool) : ACalls pg G F_lodgelaw18_OrderRows [li n, lb b] (lb true) := by
  refine lodgelaw18_OrderRows_call rfl ?_
  simp (disch := omega) [go_sem, lodgelaw18_OrderRows_c]
  refine cal_pure (first14 hS) rfl rfl ?_
  simp (disch := omega) [go_sem]
  refine cal_pure (number19 n 60 (by omega) (by omega)) rfl rfl ?_
  obtain ⟨m1, m2⟩ := numb_rng (n := n) (m := 60) (by omega)
  obtain ⟨k, hk⟩ : ∃ k : Nat, numb n 60 + 1 = k := ⟨(numb n 60 + 1).toNat, by omega⟩
  have k1 : 1 ≤ k := by omega
  have k2 : k ≤ 60 := by omega
  obtain ⟨t1, t2, t3, t4⟩ := rowTest_at k1 k2
  have t1 : oSort (rowsG k (k - 1)) = .ok (downN k) := t1
  have hld : (downN k).length = k := by simp [downN]
  simp (disch := omega) [go_sem, hk]
  refine or_l0 (n := k) (b := b) (ok := true) k1 k2 (by simp (disch := omega) [go_sem]) (by simp (disch := omega) [go_sem]) (by simp (disch := omega) [go_sem]) (by simp (disch := omega) [go_sem, rowsG_zero]) (by simp (disch := omega) [go_sem]) ?_
  intro s h0 h1 h5 h6
  have hl := rowsG_len (n := k) (k := k - 1)
  cases b with
  | true =>
    have e1 : frzL ((List.map owI (rowsG k (k - 1))).set (k - 1) (AV.own 1 1 [li 0])) = List.map slI (ringG k) := by
      rw [show (AV.own 1 1 [li 0]) = owI [0] from rfl, ← List.map_set, frzL_map, ringG]
      congr 1
      funext x
      simp [go_sem]
    have hl2 : (ringG k).length = k := by simp [ringG, hl]
    have e2 : List.take k (List.map slI (ringG k)) = List.map slI (ringG k) := List.take_of_length_le (by simp [hl2])
    have hsort := sort15 (G := G) (bk := bk) hS (ringG k) (by omega) (by omega)
    rw [t2] at hsort
    simp only [slII, hl2] at hsort
    simp (disch := omega) [go_sem, h0, h1, h5, h6, hl]
    simp only [e1, e2]
    refine cal_imm hsort rfl rfl ?_
    simp (disch := omega) [go_sem, encS, encE, h0, h1, h5]
    refine cal_pure (placed20 G _ _) rfl rfl ?_
    simp (disch := omega) [go_sem]
    refine cal_pure (same18 hS (e := .at 0 (.s 1)) (.at (by omega)) (111, true, 0)) rfl rfl ?_
    simp (disch := omega) [go_sem]
    decide
  | false =>
    have e2 : List.take k (List.map slI (rowsG k (k - 1))) = List.map slI (rowsG k (k - 1)) := List.take_of_length_le (by simp [hl])
    have hsort := sort15 (G := G) (bk := bk) hS (rowsG k (k - 1)) (by omega) (by omega)
    rw [t1] at hsort
    simp only [slII, hl] at hsort
    simp (disch := omega) [go_sem, h0, h1, h5, h6, hl]
    simp only [e2]
    refine cal_pure hsort rfl (by simp [encS, noImm, noImmL, noImmL_li]) ?_
    simp (disch := omega) [go_sem, encS, h0, h1, h5, hld]
    refine or_l1 (n := k) (e := .lit .nilIface) k2 (by simp (disch := omega) [go_sem, h0]) (by simp (disch := omega) [go_sem, h5]) (by simp (disch := omega) [go_sem, hld]) (by simp (disch := omega) [go_sem]) ⟨_, rfl⟩ (by simp (disch := omega) [go_sem]) ?_
    intro s2 h5 h9
    simp (disch := omega) [go_sem, h5, h9]
end
end Go.Ideal.Tryd
end
