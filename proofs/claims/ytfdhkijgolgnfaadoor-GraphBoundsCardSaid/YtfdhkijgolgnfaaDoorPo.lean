/- Part Po of the proof: a machine with trees for values, its soundness, and walks on it. -/
import Derived.Test.YtfdhkijgolgnfaaDoorPn
import Derived.Test.YtfdhkijgolgnfaaDoorPb
import Derived.Test.YtfdhkijgolgnfaaDoorPj

section
set_option linter.unusedVariables false
set_option linter.unusedSimpArgs false
set_option maxRecDepth 10000
namespace Go.Ideal.Tryd
deriving instance DecidableEq for Nd
deriving instance DecidableEq for Gr
section
variable {G : Nat → Option Value} {bk : Nat → Nat × Nat} {Q : Exit → St → Prop} {st : St}
theorem like90 (m n : Nd) (hm : m.fin) (hn : n.fin) : ACalls pg G F_graph_Like [.agg (encN m), .agg (encN n)] (lb (decide (m = n))) := by
  refine graph_Like_call rfl ?_
  have f1 := hm.ins
  have f2 := hm.args
  have f3 := hm.shape
  have f4 := hm.data
  have g1 := hn.ins
  have g2 := hn.args
  have g3 := hn.shape
  have g4 := hn.data
  obtain ⟨o1, i1, a1, s1, w1, d1⟩ := m
  obtain ⟨o2, i2, a2, s2, w2, d2⟩ := n
  simp only at f1 f2 f3 f4 g1 g2 g3 g4
  by_cases k1 : o1 = o2
  · subst k1
    simp (disch := omega) [go_sem, graph_Like_c, encN]
    refine cal_pure (equal117 i1 i2 f1 g1) rfl rfl ?_
    by_cases k2 : i1 = i2
    · subst k2
      simp (disch := omega) [go_sem]
      refine cal_pure (equal117 a1 a2 f2 g2) rfl rfl ?_
      by_cases k3 : a1 = a2
      · subst k3
        simp (disch := omega) [go_sem]
        refine cal_pure (tSame73 ⟨s1, w1, d1⟩ ⟨s2, w2, d2⟩ f3 g3 f4 g4) rfl rfl ?_
        simp (disch := omega) [go_sem, Nd.mk.injEq, Tn.mk.injEq]
      · simp (disch := omega) [go_sem, k3, Nd.mk.injEq]
    · simp (disch := omega) [go_sem, k2, Nd.mk.injEq]
  · simp (disch := omega) [go_sem, graph_Like_c, encN, k1, Nd.mk.injEq]
theorem eqf89 {f : FuncId} (hf : fnB pg f = true) {p : Nd → Nd → Bool} (a b : List Nd) (hp : ∀ x ∈ a, ∀ y ∈ b, ACallsX pg G f [.agg (encN x), .agg (encN y)] (lb (p x y)) []) (ha : a.length < 2 ^ 62) (hb : b.length < 2 ^ 62) : ACallsX pg G F_slices_EqualFunc_Node [slN a, slN b, .fn f [] []] (lb (eqP p a b)) [] := by
  refine slices_EqualFunc_Node_callX (pins := []) (by kernel_rfl) rfl rfl rfl rfl ?_
  by_cases hl : a.length = b.length
  · have hl' : (a.length : Int) = b.length := by omega
    simp (disch := omega) [go_sem, slices_EqualFunc_Node_c, hl']
    refine aw_loop Nat (fun i st => i ≤ a.length ∧ eqP p (a.drop i) (b.drop i) = eqP p a b ∧ st.s 0 = slN a ∧ st.s 1 = slN b ∧ st.s 2 = .fn f [] [] ∧ st.s 15 = slN a ∧ st.s 16 = li a.length ∧ st.s 17 = li i) (fun i => a.length - i) 0 ⟨by simp, rfl, by simp (disch := omega) [go_sem, hl']⟩ ?_
    rintro i st K ⟨hi, hm, h⟩ hK
    by_cases hlt : i < a.length
    · have hlt2 : i < b.length := by omega
      rw [eqP_drop hlt hlt2] at hm
      simp (disch := omega) [go_sem, slices_EqualFunc_Node_l0, h, hlt, hlt2, hf]
      refine clx_pure (hp _ (List.getElem_mem hlt) _ (List.getElem_mem hlt2)) rfl rfl rfl rfl ?_
      cases k : p a[i] b[i] with
      | true =>
        rw [k, Bool.true_and] at hm
        simp (disch := omega) [go_sem, h]
        exact hK (i + 1) _ ⟨by omega, hm, by simp (disch := omega) [go_sem, h]⟩ (by omega)
      | false =>
        rw [k, Bool.false_and] at hm
        simp (disch := omega) [go_sem, h, ← hm]
    · obtain rfl : i = a.length := by omega
      rw [List.drop_length, hl, List.drop_length, eqP] at hm
      simp (disch := omega) [go_sem, slices_EqualFunc_Node_l0, h, ← hm]
  · have hl' : ¬ (a.length : Int) = b.length := by omega
    simp (disch := omega) [go_sem, slices_EqualFunc_Node_c, hl', eqP_len hl]
theorem gsame39 (g h : Gr) (hg : g.nodes.length < 2 ^ 62) (hgf : ∀ n ∈ g.nodes, n.fin) (hh : h.nodes.length < 2 ^ 62) (hhf : ∀ n ∈ h.nodes, n.fin) : ACalls pg G F_graph_Same [grAV g, grAV h] (lb (decide (g = h))) := by
  refine graph_Same_call rfl ?_
  have c := eqf89 (G := G) (f := 90) graph_Like_fnB (p := fun x y => decide (x = y)) g.nodes h.nodes (fun x hx y hy => (like90 x y (hgf x hx) (hhf y hy)).toX (by simp [noRef])) hg hh
  rw [eqP_eq fun _ _ _ _ => rfl] at c
  obtain ⟨n1, o1⟩ := g
  obtain ⟨n2, o2⟩ := h
  simp only at c
  by_cases k : o1 = o2
  · subst k
    simp (disch := omega) [go_sem, graph_Same_c]
    refine clx_pure c rfl rfl rfl rfl ?_
    simp (disch := omega) [go_sem, Gr.mk.injEq]
  · simp (disch := omega) [go_sem, graph_Same_c, k, Gr.mk.injEq]
theorem is37 (hS : Sent G bk) {e : Er} (he : e.ok) (k : Int) : ACalls pg G F_lodgesee_Is [encE bk e, li k] (lb (decide (e.flt = (k, false, 0)))) := by
  refine lodgesee_Is_call rfl ?_
  simp (disch := omega) [go_sem, lodgesee_Is_c]
  refine cal_pure (bare57 k) rfl rfl ?_
  simp (disch := omega) [go_sem]
  refine cal_same (same18 hS he (k, false, 0)) rfl (by simp (disch := omega) [go_sem]) ?_
  simp (disch := omega) [go_sem]
end
end Go.Ideal.Tryd
end

section
set_option linter.unusedVariables false
set_option linter.unusedSimpArgs false
set_option maxRecDepth 10000
namespace Go.Ideal
section
variable {k : IntKind} {a b : Int}
theorem bl_rem' (h : b ≠ 0) : binLit .rem (.int k a) (.int k b) = some (.int k (a.tmod b)) := by simp [binLit, Op.intDiv, h]; rfl
@[go_sem] theorem ba_rem (h : b ≠ 0) : binAV .rem 0 (.lit (.int k a)) (.lit (.int k b)) = some (.lit (.int k (a.tmod b))) := ba_arith (bl_rem' h) rfl
theorem bl_quo' (h : b ≠ 0) : binLit .quo (.int k a) (.int k b) = some (.int k (k.wrap (a.tdiv b))) := by simp [binLit, Op.intDiv, h]; rfl
@[go_sem] theorem ba_quo (h : b ≠ 0) : binAV .quo 0 (.lit (.int k a)) (.lit (.int k b)) = some (.lit (.int k (k.wrap (a.tdiv b)))) := ba_arith (bl_quo' h) rfl
end
namespace Tryd
section
variable {G : Nat → Option Value} {bk : Nat → Nat × Nat} {Q : Exit → St → Prop} {st : St}
def numb (n m : Int) : Int := ((n.tmod m) + m).tmod m
theorem numb_rng {n m : Int} (h : 0 < m) : 0 ≤ numb n m ∧ numb n m < m := by
  have h1 := Int.lt_tmod_of_pos n h
  unfold numb
  exact ⟨Int.tmod_nonneg _ (by omega), Int.tmod_lt_of_pos _ h⟩
theorem number19 (n m : Int) (h : 0 < m) (h2 : m < 2 ^ 62) : ACalls pg G F_lodgeworld_Number [li n, li m] (li (numb n m)) := by
  refine lodgeworld_Number_call rfl ?_
  have h1 := Int.lt_tmod_of_pos n h
  have h3 := Int.tmod_lt_of_pos n h
  simp (disch := omega) [go_sem, lodgeworld_Number_c, numb]
/-! ### numbers in a row -/
end
end Tryd
end Go.Ideal
end

section
set_option linter.unusedVariables false
set_option linter.unusedSimpArgs false
set_option maxRecDepth 10000
namespace Go.Ideal.Tryd
/-! ### GraphBounds -/
def nd0 : Nd := ⟨0, [], [], [], false, []⟩
theorem byteL_le2 (k : Int) : byteL (le2 k) := by
  intro x hx
  simp only [le2, List.mem_cons, List.not_mem_nil, or_false] at hx
  rcases hx with rfl | rfl <;> simp only [u8_eq] <;> omega
theorem byteL_put1 (w : Bool) (k : Int) : byteL (put1 w k) := by
  intro x hx
  unfold put1 at hx
  split at hx
  · simp only [List.mem_cons, List.not_mem_nil, or_false] at hx
    rcases hx with rfl | rfl | rfl | rfl <;> simp only [u8_eq] <;> omega
  · simp only [List.mem_cons, List.not_mem_nil, or_false] at hx
    rw [hx, u8_eq]; omega
theorem byteL_app {a b : List Int} (ha : byteL a) (hb : byteL b) : byteL (a ++ b) := fun x hx => (List.mem_append.1 hx).elim (ha x) (hb x)
theorem byteL_flat {α : Type} {f : α → List Int} {l : List α} (h : ∀ x ∈ l, byteL (f x)) : byteL (l.flatMap f) := fun x hx => by
  obtain ⟨y, hy, hx⟩ := List.mem_flatMap.1 hx
  exact h y hy x hx
theorem byteL_u8 (k : Int) : byteL [u8 k] := fun x hx => by
  simp only [List.mem_singleton] at hx
  rw [hx, u8_eq]; omega
theorem byteL_tBytes (sh : List Int) (w : Bool) (d : List Int) : byteL (tBytes sh w d) := by
  unfold tBytes dBytes rawB
  exact byteL_app (byteL_app (a := [_]) (byteL_u8 _) (byteL_flat fun k _ => byteL_le2 k)) (byteL_flat fun k _ => byteL_put1 w k)
theorem byteL_nBytes (n : Nd) : byteL (nBytes n) := by
  unfold nBytes
  refine byteL_app (byteL_app (byteL_app (byteL_app (byteL_app (a := [_]) (b := [_]) (byteL_u8 _) (byteL_u8 _)) (byteL_flat fun k _ => byteL_le2 k)) (byteL_u8 _)) (byteL_flat fun k _ => byteL_put1 true k)) ?_
  split
  · exact byteL_tBytes _ _ _
  · intro x hx; cases hx
theorem byteL_gBytes (g : Gr) : byteL (gBytes g) := by
  unfold gBytes
  refine byteL_app (byteL_app (byteL_app ?_ (byteL_le2 _)) (byteL_flat fun n _ => byteL_nBytes n)) (byteL_le2 _)
  intro x hx
  simp only [List.mem_cons, List.not_mem_nil, or_false] at hx
  rcases hx with rfl | rfl <;> omega
theorem frz_lits (m : Nat) : frzL (List.replicate m (AV.lit (Value.int IntKind.i64 0))) = (List.replicate m (0 : Int)).map li := by
  induction m with
  | zero => rfl
  | succ m ih => simp only [List.replicate_succ, frzL, ih, List.map_cons, frz]
theorem frz_nds (m : Nat) : frzL (repl m [AV.lit (Value.int IntKind.i64 0), AV.own 1 0 [], AV.own 1 0 [], AV.own 1 0 [], AV.lit (Value.bool false), AV.own 1 0 []]) = fm encN (List.replicate m nd0) := by
  have e : repl m [AV.lit (Value.int IntKind.i64 0), AV.own 1 0 [], AV.own 1 0 [], AV.own 1 0 [], AV.lit (Value.bool false), AV.own 1 0 []] = fm encM (List.replicate m nd0) := by
    induction m with
    | zero => rfl
    | succ m ih =>
      unfold repl at ih ⊢
      rw [List.replicate_succ, List.flatten_cons, ih, List.replicate_succ]
      rfl
  rw [e, encM_frz]
def gA (m : Nat) : Gr := ⟨List.replicate m nd0, 0⟩
def gI (m : Nat) : Gr := ⟨[⟨4, List.replicate m 0, [], [], false, []⟩], 0⟩
def gR (m : Nat) : Gr := ⟨[⟨4, [], List.replicate m 0, [], false, []⟩], 0⟩
theorem gA_facts {m : Nat} (h : m < 100) : (m ≤ 64 → gErr (gA m) = .nil ∧ normG (gA m) = gA m) ∧ (64 < m → gErr (gA m) = .s 2) ∧ ((gA m).nodes.length < 2 ^ 62 ∧ ∀ n ∈ (gA m).nodes, n.fin) := by
  have hn : ∀ n ∈ (gA m).nodes, n = nd0 := fun n hn => List.eq_of_mem_replicate hn
  refine ⟨fun hm => ?_, fun hm => ?_, by simp [gA]; omega, fun n h => ?_⟩
  · have e : normG (gA m) = gA m := by simp [normG, gA, normN, nd0]
    refine ⟨(gErr_iff _).2 ?_, e⟩
    rw [e]
    refine ⟨by simpa [gA] using hm, fun n h => ?_, by simp [gA], by simp [gA]⟩
    rw [hn n h]
    simp [ndOk, nd0]
  · unfold gErr
    rw [if_pos (by simp [manyG, gA, hm])]
  · rw [hn n h]
    exact ⟨by simp [nd0], by simp [nd0], by simp [nd0], by simp [nd0]⟩
theorem gI_facts {m : Nat} (h : m < 14) : (m ≤ 8 → gErr (gI m) = .nil ∧ normG (gI m) = gI m) ∧ (8 < m → gErr (gI m) = .s 2) ∧ ((gI m).nodes.length < 2 ^ 62 ∧ ∀ n ∈ (gI m).nodes, n.fin) := by
  have hn : ∀ x ∈ List.replicate m (0 : Int), x = 0 := fun x hx => List.eq_of_mem_replicate hx
  refine ⟨fun hm => ?_, fun hm => ?_, by simp [gI], fun n h => ?_⟩
  · have e : normG (gI m) = gI m := by simp [normG, gI, normN]
    refine ⟨(gErr_iff _).2 ?_, e⟩
    rw [e]
    refine ⟨by simp [gI], fun n h => ?_, by simp [gI], by simp [gI]⟩
    simp only [gI, List.mem_singleton] at h
    subst h
    refine ⟨by simp, ⟨by simpa using hm, fun x hx => by rw [hn x hx]; omega⟩, by simp, by simp⟩
  · unfold gErr
    rw [if_pos (by simp [manyG, gI, manyN, hm])]
  · simp only [gI, List.mem_singleton] at h
    subst h
    exact ⟨by simp; omega, by simp, by simp, by simp⟩
theorem gR_facts {m : Nat} (h : m < 14) : (m ≤ 8 → gErr (gR m) = .nil ∧ normG (gR m) = gR m) ∧ (8 < m → gErr (gR m) = .s 2) ∧ ((gR m).nodes.length < 2 ^ 62 ∧ ∀ n ∈ (gR m).nodes, n.fin) := by
  have hn : ∀ x ∈ List.replicate m (0 : Int), x = 0 := fun x hx => List.eq_of_mem_replicate hx
  refine ⟨fun hm => ?_, fun hm => ?_, by simp [gR], fun n h => ?_⟩
  · have e : normG (gR m) = gR m := by simp [normG, gR, normN]
    refine ⟨(gErr_iff _).2 ?_, e⟩
    rw [e]
    refine ⟨by simp [gR], fun n h => ?_, by simp [gR], by simp [gR]⟩
    simp only [gR, List.mem_singleton] at h
    subst h
    refine ⟨by simp, by simp, ⟨by simpa using hm, fun x hx => by rw [hn x hx]; omega⟩, by simp⟩
  · unfold gErr
    rw [if_pos (by simp [manyG, gR, manyN, hm])]
  · simp only [gR, List.mem_singleton] at h
    subst h
    exact ⟨by simp, by simp; omega, by simp, by simp⟩
section
variable {G : Nat → Option Value} {bk : Nat → Nat × Nat} {Q : Exit → St → Prop} {st : St}
theorem gb_nodes (hS : Sent G bk) (w n : Int) : ACalls pg G F_lodgelaw17_GraphBounds [li w, li n] (lb true) := by
  refine lodgelaw17_GraphBounds_call rfl ?_
  have r1 := numb_rng (n := w) (m := 3) (by omega)
  have r2 := numb_rng (n := n) (m := 100) (by omega)
  have r3 := numb_rng (n := n) (m := 14) (by omega)
  simp (disch := omega) [go_sem, lodgelaw17_GraphBounds_c]
  refine cal_pure first21 rfl rfl ?_
  simp (disch := omega) [go_sem]
  refine cal_pure (number19 w 3 (by omega) (by omega)) rfl rfl ?_
  rcases (show numb w 3 = 0 ∨ numb w 3 = 1 ∨ numb w 3 = 2 by omega) with k0 | k0 | k0
  · simp (disch := omega) [go_sem, k0]
    refine cal_pure (number19 n 100 (by omega) (by omega)) rfl rfl ?_
    obtain ⟨m, hm⟩ := Int.eq_ofNat_of_zero_le r2.1
    rw [hm]
    simp (disch := omega) [go_sem, frz_nds]
    have e : AV.agg [AV.sl m (fm encN (List.replicate m nd0)), AV.lit (Value.int IntKind.i64 0)] = grAV (gA m) := by simp [grAV, gA]
    have f := gA_facts (m := m) (by omega)
    clear r1 r2 r3
    generalize gA m = g at *
    obtain ⟨f1, f2, f3, f4⟩ := f
    by_cases hmm : m ≤ 64
    · obtain ⟨he, hnm⟩ := f1 hmm
      have hmm' : ¬ (64 : Int) < m := by omega
      have hA := gbytes24 (G := G) hS g f4 he
      have hr := gread38 (G := G) hS (byteL_gBytes g) (by have := gBytes_len he; omega)
      rw [readBack he, hnm] at hr
      have hs := gsame39 (G := G) g g f3 f4 f3 f4
      rw [← e] at hA hs
      rw [← e] at hr
      have hbl := gBytes_len he
      refine cal_same hA rfl (by simp (disch := omega) [go_sem]) ?_
      simp (disch := omega) [go_sem, hmm']
      refine cal_same hr (by simp [go_sem]) (by simp (disch := omega) [go_sem]) ?_
      simp (disch := omega) [go_sem, encE]
      refine cal_pure hs rfl rfl ?_
      simp (disch := omega) [go_sem]
    · have he := f2 (by omega)
      have hmm' : (64 : Int) < m := by omega
      have hA := gbytes24e (G := G) hS g f3 f4 (by rw [he]; simp)
      rw [← e, he] at hA
      refine cal_same hA (by simp [go_sem]) (by simp (disch := omega) [go_sem]) ?_
      simp (disch := omega) [go_sem, hmm']
      refine cal_same (is37 hS (e := .s 2) (.s (by decide)) 104) rfl (by simp (disch := omega) [go_sem]) ?_
      simp (disch := omega) [go_sem, Er.flt, show codeOf 2 = 104 from rfl]
  · simp (disch := omega) [go_sem, k0]
    refine cal_pure (number19 n 14 (by omega) (by omega)) rfl rfl ?_
    obtain ⟨m, hm⟩ := Int.eq_ofNat_of_zero_le r3.1
    rw [hm]
    simp (disch := omega) [go_sem, frz_lits]
    have e : AV.agg [AV.sl 1 [AV.lit (Value.int IntKind.i64 4), AV.sl m (List.replicate m (AV.lit (Value.int IntKind.i64 0))), AV.sl 0 [], AV.sl 0 [], AV.lit (Value.bool false), AV.sl 0 []], AV.lit (Value.int IntKind.i64 0)] = grAV (gI m) := by simp [grAV, gI, fm, encN]
    have f := gI_facts (m := m) (by omega)
    clear r1 r2 r3
    generalize gI m = g at *
    obtain ⟨f1, f2, f3, f4⟩ := f
    by_cases hmm : m ≤ 8
    · obtain ⟨he, hnm⟩ := f1 hmm
      have hmm' : ¬ (8 : Int) < m := by omega
      have hA := gbytes24 (G := G) hS g f4 he
      have hr := gread38 (G := G) hS (byteL_gBytes g) (by have := gBytes_len he; omega)
      rw [readBack he, hnm] at hr
      have hs := gsame39 (G := G) g g f3 f4 f3 f4
      rw [← e] at hA hs
      rw [← e] at hr
      have hbl := gBytes_len he
      refine cal_same hA rfl (by simp (disch := omega) [go_sem]) ?_
      simp (disch := omega) [go_sem, hmm']
      refine cal_same hr (by simp [go_sem]) (by simp (disch := omega) [go_sem]) ?_
      simp (disch := omega) [go_sem, encE]
      refine cal_pure hs rfl rfl ?_
      simp (disch := omega) [go_sem]
    · have he := f2 (by omega)
      have hmm' : (8 : Int) < m := by omega
      have hA := gbytes24e (G := G) hS g f3 f4 (by rw [he]; simp)
      rw [← e, he] at hA
      refine cal_same hA (by simp [go_sem]) (by simp (disch := omega) [go_sem]) ?_
      simp (disch := omega) [go_sem, hmm']
      refine cal_same (is37 hS (e := .s 2) (.s (by decide)) 104) rfl (by simp (disch := omega) [go_sem]) ?_
      simp (disch := omega) [go_sem, Er.flt, show codeOf 2 = 104 from rfl]
  · simp (disch := omega) [go_sem, k0]
    refine cal_pure (number19 n 14 (by omega) (by omega)) rfl rfl ?_
    obtain ⟨m, hm⟩ := Int.eq_ofNat_of_zero_le r3.1
    rw [hm]
    simp (disch := omega) [go_sem, frz_lits]
    have e : AV.agg [AV.sl 1 [AV.lit (Value.int IntKind.i64 4), AV.sl 0 [], AV.sl m (List.replicate m (AV.lit (Value.int IntKind.i64 0))), AV.sl 0 [], AV.lit (Value.bool false), AV.sl 0 []], AV.lit (Value.int IntKind.i64 0)] = grAV (gR m) := by simp [grAV, gR, fm, encN]
    have f := gR_facts (m := m) (by omega)
    clear r1 r2 r3
    generalize gR m = g at *
    obtain ⟨f1, f2, f3, f4⟩ := f
    by_cases hmm : m ≤ 8
    · obtain ⟨he, hnm⟩ := f1 hmm
      have hmm' : ¬ (8 : Int) < m := by omega
      have hA := gbytes24 (G := G) hS g f4 he
      have hr := gread38 (G := G) hS (byteL_gBytes g) (by have := gBytes_len he; omega)
      rw [readBack he, hnm] at hr
      have hs := gsame39 (G := G) g g f3 f4 f3 f4
      rw [← e] at hA hs
      rw [← e] at hr
      have hbl := gBytes_len he
      refine cal_same hA rfl (by simp (disch := omega) [go_sem]) ?_
      simp (disch := omega) [go_sem, hmm']
      refine cal_same hr (by simp [go_sem]) (by simp (disch := omega) [go_sem]) ?_
      simp (disch := omega) [go_sem, encE]
      refine cal_pure hs rfl rfl ?_
      simp (disch := omega) [go_sem]
    · have he := f2 (by omega)
      have hmm' : (8 : Int) < m := by omega
      have hA := gbytes24e (G := G) hS g f3 f4 (by rw [he]; simp)
      rw [← e, he] at hA
      refine cal_same hA (by simp [go_sem]) (by simp (disch := omega) [go_sem]) ?_
      simp (disch := omega) [go_sem, hmm']
      refine cal_same (is37 hS (e := .s 2) (.s (by decide)) 104) rfl (by simp (disch := omega) [go_sem]) ?_
      simp (disch := omega) [go_sem, Er.flt, show codeOf 2 = 104 from rfl]
end
end Go.Ideal.Tryd
end
