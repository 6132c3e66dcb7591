/- Part Po of the proof: a machine with trees for values, its soundness, and walks on it. -/
import Derived.Test.YtfdhkijgolgnfaaDoorPn
import Derived.Test.YtfdhkijgolgnfaaDoorPb
import Derived.Test.YtfdhkijgolgnfaaDoorPj

section
set_option linter.unusedVariables false
set_option linter.unusedSimpArgs false
set_option maxRecDepth 10000
namespace Go.Ideal.Tryd
deriving instance DecidableEq for Nd
deriving instance DecidableEq for Gr
section
variable {G : Nat → Option Value} {bk : Nat → Nat × Nat} {Q : Exit → St → Prop} {st : St}
theorem like90 (m n : Nd) (hm : m.fin) (hn : n.fin) : ACalls pg G F_graph_Like [.agg (encN m), .agg (encN n)] (lb (decide (m = n))) := by
  refine graph_Like_call rfl ?_
  have f1 := hm.ins
  have f2 := hm.args
  have f3 := hm.shape
  have f4 := hm.data
  have g1 := hn.ins
  have g2 := hn.args
  have g3 := hn.shape
  have g4 := hn.data
  obtain ⟨o1, i1, a1, s1, w1, d1⟩ := m
  obtain ⟨o2, i2, a2, s2, w2, d2⟩ := n
  simp only at f1 f2 f3 f4 g1 g2 g3 g4
  by_cases k1 : o1 = o2
  · subst k1
    simp (disch := omega) [go_sem, graph_Like_c, encN]
    refine cal_pure (equal117 i1 i2 f1 g1) rfl rfl ?_
    by_cases k2 : i1 = i2
    · subst k2
      simp (disch := omega) [go_sem]
      refine cal_pure (equal117 a1 a2 f2 g2) rfl rfl ?_
      by_cases k3 : a1 = a2
      · subst k3
        simp (disch := omega) [go_sem]
        refine cal_pure (tSame73 ⟨s1, w1, d1⟩ ⟨s2, w2, d2⟩ f3 g3 f4 g4) rfl rfl ?_
        simp (disch := omega) [go_sem, Nd.mk.injEq, Tn.mk.injEq]
      · simp (disch := omega) [go_sem, k3, Nd.mk.injEq]
    · simp (disch := omega) [go_sem, k2, Nd.mk.injEq]
  · simp (disch := omega) [go_sem, graph_Like_c, encN, k1, Nd.mk.injEq]
theorem eqf89 {f : FuncId} (hf : fnB pg f = true) {p : Nd → Nd → Bool} (a b : List Nd) (hp : ∀ x ∈ a, ∀ y ∈ b, ACallsX pg G f [.agg (encN x), .agg (encN y)] (lb (p x y)) []) (ha : a.length < 2 ^ 62) (hb : b.length < 2 ^ 62) : ACallsX pg G F_slices_EqualFunc_Node [slN a, slN b, .fn f [] []] (lb (eqP p a b)) [] := by
  refine slices_EqualFunc_Node_callX (pins := []) (by kernel_rfl) rfl rfl rfl rfl ?_
  by_cases hl : a.length = b.length
  · have hl' : (a.length : Int) = b.length := by omega
    simp (disch := omega) [go_sem, slices_EqualFunc_Node_c, hl']
    refine aw_loop Nat (fun i st => i ≤ a.length ∧ eqP p (a.drop i) (b.drop i) = eqP p a b ∧ st.s 0 = slN a ∧ st.s 1 = slN b ∧ st.s 2 = .fn f [] [] ∧ st.s 15 = slN a ∧ st.s 16 = li a.length ∧ st.s 17 = li i) (fun i => a.length - i) 0 ⟨by simp, rfl, by simp (disch := omega) [go_sem, hl']⟩ ?_
    rintro i st K ⟨hi, hm, h⟩ hK
    by_cases hlt : i < a.length
    · have hlt2 : i < b.length := by omega
      rw [eqP_drop hlt hlt2] at hm
      simp (disch := omega) [go_sem, slices_EqualFunc_Node_l0, h, hlt, hlt2, hf]
      refine clx_pure (hp _ (List.getElem_mem hlt) _ (List.getElem_mem hlt2)) rfl rfl rfl rfl ?_
      cases k : p a[i] b[i] with
      | true =>
        rw [k, Bool.true_and] at hm
        simp (disch := omega) [go_sem, h]
        exact hK (i + 1) _ ⟨by omega, hm, by simp (disch := omega) [go_sem, h]⟩ (by omega)
      | false =>
        rw [k, Bool.false_and] at hm
        simp (disch := omega) [go_sem, h, ← hm]
    · obtain rfl : i = a.length := by omega
      rw [List.drop_length, hl, List.drop_length, eqP] at hm
      simp (disch := omega) [go_sem, slices_EqualFunc_Node_l0, h, ← hm]
  · have hl' : ¬ (a.length : Int) = b.length := by omega
    simp (disch := omega) [go_sem, slices_EqualFunc_Node_c, hl', eqP_len hl]
theorem gsame39 (g h : Gr) (hg : g.nodes.length < 2 ^ 62) (hgf : ∀ n ∈ g.nodes, n.fin) (hh : h.nodes.length < 2 ^ 62) (hhf : ∀ n ∈ h.nodes, n.fin) : ACalls pg G F_graph_Same [grAV g, grAV h] (lb (decide (g = h))) := by
  refine graph_Same_call rfl ?_
  have c := eqf89 (G := G) (f := 90) graph_Like_fnB (p := fun x y => decide (x = y)) g.nodes h.nodes (fun x hx y hy => (like90 x y (hgf x hx) (hhf y hy)).toX (by simp [noRef])) hg hh
  rw [eqP_eq fun _ _ _ _ => rfl] at c
  obtain ⟨n1, o1⟩ := g
  obtain ⟨n2, o2⟩ := h
  simp only at c
  by_cases k : o1 = o2
  · subst k
    simp (disch := omega) [go_sem, graph_Same_c]
    refine clx_pure c rfl rfl rfl rfl ?_
    simp (disch := omega) [go_sem, Gr.mk.injEq]
  · simp (disch := omega) [go_sem, graph_Same_c, k, Gr.mk.injEq]
theorem fmM_one (n : Nd) : fm encM [n] = encM n := by simp [fm]
theorem gnode91 (n : Nd) (hf : n.sh) : ACalls pg G F_graph_Node [.agg (encN n)] (.agg (encM n)) := by
  have f1 := hf.ins
  have f2 := hf.args
  have f3 := hf.shape
  have f4 := hf.data
  refine graph_Node_call rfl ?_
  simp (disch := omega) [go_sem, graph_Node_c, encN]
  refine aw_draw ?_
  simp (disch := omega) [go_sem]
  refine dCal_pure (clone68 n.ins (by omega)) rfl (noImm_owI _) (by simp) [7] (by simp) (by simp (disch := omega) [go_sem]) ?_
  simp (disch := omega) [go_sem]
  refine dCal_pure (clone68 n.args (by omega)) rfl (noImm_owI _) (by simp) [10] (by simp) (by simp (disch := omega) [go_sem]) ?_
  simp (disch := omega) [go_sem]
  refine dCal_pure (cltens67 n.shape n.wide n.data (by omega) (by omega)) rfl (by simp [noImm, noImmL, noImmL_li]) (by simp) [13] (by simp) (by simp (disch := omega) [go_sem]) ?_
  simp (disch := omega) [go_sem]
  refine dFin_i (by decide) fun s2 hs he => ?_
  simp (disch := omega) [go_sem, hs, encM]
theorem gclone40 (g : Gr) (hn : g.nodes.length < 2 ^ 36) (hf : ∀ n ∈ g.nodes, n.sh) : ACalls pg G F_graph_Clone [grAV g] (.agg [owN g.nodes, li g.out]) := by
  obtain ⟨ns, out⟩ := g
  simp only at hn hf
  refine graph_Clone_call rfl ?_
  simp (disch := omega) [go_sem, graph_Clone_c]
  refine aw_loop (Nat × List Nd) (fun p st => p.1 ≤ ns.length ∧ p.2 ++ ns.drop p.1 = ns ∧ p.2.length = p.1 ∧ st.s 1 = .var [slN ns, li out] ∧ st.s 2 = .var [.own 6 0 [], li 0] ∧ st.s 3 = .var [owN p.2, li out] ∧ st.s 10 = slN ns ∧ st.s 11 = li ns.length ∧ st.s 12 = li p.1) (fun p => ns.length - p.1) (0, []) ⟨by simp, rfl, rfl, by simp (disch := omega) [go_sem, fm]⟩ ?_
  rintro ⟨i, ys⟩ st K ⟨hi, hm, hl, h⟩ hK
  simp only at hi hm hl h
  by_cases hlt : i < ns.length
  · rw [List.drop_eq_getElem_cons hlt, List.append_cons] at hm
    simp (disch := omega) [go_sem, graph_Clone_l0, h, hlt]
    refine aw_draw ?_
    simp (disch := omega) [go_sem, h]
    refine dCal_pure (gnode91 ns[i] (hf _ (List.getElem_mem hlt))) rfl (by simp [noImm, noImmL, noImmL_li, encM]) (by simp) [19] (by simp) (by simp (disch := omega) [go_sem, h]) ?_
    simp (disch := omega) [go_sem, h, encM]
    refine dFin_i (by decide) fun s2 hs he => ?_
    simp (disch := omega) [go_sem, hs, h]
    refine hK (i + 1, ys ++ [ns[i]]) _ ⟨by simp only; omega, hm, by simp [hl], by simp (disch := omega) [go_sem, hs, h, fm_app, fmM_one, encM]⟩ (by simp only; omega)
  · obtain rfl : i = ns.length := by omega
    rw [List.drop_length, List.append_nil] at hm
    subst hm
    simp (disch := omega) [go_sem, graph_Clone_l0, h]
theorem rbytes41 (a : List Int) (hn : a.length < 2 ^ 40) : ACalls pg G F_lodgeref_Bytes [slU a] (owU a) := by
  refine lodgeref_Bytes_call rfl ?_
  simp (disch := omega) [go_sem, lodgeref_Bytes_c]
  refine aw_loop (Nat × List Int) (fun p st => p.1 ≤ a.length ∧ p.2 ++ a.drop p.1 = a ∧ p.2.length = p.1 ∧ st.s 0 = slU a ∧ st.s 3 = owU p.2 ∧ st.s 4 = li p.1) (fun p => a.length - p.1) (0, []) ⟨by simp, rfl, rfl, by simp (disch := omega) [go_sem]⟩ ?_
  rintro ⟨i, ys⟩ st K ⟨hi, hm, hl, h⟩ hK
  simp only at hi hm hl h
  by_cases hlt : i < a.length
  · rw [List.drop_eq_getElem_cons hlt, List.append_cons] at hm
    simp (disch := omega) [go_sem, lodgeref_Bytes_l0, h, hlt]
    exact hK (i + 1, ys ++ [a[i]]) _ ⟨by simp only; omega, hm, by simp [hl], by simp (disch := omega) [go_sem, h]⟩ (by simp only; omega)
  · obtain rfl : i = a.length := by omega
    rw [List.drop_length, List.append_nil] at hm
    subst hm
    simp (disch := omega) [go_sem, lodgeref_Bytes_l0, h]
theorem is37 (hS : Sent G bk) {e : Er} (he : e.ok) (k : Int) : ACalls pg G F_lodgesee_Is [encE bk e, li k] (lb (decide (e.flt = (k, false, 0)))) := by
  refine lodgesee_Is_call rfl ?_
  simp (disch := omega) [go_sem, lodgesee_Is_c]
  refine cal_pure (bare57 k) rfl rfl ?_
  simp (disch := omega) [go_sem]
  refine cal_same (same18 hS he (k, false, 0)) rfl (by simp (disch := omega) [go_sem]) ?_
  simp (disch := omega) [go_sem]
end
end Go.Ideal.Tryd
end

section
set_option linter.unusedVariables false
set_option linter.unusedSimpArgs false
set_option maxRecDepth 10000
namespace Go.Ideal
section
variable {k : IntKind} {a b : Int}
theorem bl_rem' (h : b ≠ 0) : binLit .rem (.int k a) (.int k b) = some (.int k (a.tmod b)) := by simp [binLit, Op.intDiv, h]; rfl
@[go_sem] theorem ba_rem (h : b ≠ 0) : binAV .rem 0 (.lit (.int k a)) (.lit (.int k b)) = some (.lit (.int k (a.tmod b))) := ba_arith (bl_rem' h) rfl
theorem bl_quo' (h : b ≠ 0) : binLit .quo (.int k a) (.int k b) = some (.int k (k.wrap (a.tdiv b))) := by simp [binLit, Op.intDiv, h]; rfl
@[go_sem] theorem ba_quo (h : b ≠ 0) : binAV .quo 0 (.lit (.int k a)) (.lit (.int k b)) = some (.lit (.int k (k.wrap (a.tdiv b)))) := ba_arith (bl_quo' h) rfl
end
namespace Tryd
section
variable {G : Nat → Option Value} {bk : Nat → Nat × Nat} {Q : Exit → St → Prop} {st : St}
def numb (n m : Int) : Int := ((n.tmod m) + m).tmod m
theorem numb_rng {n m : Int} (h : 0 < m) : 0 ≤ numb n m ∧ numb n m < m := by
  have h1 := Int.lt_tmod_of_pos n h
  unfold numb
  exact ⟨Int.tmod_nonneg _ (by omega), Int.tmod_lt_of_pos _ h⟩
theorem number19 (n m : Int) (h : 0 < m) (h2 : m < 2 ^ 62) : ACalls pg G F_lodgeworld_Number [li n, li m] (li (numb n m)) := by
  refine lodgeworld_Number_call rfl ?_
  have h1 := Int.lt_tmod_of_pos n h
  have h3 := Int.tmod_lt_of_pos n h
  simp (disch := omega) [go_sem, lodgeworld_Number_c, numb]
/-! ### numbers in a row -/
end
end Tryd
end Go.Ideal
end

section
set_option linter.unusedVariables false
set_option linter.unusedSimpArgs false
set_option maxRecDepth 10000
namespace Go.Ideal.Tryd
/-! ### GraphBounds -/
theorem ghOk_fin {g : Gr} (h : ghOk g) : g.nodes.length < 2 ^ 62 ∧ ∀ n ∈ g.nodes, n.fin := by
  refine ⟨by have := h.1; omega, fun n hn => ?_⟩
  obtain ⟨-, h1, h2, h3⟩ := h.2.1 n hn
  have : n.shape.length ≤ 4 ∧ n.data.length ≤ 16384 := by
    split at h3
    · exact tvErr_len h3
    · rw [h3.1, h3.2.2]; simp
  exact ⟨by omega, by omega, by omega, by omega⟩
theorem byteL_le2 (k : Int) : byteL (le2 k) := by
  intro x hx
  simp only [le2, List.mem_cons, List.not_mem_nil, or_false] at hx
  rcases hx with rfl | rfl <;> simp only [u8_eq] <;> omega
theorem byteL_put1 (w : Bool) (k : Int) : byteL (put1 w k) := by
  intro x hx
  unfold put1 at hx
  split at hx
  · simp only [List.mem_cons, List.not_mem_nil, or_false] at hx
    rcases hx with rfl | rfl | rfl | rfl <;> simp only [u8_eq] <;> omega
  · simp only [List.mem_cons, List.not_mem_nil, or_false] at hx
    rw [hx, u8_eq]; omega
theorem byteL_app {a b : List Int} (ha : byteL a) (hb : byteL b) : byteL (a ++ b) := fun x hx => (List.mem_append.1 hx).elim (ha x) (hb x)
theorem byteL_flat {α : Type} {f : α → List Int} {l : List α} (h : ∀ x ∈ l, byteL (f x)) : byteL (l.flatMap f) := fun x hx => by
  obtain ⟨y, hy, hx⟩ := List.mem_flatMap.1 hx
  exact h y hy x hx
theorem byteL_u8 (k : Int) : byteL [u8 k] := fun x hx => by
  simp only [List.mem_singleton] at hx
  rw [hx, u8_eq]; omega
theorem byteL_tBytes (sh : List Int) (w : Bool) (d : List Int) : byteL (tBytes sh w d) := by
  unfold tBytes dBytes rawB
  exact byteL_app (byteL_app (a := [_]) (byteL_u8 _) (byteL_flat fun k _ => byteL_le2 k)) (byteL_flat fun k _ => byteL_put1 w k)
theorem byteL_nBytes (n : Nd) : byteL (nBytes n) := by
  unfold nBytes
  refine byteL_app (byteL_app (byteL_app (byteL_app (byteL_app (a := [_]) (b := [_]) (byteL_u8 _) (byteL_u8 _)) (byteL_flat fun k _ => byteL_le2 k)) (byteL_u8 _)) (byteL_flat fun k _ => byteL_put1 true k)) ?_
  split
  · exact byteL_tBytes _ _ _
  · intro x hx; cases hx
theorem byteL_gBytes (g : Gr) : byteL (gBytes g) := by
  unfold gBytes
  refine byteL_app (byteL_app (byteL_app ?_ (byteL_le2 _)) (byteL_flat fun n _ => byteL_nBytes n)) (byteL_le2 _)
  intro x hx
  simp only [List.mem_cons, List.not_mem_nil, or_false] at hx
  rcases hx with rfl | rfl <;> omega
section
variable {G : Nat → Option Value} {bk : Nat → Nat × Nat} {Q : Exit → St → Prop} {st : St}
end
end Go.Ideal.Tryd
end

section
set_option linter.unusedVariables false
set_option linter.unusedSimpArgs false
set_option maxRecDepth 10000
namespace Go.Ideal.Tryd
/-! ### GraphBack -/
def normTo (i : Nat) (ns : List Nd) : List Nd := (ns.take i).map normN ++ ns.drop i
theorem normTo_get {i : Nat} {ns : List Nd} (h : i < ns.length) {h2 : i < (normTo i ns).length} : (normTo i ns)[i] = ns[i] := by
  have e : (normTo i ns)[i]? = ns[i]? := by
    unfold normTo
    rw [List.getElem?_append_right (by simp; omega)]
    simp only [List.length_map, List.length_take, show i - min i ns.length = 0 by omega]
    rw [List.getElem?_drop, Nat.add_zero]
  rw [List.getElem?_eq_getElem h2, List.getElem?_eq_getElem h] at e
  exact Option.some.inj e
theorem normTo_succ {i : Nat} {ns : List Nd} (h : i < ns.length) : normTo (i + 1) ns = (normTo i ns).set i (normN ns[i]) := by
  unfold normTo
  have e : ((ns.take i).map normN).length = i := by simp; omega
  generalize hA : (ns.take i).map normN = A at *
  rw [List.take_succ_eq_append_getElem h, List.map_append, hA]
  subst e
  simp
  rw [List.drop_eq_getElem_cons h, List.set_cons_zero]
theorem splice_appl {α : Type} {a r vs : List α} {j : Nat} (h : j + vs.length ≤ a.length) : splice (a ++ r) j vs = splice a j vs ++ r := by
  unfold splice
  rw [List.take_append_of_le_length (by omega), List.drop_append_of_le_length (by omega)]
  simp
theorem splice_appr {α : Type} {a r vs : List α} {j : Nat} : splice (a ++ r) (a.length + j) vs = a ++ splice r j vs := by
  unfold splice
  rw [List.take_append, List.drop_append]
  rw [List.take_of_length_le (by omega), List.drop_eq_nil_of_le (by omega)]
  simp [Nat.add_assoc]
theorem fm_splice {α : Type} {f : α → List AV} {k : Nat} (hf : ∀ x, (f x).length = k) {vs : List AV} {y : α} {j : Nat} (hj : j + vs.length ≤ k) : ∀ {xs : List α} {i : Nat} (h : i < xs.length), f y = splice (f xs[i]) j vs → splice (fm f xs) (i * k + j) vs = fm f (xs.set i y)
  | x :: xs, 0, h, hy => by
    have e : fm f (x :: xs) = f x ++ fm f xs := rfl
    rw [e, Nat.zero_mul, Nat.zero_add, splice_appl (by rw [hf]; exact hj), ← (show f y = splice (f x) j vs from hy)]
    rfl
  | x :: xs, i + 1, h, hy => by
    have e : fm f (x :: xs) = f x ++ fm f xs := rfl
    have e2 : (i + 1) * k + j = (f x).length + (i * k + j) := by rw [hf, Nat.succ_mul]; omega
    rw [e, e2, splice_appr, fm_splice hf hj (xs := xs) (i := i) (by simpa using h) hy]
    rfl
@[go_sem] theorem encM_0 {xs : List Nd} {i : Nat} (h : i < xs.length) : (fm encM xs)[i * 6]? = some (li xs[i].op) := fm_at (f := encM) (k := 6) (j := 0) (fun _ => rfl) h (by omega)
theorem encM_norm {xs : List Nd} {i : Nat} (h : i < xs.length) (h2 : ¬ xs[i].op = 2) : splice (fm encM xs) (i * 6 + 3) [.own 1 0 [], .lit (.bool false), .own 1 0 []] = fm encM (xs.set i (normN xs[i])) := by
  refine fm_splice (f := encM) (k := 6) (fun _ => rfl) (by simp) h ?_
  unfold normN
  rw [if_neg h2]
  rfl
section
variable {G : Nat → Option Value} {bk : Nat → Nat × Nat} {Q : Exit → St → Prop} {st : St}
theorem gk_l0 {ns : List Nd} {bs : List Int} {c out : Int} (hn : ns.length ≤ 64) (h : st.s 1 = li c ∧ st.s 12 = slU bs ∧ st.s 6 = lb false ∧ st.s 14 = .var [owN (ns), li out] ∧ st.s 15 = li 0)
    (hex : ∀ s, s.s 1 = li c ∧ s.s 12 = slU bs ∧ s.s 6 = lb false ∧ s.s 14 = .var [owN (ns.map normN), li out] → Q (.exit 0) s) : AW pg G 133 (.loop lodgelaw17_GraphBack_l0) Q st := by
  refine aw_loop (Nat × List Nd) (fun p st => p.1 ≤ ns.length ∧ p.2 = normTo p.1 ns ∧ st.s 1 = li c ∧ st.s 12 = slU bs ∧ st.s 6 = lb false ∧ st.s 14 = .var [owN (p.2), li out] ∧ st.s 15 = li p.1) (fun p => ns.length - p.1) (0, ns) ⟨by simp, by simp [normTo], by simp (disch := omega) [go_sem, h]⟩ ?_
  clear h
  rintro ⟨i, L⟩ st K ⟨hi, hm, h⟩ hK
  simp only at hi hm h
  have hl : L.length = ns.length := by rw [hm]; simp [normTo]; omega
  by_cases hlt : i < ns.length
  · have hlt' : i < L.length := by omega
    have hg : L[i] = ns[i] := by subst hm; exact normTo_get hlt
    have hs := normTo_succ hlt
    rw [← hm] at hs
    by_cases h2 : ns[i].op = 2
    · have e : normN ns[i] = ns[i] := by unfold normN; rw [if_pos h2]
      have hs' : normTo (i + 1) ns = L := by rw [hs, e, ← hg]; simp
      simp (disch := omega) [go_sem, lodgelaw17_GraphBack_l0, h, hlt', hg, h2]
      exact hK (i + 1, L) _ ⟨by simp only; omega, hs'.symm, by simp (disch := omega) [go_sem, h]⟩ (by simp only; omega)
    · have hsp := encM_norm hlt' (by rw [hg]; exact h2)
      rw [hg, ← hs] at hsp
      simp (disch := omega) [go_sem, lodgelaw17_GraphBack_l0, h, hlt', hg, h2, hsp]
      have hll : (normTo (i + 1) ns).length = L.length := by rw [hs]; simp
      exact hK (i + 1, normTo (i + 1) ns) _ ⟨by simp only; omega, rfl, by simp (disch := omega) [go_sem, h, hll, hsp]⟩ (by simp only; omega)
  · obtain rfl : i = ns.length := by omega
    have e : L = ns.map normN := by rw [hm]; simp [normTo]
    subst e
    simp (disch := omega) [go_sem, lodgelaw17_GraphBack_l0, h]
    exact hex _ (by simp (disch := omega) [go_sem, h])
end
end Go.Ideal.Tryd
end

section
set_option linter.unusedVariables false
set_option linter.unusedSimpArgs false
set_option maxRecDepth 10000
namespace Go.Ideal.Tryd
section
variable {G : Nat → Option Value} {bk : Nat → Nat × Nat} {Q : Exit → St → Prop} {st : St}
theorem graphBack9 (hS : Sent G bk) (g : Gr) (c : Int) (d : List Int) (hn : g.nodes.length < 2 ^ 62) (hf : ∀ n ∈ g.nodes, n.fin) (hB : byteL d) (hd : d.length < 2 ^ 62) : ACalls pg G F_lodgelaw17_GraphBack [grAV g, li c, slU d] (lb true) := by
  refine lodgelaw17_GraphBack_call rfl ?_
  have hw := wgraph22 (G := G) g hn hf
  obtain ⟨ns, out⟩ := g
  simp only at hn hf
  simp (disch := omega) [go_sem, lodgelaw17_GraphBack_c]
  refine cal_pure first21 rfl rfl ?_
  simp (disch := omega) [go_sem]
  refine cal_pure hw rfl rfl ?_
  cases hwg : wGraph ⟨ns, out⟩ with
  | false => simp (disch := omega) [go_sem]
  | true =>
  simp only [wGraph, Bool.and_eq_true, decide_eq_true_eq, List.all_eq_true] at hwg
  obtain ⟨h70, hsm⟩ := hwg
  by_cases hdl : 2000 < d.length
  · have hdl' : (2000 : Int) < d.length := by omega
    simp (disch := omega) [go_sem, hdl']
  · have hdl' : ¬ (2000 : Int) < d.length := by omega
    have hrd := gread38 (G := G) hS hB (by omega)
    simp (disch := omega) [go_sem, hdl']
    refine cal_same hrd (by simp [go_sem]) (by simp (disch := omega) [go_sem]) ?_
    cases hrn : (rGraph d).2.isNil with
    | true =>
      obtain ⟨q1, q2, q3, q4⟩ := readSound hB hrn
      obtain ⟨q5, q6⟩ := ghOk_fin q1
      have hbk := gbytes24 (G := G) hS (rGraph d).1 q6 q3
      rw [q4] at hbk
      have hsb := sbytes29 (G := G) d hd
      generalize rGraph d = p at *
      obtain ⟨b, e⟩ := p
      simp only at hrn hbk
      simp (disch := omega) [go_sem, hrn]
      refine cal_same hbk rfl (by simp (disch := omega) [go_sem]) ?_
      simp (disch := omega) [go_sem]
      refine cal_pure hsb rfl rfl ?_
      simp (disch := omega) [go_sem]
      by_cases hge : gErr ⟨ns, out⟩ = .nil
      · have hA := gbytes24 (G := G) hS ⟨ns, out⟩ hf hge
        have hbl := gBytes_len hge
        have hb4 : 4 ≤ (gBytes ⟨ns, out⟩).length := by simp [gBytes, le2]
        have hbB := byteL_gBytes ⟨ns, out⟩
        have hrb := gread38 (G := G) hS hbB (by omega)
        rw [readBack hge] at hrb
        have hcut := fun k hk => readCut (g := ⟨ns, out⟩) hge (k := k) hk
        have hlong := readLong (g := ⟨ns, out⟩) hge
        have hgn := (gErr_iff _).1 hge
        obtain ⟨f1, f2⟩ := ghOk_fin hgn
        have hsm2 := gsame39 (G := G) (normG ⟨ns, out⟩) (normG ⟨ns, out⟩) f1 f2 f1 f2
        have h64 := (gErr_good hge).1
        simp only [normG] at hrb hsm2
        generalize gBytes ⟨ns, out⟩ = bs at *
        refine cal_same hA rfl (by simp (disch := omega) [go_sem]) ?_
        simp (disch := omega) [go_sem]
        refine cal_pure (gclone40 ⟨ns, out⟩ (by simp only; omega) fun n hn => (small_sh (hsm n hn)).1) rfl (by simp [noImm, noImmL, encM_noImm]) ?_
        simp (disch := omega) [go_sem]
        refine gk_l0 (ns := ns) (bs := bs) (c := c) (out := out) h64 (by simp (disch := omega) [go_sem]) fun s h => ?_
        generalize List.map normN ns = ms at *
        simp (disch := omega) [go_sem, h]
        refine cal_same hrb (by simp [go_sem]) (by simp (disch := omega) [go_sem, h]) ?_
        simp (disch := omega) [go_sem, h, encE]
        refine cal_pure (number19 c bs.length (by omega) (by omega)) rfl rfl ?_
        obtain ⟨r1, r2⟩ := numb_rng (n := c) (m := bs.length) (by omega)
        obtain ⟨k, hk⟩ := Int.eq_ofNat_of_zero_le r1
        rw [hk] at r2 ⊢
        have hk2 : k < bs.length := by omega
        have htl : (bs.take k).length = k := by simp; omega
        have htB : byteL (bs.take k) := fun x hx => hbB x (List.mem_of_mem_take hx)
        have htk : AV.sl k (List.take k (List.map lu bs)) = slU (bs.take k) := by show _ = AV.sl (bs.take k).length _; rw [htl, List.map_take]
        have hr2 := gread38 (G := G) hS htB (by omega)
        have hc := hcut k hk2
        generalize rGraph (bs.take k) = p2 at *
        obtain ⟨g2, e2⟩ := p2
        simp only at hc
        subst hc
        simp (disch := omega) [go_sem, h, hk2, htk]
        refine cal_same hr2 (by simp [go_sem]) (by simp (disch := omega) [go_sem, h]) ?_
        simp (disch := omega) [go_sem, h]
        refine cal_pure (rbytes41 bs (by omega)) rfl (noImm_owU _) ?_
        have h7B : byteL (bs ++ [7]) := byteL_app hbB (by intro x hx; simp at hx; omega)
        have hr3 := gread38 (G := G) hS h7B (by simp; omega)
        generalize rGraph (bs ++ [7]) = p3 at *
        obtain ⟨g3, e3⟩ := p3
        simp only at hlong
        subst hlong
        have h7 : AV.sl (bs.length + 1) (frzL (List.map lu bs ++ [AV.lit (Value.int IntKind.u8 7)])) = slU (bs ++ [7]) := by
          have e : List.map lu bs ++ [AV.lit (Value.int IntKind.u8 7)] = (bs ++ [7]).map lu := by simp
          rw [e, frzL_eq, List.map_map]
          simp [frz]
        simp (disch := omega) [go_sem, h, h7]
        refine cal_any hr3 (by simp [go_sem]) ?_ ?_
        all_goals
          simp (disch := omega) [go_sem, h]
          refine cal_pure hsm2 rfl rfl ?_
          simp (disch := omega) [go_sem, h]
          refine cal_same (is37 hS (e := .s 4) (.s (by decide)) 105) rfl (by simp (disch := omega) [go_sem, h]) ?_
          simp (disch := omega) [go_sem, h, Er.flt, show codeOf 4 = 105 from rfl]
          refine cal_pure (placed20 G 104 bs.length) rfl rfl ?_
          simp (disch := omega) [go_sem, h]
          refine cal_same (same18 hS (e := .at bs.length (.s 2)) (.at (by decide)) (104, true, bs.length)) rfl (by simp (disch := omega) [go_sem, h]) ?_
          simp (disch := omega) [go_sem, h, Er.flt, show codeOf 2 = 104 from rfl]
      · have hA := gbytes24e (G := G) hS ⟨ns, out⟩ hn hf hge
        refine cal_same hA (by simp [go_sem]) (by simp (disch := omega) [go_sem]) ?_
        have hnn : (gErr ⟨ns, out⟩).isNil = false := by
          cases h : (gErr ⟨ns, out⟩).isNil
          · rfl
          · exact absurd (isNil_iff.1 h) hge
        simp (disch := omega) [go_sem, hnn]
    | false =>
      generalize rGraph d = p at *
      obtain ⟨b, e⟩ := p
      simp only at hrn
      simp (disch := omega) [go_sem, hrn]
      by_cases hge : gErr ⟨ns, out⟩ = .nil
      · have hA := gbytes24 (G := G) hS ⟨ns, out⟩ hf hge
        have hbl := gBytes_len hge
        have hb4 : 4 ≤ (gBytes ⟨ns, out⟩).length := by simp [gBytes, le2]
        have hbB := byteL_gBytes ⟨ns, out⟩
        have hrb := gread38 (G := G) hS hbB (by omega)
        rw [readBack hge] at hrb
        have hcut := fun k hk => readCut (g := ⟨ns, out⟩) hge (k := k) hk
        have hlong := readLong (g := ⟨ns, out⟩) hge
        have hgn := (gErr_iff _).1 hge
        obtain ⟨f1, f2⟩ := ghOk_fin hgn
        have hsm2 := gsame39 (G := G) (normG ⟨ns, out⟩) (normG ⟨ns, out⟩) f1 f2 f1 f2
        have h64 := (gErr_good hge).1
        simp only [normG] at hrb hsm2
        generalize gBytes ⟨ns, out⟩ = bs at *
        refine cal_same hA rfl (by simp (disch := omega) [go_sem]) ?_
        simp (disch := omega) [go_sem]
        refine cal_pure (gclone40 ⟨ns, out⟩ (by simp only; omega) fun n hn => (small_sh (hsm n hn)).1) rfl (by simp [noImm, noImmL, encM_noImm]) ?_
        simp (disch := omega) [go_sem]
        refine gk_l0 (ns := ns) (bs := bs) (c := c) (out := out) h64 (by simp (disch := omega) [go_sem]) fun s h => ?_
        generalize List.map normN ns = ms at *
        simp (disch := omega) [go_sem, h]
        refine cal_same hrb (by simp [go_sem]) (by simp (disch := omega) [go_sem, h]) ?_
        simp (disch := omega) [go_sem, h, encE]
        refine cal_pure (number19 c bs.length (by omega) (by omega)) rfl rfl ?_
        obtain ⟨r1, r2⟩ := numb_rng (n := c) (m := bs.length) (by omega)
        obtain ⟨k, hk⟩ := Int.eq_ofNat_of_zero_le r1
        rw [hk] at r2 ⊢
        have hk2 : k < bs.length := by omega
        have htl : (bs.take k).length = k := by simp; omega
        have htB : byteL (bs.take k) := fun x hx => hbB x (List.mem_of_mem_take hx)
        have htk : AV.sl k (List.take k (List.map lu bs)) = slU (bs.take k) := by show _ = AV.sl (bs.take k).length _; rw [htl, List.map_take]
        have hr2 := gread38 (G := G) hS htB (by omega)
        have hc := hcut k hk2
        generalize rGraph (bs.take k) = p2 at *
        obtain ⟨g2, e2⟩ := p2
        simp only at hc
        subst hc
        simp (disch := omega) [go_sem, h, hk2, htk]
        refine cal_same hr2 (by simp [go_sem]) (by simp (disch := omega) [go_sem, h]) ?_
        simp (disch := omega) [go_sem, h]
        refine cal_pure (rbytes41 bs (by omega)) rfl (noImm_owU _) ?_
        have h7B : byteL (bs ++ [7]) := byteL_app hbB (by intro x hx; simp at hx; omega)
        have hr3 := gread38 (G := G) hS h7B (by simp; omega)
        generalize rGraph (bs ++ [7]) = p3 at *
        obtain ⟨g3, e3⟩ := p3
        simp only at hlong
        subst hlong
        have h7 : AV.sl (bs.length + 1) (frzL (List.map lu bs ++ [AV.lit (Value.int IntKind.u8 7)])) = slU (bs ++ [7]) := by
          have e : List.map lu bs ++ [AV.lit (Value.int IntKind.u8 7)] = (bs ++ [7]).map lu := by simp
          rw [e, frzL_eq, List.map_map]
          simp [frz]
        simp (disch := omega) [go_sem, h, h7]
        refine cal_any hr3 (by simp [go_sem]) ?_ ?_
        all_goals
          simp (disch := omega) [go_sem, h]
          refine cal_pure hsm2 rfl rfl ?_
          simp (disch := omega) [go_sem, h]
          refine cal_same (is37 hS (e := .s 4) (.s (by decide)) 105) rfl (by simp (disch := omega) [go_sem, h]) ?_
          simp (disch := omega) [go_sem, h, Er.flt, show codeOf 4 = 105 from rfl]
          refine cal_pure (placed20 G 104 bs.length) rfl rfl ?_
          simp (disch := omega) [go_sem, h]
          refine cal_same (same18 hS (e := .at bs.length (.s 2)) (.at (by decide)) (104, true, bs.length)) rfl (by simp (disch := omega) [go_sem, h]) ?_
          simp (disch := omega) [go_sem, h, Er.flt, show codeOf 2 = 104 from rfl]
      · have hA := gbytes24e (G := G) hS ⟨ns, out⟩ hn hf hge
        refine cal_same hA (by simp [go_sem]) (by simp (disch := omega) [go_sem]) ?_
        have hnn : (gErr ⟨ns, out⟩).isNil = false := by
          cases h : (gErr ⟨ns, out⟩).isNil
          · rfl
          · exact absurd (isNil_iff.1 h) hge
        simp (disch := omega) [go_sem, hnn]
end
end Go.Ideal.Tryd
end
