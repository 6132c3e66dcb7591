/- Part Pi of the proof: a machine with trees for values, its soundness, and walks on it. -/
import Derived.Test.YtfdhkijgolgnfaaDoorPh

section
set_option linter.unusedVariables false
set_option linter.unusedSimpArgs false
set_option maxRecDepth 10000
namespace Go.Ideal.Tryd
/-! ### graphs: copies, equalities, size -/
structure Gr where
  nodes : List Nd
  out : Int
abbrev slN (ns : List Nd) : AV := .sl ns.length (fm encN ns)
abbrev grAV (g : Gr) : AV := .agg [slN g.nodes, li g.out]
/-- A node that is held alone. -/
def encM (n : Nd) : List AV := [li n.op, owI n.ins, owI n.args, owI n.shape, lb n.wide, owI n.data]
abbrev owN (ns : List Nd) : AV := .own 6 ns.length (fm encM ns)
@[go_sem] theorem encM_len {xs : List Nd} : (fm encM xs).length = xs.length * 6 := fm_len fun _ => rfl
@[go_sem] theorem encM_take {xs : List Nd} : (fm encM xs).take (xs.length * 6) = fm encM xs := fm_take fun _ => rfl
@[go_sem] theorem encM_frz {xs : List Nd} : frzL (fm encM xs) = fm encN xs := by
  rw [fm_frz]
  congr 1
  funext n
  simp [encM, encN, go_sem]
@[go_sem] theorem encM_noImm {xs : List Nd} : noImmL (fm encM xs) = true := fm_noImm fun n => by simp [encM, go_sem]
theorem noImm_owI (xs : List Int) : noImm (owI xs) = true := by simp only [noImm]; exact noImmL_li xs
section
variable {G : Nat → Option Value} {bk : Nat → Nat × Nat} {Q : Exit → St → Prop} {st : St}
theorem wdesc65 (sh : List Int) (w : Bool) (hlen : sh.length < 2 ^ 62) : ACalls pg G F_lodgeworld_Desc [.agg [slI sh, lb w]] (lb (decide (sh.length ≤ 8))) := by
  refine lodgeworld_Desc_call rfl ?_
  by_cases h : sh.length ≤ 8
  · have h' : (sh.length : Int) ≤ 8 := by omega
    simp (disch := omega) [go_sem, lodgeworld_Desc_c, h, h']
  · have h' : ¬ (sh.length : Int) ≤ 8 := by omega
    simp (disch := omega) [go_sem, lodgeworld_Desc_c, h, h']
theorem wtens50 (sh : List Int) (w : Bool) (data : List Int) (m : Nat) (hlen : sh.length < 2 ^ 62) : ACalls pg G F_lodgeworld_Tensor [tnAV sh w data, li m] (lb (decide (sh.length ≤ 8) && decide (data.length ≤ m))) := by
  refine lodgeworld_Tensor_call rfl ?_
  simp (disch := omega) [go_sem, lodgeworld_Tensor_c]
  refine cal_pure (wdesc65 sh w hlen) rfl rfl ?_
  by_cases h : sh.length ≤ 8
  · by_cases h2 : data.length ≤ m
    · have h2' : (data.length : Int) ≤ m := by omega
      simp (disch := omega) [go_sem, h, h2, h2']
    · have h2' : ¬ (data.length : Int) ≤ m := by omega
      simp (disch := omega) [go_sem, h, h2, h2']
  · simp (disch := omega) [go_sem, h]
def smallN (n : Nd) : Bool := decide (n.ins.length ≤ 10) && decide (n.args.length ≤ 10) && (decide (n.shape.length ≤ 8) && decide (n.data.length ≤ 300))
def wGraph (g : Gr) : Bool := decide (g.nodes.length ≤ 70) && g.nodes.all smallN
/-- Nothing of it is too long for a machine. -/
structure Nd.fin (n : Nd) : Prop where
  ins : n.ins.length < 2 ^ 62
  args : n.args.length < 2 ^ 62
  shape : n.shape.length < 2 ^ 62
  data : n.data.length < 2 ^ 62
theorem wgraph22 (g : Gr) (hn : g.nodes.length < 2 ^ 62) (hf : ∀ n ∈ g.nodes, n.fin) : ACalls pg G F_lodgeworld_Graph [grAV g] (lb (wGraph g)) := by
  obtain ⟨ns, out⟩ := g
  simp only at hn hf
  refine lodgeworld_Graph_call rfl ?_
  by_cases h70 : ns.length ≤ 70
  · have h70' : ¬ (70 : Int) < ns.length := by omega
    simp (disch := omega) [go_sem, lodgeworld_Graph_c, h70']
    refine aw_loop Nat (fun i st => i ≤ ns.length ∧ (ns.drop i).all smallN = ns.all smallN ∧ st.s 1 = .var [slN ns, li out] ∧ st.s 3 = li i) (fun i => ns.length - i) 0 ⟨by simp, rfl, by simp (disch := omega) [go_sem]⟩ ?_
    rintro i st K ⟨hi, hm, h⟩ hK
    by_cases hlt : i < ns.length
    · rw [List.drop_eq_getElem_cons hlt, List.all_cons] at hm
      have hfi := hf _ (List.getElem_mem hlt)
      have f1 := hfi.ins
      have f2 := hfi.args
      have f4 := hfi.data
      by_cases k1 : ns[i].ins.length ≤ 10
      · have k1' : ¬ (10 : Int) < ns[i].ins.length := by omega
        by_cases k2 : ns[i].args.length ≤ 10
        · have k2' : ¬ (10 : Int) < ns[i].args.length := by omega
          simp (disch := omega) [go_sem, lodgeworld_Graph_l0, h, hlt, k1', k2']
          refine cal_pure (wtens50 _ _ _ 300 hfi.shape) rfl rfl ?_
          cases hb : (decide (ns[i].shape.length ≤ 8) && decide (ns[i].data.length ≤ 300)) with
          | true =>
            rw [show smallN ns[i] = true by unfold smallN; rw [hb]; simp [k1, k2]] at hm
            simp (disch := omega) [go_sem, h]
            exact hK (i + 1) _ ⟨by omega, hm, by simp (disch := omega) [go_sem, h]⟩ (by omega)
          | false =>
            rw [show smallN ns[i] = false by unfold smallN; rw [hb]; simp] at hm
            have hm' : ns.all smallN = false := hm.symm
            simp (disch := omega) [go_sem, h, wGraph, hm']
        · have k2' : (10 : Int) < ns[i].args.length := by omega
          rw [show smallN ns[i] = false by simp [smallN, k2]] at hm
          have hm' : ns.all smallN = false := hm.symm
          simp (disch := omega) [go_sem, lodgeworld_Graph_l0, h, hlt, k1', k2', wGraph, hm']
      · have k1' : (10 : Int) < ns[i].ins.length := by omega
        rw [show smallN ns[i] = false by simp [smallN, k1]] at hm
        have hm' : ns.all smallN = false := hm.symm
        simp (disch := omega) [go_sem, lodgeworld_Graph_l0, h, hlt, k1', wGraph, hm']
    · obtain rfl : i = ns.length := by omega
      rw [List.drop_length] at hm
      have hm' : ns.all smallN = true := hm.symm
      simp (disch := omega) [go_sem, lodgeworld_Graph_l0, h, wGraph, h70, hm']
  · have h70' : (70 : Int) < ns.length := by omega
    simp (disch := omega) [go_sem, lodgeworld_Graph_c, h70', wGraph, h70]
structure Nd.sh (n : Nd) : Prop where
  ins : n.ins.length < 2 ^ 36
  args : n.args.length < 2 ^ 36
  shape : n.shape.length < 2 ^ 36
  data : n.data.length < 2 ^ 36
theorem sbytes29 (a : List Int) (hn : a.length < 2 ^ 62) : ACalls pg G F_lodgeref_SameBytes [slU a, slU a] (lb true) := by
  refine lodgeref_SameBytes_call rfl ?_
  simp (disch := omega) [go_sem, lodgeref_SameBytes_c]
  refine aw_loop Nat (fun i st => i ≤ a.length ∧ st.s 0 = slU a ∧ st.s 1 = slU a ∧ st.s 5 = li i) (fun i => a.length - i) 0 ⟨by simp, by simp (disch := omega) [go_sem]⟩ ?_
  rintro i st K ⟨hi, h⟩ hK
  by_cases hlt : i < a.length
  · simp (disch := omega) [go_sem, lodgeref_SameBytes_l0, h, hlt]
    refine aw_draw ?_
    simp (disch := omega) [go_sem, h, hlt]
    refine dFin_i (by decide) fun s2 hs he => ?_
    simp (disch := omega) [go_sem, hs, h]
    exact hK (i + 1) _ ⟨by omega, by simp (disch := omega) [go_sem, hs, h]⟩ (by omega)
  · obtain rfl : i = a.length := by omega
    simp (disch := omega) [go_sem, lodgeref_SameBytes_l0, h]
/-! ### is there a node such that -/
theorem index142 {f : FuncId} (hf : fnB pg f = true) {p : Nd → Bool} (ns : List Nd) (hp : ∀ x ∈ ns, ACallsX pg G f [.agg (encN x)] (lb (p x)) []) (hlen : ns.length < 2 ^ 62) : ACallsX pg G F_slices_IndexFunc_Node [slN ns, .fn f [] []] (li (idxP p ns 0)) [] := by
  refine slices_IndexFunc_Node_callX (pins := []) (by kernel_rfl) rfl rfl rfl rfl ?_
  simp (disch := omega) [go_sem, slices_IndexFunc_Node_c]
  refine aw_loop Nat (fun i st => i ≤ ns.length ∧ idxP p (ns.drop i) i = idxP p ns 0 ∧ st.s 0 = slN ns ∧ st.s 1 = .fn f [] [] ∧ st.s 7 = li ns.length ∧ st.s 8 = li i) (fun i => ns.length - i) 0 ⟨by simp, rfl, by simp (disch := omega) [go_sem]⟩ ?_
  rintro i st K ⟨hi, hno, h⟩ hK
  by_cases hlt : i < ns.length
  · rw [idxP_drop hlt] at hno
    simp (disch := omega) [go_sem, slices_IndexFunc_Node_l0, h, hlt, hf]
    refine clx_pure (hp _ (List.getElem_mem hlt)) rfl rfl rfl rfl ?_
    by_cases hv : p ns[i] = true
    · rw [if_pos hv] at hno
      simp (disch := omega) [go_sem, h, hlt, hv, ← hno]
    · rw [if_neg hv] at hno
      have hv' : p ns[i] = false := by simpa using hv
      simp (disch := omega) [go_sem, h, hlt, hv']
      exact hK (i + 1) _ ⟨by omega, hno, by simp (disch := omega) [go_sem, h]⟩ (by omega)
  · rw [List.drop_eq_nil_of_le (by omega)] at hno
    simp (disch := omega) [go_sem, slices_IndexFunc_Node_l0, h, hlt, ← hno, idxP]
theorem contains101 {f : FuncId} (hf : fnB pg f = true) {p : Nd → Bool} (ns : List Nd) (hp : ∀ x ∈ ns, ACallsX pg G f [.agg (encN x)] (lb (p x)) []) (hlen : ns.length < 2 ^ 62) : ACallsX pg G F_slices_ContainsFunc_Node [slN ns, .fn f [] []] (lb (ns.any p)) [] := by
  refine slices_ContainsFunc_Node_callX (pins := []) (by kernel_rfl) rfl rfl rfl rfl ?_
  simp (disch := omega) [go_sem, slices_ContainsFunc_Node_c]
  refine clx_pure (index142 hf ns hp hlen) rfl rfl rfl rfl ?_
  simp (disch := omega) [go_sem, idxP_any]
end
end Go.Ideal.Tryd
end

section
set_option linter.unusedVariables false
set_option linter.unusedSimpArgs false
set_option maxRecDepth 10000
namespace Go.Ideal.Tryd
/-! ### graph.Bytes -/
def manyN (n : Nd) : Bool := decide (8 < n.ins.length) || decide (8 < n.args.length)
def oddI (k : Int) : Bool := !decide (0 ≤ k ∧ k ≤ 65535)
def offI (a : Int) : Bool := !decide (-2147483648 ≤ a ∧ a ≤ 2147483647)
def offN (n : Nd) : Bool := decide (n.op < 0) || (decide (255 < n.op) || (n.ins.any oddI || n.args.any offI))
def constErr : List Nd → Er
  | [] => .nil
  | n :: ns => if n.op = 2 then (match tvErr n.shape n.wide n.data with
    | .nil => constErr ns
    | e => e) else constErr ns
def manyG (g : Gr) : Bool := decide (64 < g.nodes.length) || g.nodes.any manyN
def offG (g : Gr) : Bool := g.nodes.any offN || oddI g.out
/-- What is amiss with a graph's numbers. -/
def gErr (g : Gr) : Er := if manyG g = true then .s 2 else if offG g = true then .s 3 else constErr g.nodes
def nBytes (n : Nd) : List Int := [u8 n.op, u8 n.ins.length] ++ n.ins.flatMap le2 ++ [u8 n.args.length] ++ n.args.flatMap (put1 true) ++ (if n.op = 2 then tBytes n.shape n.wide n.data else [])
def gBytes (g : Gr) : List Int := [76, 71] ++ le2 g.nodes.length ++ g.nodes.flatMap nBytes ++ le2 g.out
section
variable {G : Nat → Option Value} {bk : Nat → Nat × Nat} {Q : Exit → St → Prop} {st : St}
theorem many102 (n : Nd) (hf : n.fin) : ACalls pg G 102 [.agg (encN n)] (lb (manyN n)) := by
  refine graph_fair_1_call rfl ?_
  have f1 := hf.ins
  have f2 := hf.args
  by_cases k1 : 8 < n.ins.length
  · have k1' : (8 : Int) < n.ins.length := by omega
    simp (disch := omega) [go_sem, graph_fair_1_c, encN, k1', manyN, k1]
  · have k1' : ¬ (8 : Int) < n.ins.length := by omega
    by_cases k2 : 8 < n.args.length
    · have k2' : (8 : Int) < n.args.length := by omega
      simp (disch := omega) [go_sem, graph_fair_1_c, encN, k1', k2', manyN, k1, k2]
    · have k2' : ¬ (8 : Int) < n.args.length := by omega
      simp (disch := omega) [go_sem, graph_fair_1_c, encN, k1', k2', manyN, k1, k2]
theorem fits107 (n : Int) : ACalls pg G F_plan_Fits [li n] (lb (decide (-2147483648 ≤ n ∧ n ≤ 2147483647))) := by
  refine plan_Fits_call rfl ?_
  by_cases h1 : -2147483648 ≤ n <;> by_cases h2 : n ≤ 2147483647 <;> simp (disch := omega) [go_sem, plan_Fits_c, h1, h2]
theorem off106 (n : Int) : ACalls pg G 106 [li n] (lb (offI n)) := by
  refine graph_fair_3_call rfl ?_
  simp (disch := omega) [go_sem, graph_fair_3_c]
  refine cal_pure (fits107 n) rfl rfl ?_
  simp (disch := omega) [go_sem, offI]
theorem gfair_l0 (hS : Sent G bk) {ns : List Nd} {out : Int} (hn : ns.length < 2 ^ 62) (hf : ∀ n ∈ ns, n.fin) (h : st.s 1 = .var [slN ns, li out] ∧ st.s 3 = .fn 103 [] [] ∧ st.s 20 = slN ns ∧ st.s 21 = li ns.length ∧ st.s 22 = li 0)
    (hex : ns.any offN = false → ∀ s, s.s 1 = .var [slN ns, li out] ∧ s.s 3 = .fn 103 [] [] → Q (.exit 0) s) (hret : ns.any offN = true → ∀ s, s.s 2 = sv bk 3 → Q .ret s) : AW pg G 69 (.loop graph_fair_l0) Q st := by
  refine aw_loop Nat (fun i st => i ≤ ns.length ∧ (ns.drop i).any offN = ns.any offN ∧ st.s 1 = .var [slN ns, li out] ∧ st.s 3 = .fn 103 [] [] ∧ st.s 20 = slN ns ∧ st.s 21 = li ns.length ∧ st.s 22 = li i) (fun i => ns.length - i) 0 ⟨by simp, rfl, h⟩ ?_
  clear h
  rintro i st K ⟨hi, hm, h⟩ hK
  by_cases hlt : i < ns.length
  · rw [List.drop_eq_getElem_cons hlt, List.any_cons] at hm
    have hfi := hf _ (List.getElem_mem hlt)
    have c1 := contains105 (G := G) (f := 103) graph_fair_2_fnB (p := oddI) ns[i].ins (fun x _ => (odd103 x).toX (by simp [noRef])) hfi.ins
    have c2 := contains105 (G := G) (f := 106) graph_fair_3_fnB (p := offI) ns[i].args (fun x _ => (off106 x).toX (by simp [noRef])) hfi.args
    by_cases k1 : ns[i].op < 0
    · rw [show offN ns[i] = true by simp [offN, k1]] at hm
      simp (disch := omega) [go_sem, graph_fair_l0, h, hlt, k1, hS.val]
      exact hret hm.symm _ (by simp (disch := omega) [go_sem])
    · by_cases k2 : 255 < ns[i].op
      · rw [show offN ns[i] = true by simp [offN, k2]] at hm
        simp (disch := omega) [go_sem, graph_fair_l0, h, hlt, k1, k2, hS.val]
        exact hret hm.symm _ (by simp (disch := omega) [go_sem])
      · simp (disch := omega) [go_sem, graph_fair_l0, h, hlt, k1, k2, hS.val]
        refine clx_pure c1 rfl rfl rfl rfl ?_
        cases k3 : ns[i].ins.any oddI with
        | true =>
          rw [show offN ns[i] = true by simp only [offN, k3]; simp] at hm
          simp (disch := omega) [go_sem, h, hS.val, k3]
          exact hret hm.symm _ (by simp (disch := omega) [go_sem])
        | false =>
          simp (disch := omega) [go_sem, h, hS.val, k3]
          refine clx_pure c2 rfl rfl rfl rfl ?_
          cases k4 : ns[i].args.any offI with
          | true =>
            rw [show offN ns[i] = true by simp only [offN, k4]; simp] at hm
            simp (disch := omega) [go_sem, h, hS.val, k4]
            exact hret hm.symm _ (by simp (disch := omega) [go_sem])
          | false =>
            rw [show offN ns[i] = false by simp only [offN, k3, k4]; simp; omega] at hm
            simp (disch := omega) [go_sem, h, hS.val, k4]
            exact hK (i + 1) _ ⟨by omega, hm, by simp (disch := omega) [go_sem, h]⟩ (by omega)
  · obtain rfl : i = ns.length := by omega
    rw [List.drop_length] at hm
    simp (disch := omega) [go_sem, graph_fair_l0, h]
    exact hex hm.symm _ (by simp (disch := omega) [go_sem, h])
theorem tvErr_cases (sh : List Int) (w : Bool) (data : List Int) : tvErr sh w data = .nil ∨ (∃ g, g < 21 ∧ tvErr sh w data = .s g) ∨ ∃ p g, g < 21 ∧ tvErr sh w data = .at p (.s g) := by
  unfold tvErr
  split
  · split
    · cases firstBad w data 0 with
      | none => exact .inl rfl
      | some i => exact .inr (.inr ⟨i, 3, by decide, rfl⟩)
    · exact .inr (.inl ⟨6, by decide, rfl⟩)
  · rcases dvErr_cases sh with e | e | e <;> rw [e]
    · exact .inl rfl
    · exact .inr (.inl ⟨2, by decide, rfl⟩)
    · exact .inr (.inl ⟨3, by decide, rfl⟩)
theorem constErr_cases : ∀ ns : List Nd, constErr ns = .nil ∨ (∃ g, g < 21 ∧ constErr ns = .s g) ∨ ∃ p g, g < 21 ∧ constErr ns = .at p (.s g)
  | [] => .inl rfl
  | n :: ns => by
    rw [constErr]
    split
    · rcases tvErr_cases n.shape n.wide n.data with e | ⟨g, hg, e⟩ | ⟨p, g, hg, e⟩ <;> rw [e]
      · exact constErr_cases ns
      · exact .inr (.inl ⟨g, hg, rfl⟩)
      · exact .inr (.inr ⟨p, g, hg, rfl⟩)
    · exact constErr_cases ns
theorem gErr_cases (g : Gr) : gErr g = .nil ∨ (∃ k, k < 21 ∧ gErr g = .s k) ∨ ∃ p k, k < 21 ∧ gErr g = .at p (.s k) := by
  unfold gErr
  split
  · exact .inr (.inl ⟨2, by decide, rfl⟩)
  · split
    · exact .inr (.inl ⟨3, by decide, rfl⟩)
    · exact constErr_cases _
theorem gfair_l1 (hS : Sent G bk) {ns : List Nd} {out : Int} (hn : ns.length < 2 ^ 62) (hf : ∀ n ∈ ns, n.fin) (h : st.s 1 = .var [slN ns, li out] ∧ st.s 53 = slN ns ∧ st.s 54 = li ns.length ∧ st.s 55 = li 0)
    (hex : constErr ns = .nil → ∀ s, Q (.exit 2) s) (hret : constErr ns ≠ .nil → ∀ s, s.s 2 = encE bk (constErr ns) → Q .ret s) : AW pg G 69 (.loop graph_fair_l1) Q st := by
  refine aw_loop Nat (fun i st => i ≤ ns.length ∧ constErr (ns.drop i) = constErr ns ∧ st.s 1 = .var [slN ns, li out] ∧ st.s 53 = slN ns ∧ st.s 54 = li ns.length ∧ st.s 55 = li i) (fun i => ns.length - i) 0 ⟨by simp, rfl, h⟩ ?_
  clear h
  rintro i st K ⟨hi, hm, h⟩ hK
  by_cases hlt : i < ns.length
  · rw [List.drop_eq_getElem_cons hlt, constErr] at hm
    have hfi := hf _ (List.getElem_mem hlt)
    have c1 := tvalid108 (G := G) hS ns[i].shape ns[i].wide ns[i].data hfi.shape hfi.data
    by_cases k1 : ns[i].op = 2
    · rw [if_pos k1] at hm
      simp (disch := omega) [go_sem, graph_fair_l1, h, hlt, k1]
      rcases tvErr_cases ns[i].shape ns[i].wide ns[i].data with e | ⟨g, hg, e⟩ | ⟨p, g, hg, e⟩ <;> rw [e] at c1 hm <;> simp only [encE] at c1
      · refine cal_pure c1 rfl rfl ?_
        simp (disch := omega) [go_sem, h]
        exact hK (i + 1) _ ⟨by omega, hm, by simp (disch := omega) [go_sem, h]⟩ (by omega)
      · refine cal_pure c1 rfl rfl ?_
        simp (disch := omega) [go_sem, h]
        exact hret (by rw [← hm]; simp) _ (by simp (disch := omega) [go_sem, ← hm, encE])
      · refine cal_imm c1 rfl rfl ?_
        simp (disch := omega) [go_sem, h]
        exact hret (by rw [← hm]; simp) _ (by simp (disch := omega) [go_sem, ← hm, encE])
    · rw [if_neg k1] at hm
      simp (disch := omega) [go_sem, graph_fair_l1, h, hlt, k1]
      exact hK (i + 1) _ ⟨by omega, hm, by simp (disch := omega) [go_sem, h]⟩ (by omega)
  · obtain rfl : i = ns.length := by omega
    rw [List.drop_length] at hm
    simp (disch := omega) [go_sem, graph_fair_l1, h]
    exact hex hm.symm _
theorem gfair52 (hS : Sent G bk) (g : Gr) (hn : g.nodes.length < 2 ^ 62) (hf : ∀ n ∈ g.nodes, n.fin) : ACalls pg G F_graph_fair [grAV g] (encE bk (gErr g)) := by
  obtain ⟨ns, out⟩ := g
  simp only at hn hf
  refine graph_fair_call rfl ?_
  have c1 := contains101 (G := G) (f := 102) graph_fair_1_fnB (p := manyN) ns (fun x hx => (many102 x (hf x hx)).toX (by simp [noRef])) hn
  by_cases h64 : 64 < ns.length
  · have h64' : (64 : Int) < ns.length := by omega
    have hM : manyG ⟨ns, out⟩ = true := by simp [manyG, h64]
    simp (disch := omega) [go_sem, graph_fair_c, h64', hS.val, gErr, hM, encE]
  · have h64' : ¬ (64 : Int) < ns.length := by omega
    simp (disch := omega) [go_sem, graph_fair_c, h64']
    refine clx_pure c1 rfl rfl rfl rfl ?_
    cases hm : ns.any manyN with
    | true =>
      have hM : manyG ⟨ns, out⟩ = true := by simp only [manyG, hm]; simp
      simp (disch := omega) [go_sem, hS.val, gErr, hM, encE]
    | false =>
      have hM : manyG ⟨ns, out⟩ = false := by simp only [manyG, hm]; simp [h64]
      simp (disch := omega) [go_sem]
      refine gfair_l0 (ns := ns) (out := out) hS hn hf (by simp (disch := omega) [go_sem]) (fun ho s h => ?_) (fun ho s h => ?_)
      · simp (disch := omega) [go_sem, h]
        refine clx_pure ((odd103 out).toX (by simp [noRef])) rfl rfl rfl rfl ?_
        by_cases k : 0 ≤ out ∧ out ≤ 65535
        · have hO : offG ⟨ns, out⟩ = false := by simp only [offG, ho, oddI, k]; simp
          simp (disch := omega) [go_sem, h, k]
          refine gfair_l1 (ns := ns) (out := out) hS hn hf (by simp (disch := omega) [go_sem, h]) (fun hc s => ?_) (fun hc s h => ?_)
          · simp (disch := omega) [go_sem, gErr, hM, hO, hc, encE]
          · simp (disch := omega) [go_sem, gErr, hM, hO, h]
        · have hO : offG ⟨ns, out⟩ = true := by simp only [offG, ho, oddI, k]; simp
          simp (disch := omega) [go_sem, h, k, hS.val, gErr, hM, hO, encE]
      · have hO : offG ⟨ns, out⟩ = true := by simp only [offG, ho]; simp
        simp (disch := omega) [go_sem, h, gErr, hM, hO, encE]
theorem number55 (xs : List Int) (n : Int) (h : xs.length < 2 ^ 40) : ACallsX pg G F_plan_Writer_Number [.var [owU xs], li n] (.tup []) [(0, .var [owU (xs ++ put1 true n)])] := by
  refine plan_Writer_Number_callX (pins := [0]) (by kernel_rfl) rfl rfl rfl rfl ?_
  simp (disch := omega) [go_sem, plan_Writer_Number_c, put1]
end
end Go.Ideal.Tryd
end

section
set_option linter.unusedVariables false
set_option linter.unusedSimpArgs false
set_option maxRecDepth 10000
namespace Go.Ideal.Tryd
theorem ni_w (b : List Int) : (noImm (AV.tup []) && [((0 : Nat), AV.var [owU b])].all fun p => noImm p.2) = true := by simp [noImm, noImmL, noImmL_lu]
theorem tvErr_len {sh : List Int} {w : Bool} {data : List Int} (h : tvErr sh w data = .nil) : sh.length ≤ 4 ∧ data.length ≤ 16384 := by
  unfold tvErr at h
  split at h
  · rename_i ok
    split at h
    · rename_i he
      have := elemsI_rng sh
      simp only [shOk, Bool.and_eq_true, decide_eq_true_eq] at ok
      exact ⟨ok.1.1, by omega⟩
    · cases h
  · rename_i ok
    exact absurd (dvErr_ok.1 h) ok
structure Nd.good (n : Nd) : Prop where
  ins : n.ins.length ≤ 8
  args : n.args.length ≤ 8
  tens : n.op = 2 → tvErr n.shape n.wide n.data = .nil
theorem put1_true_len : ∀ l : List Int, (l.flatMap (put1 true)).length = 4 * l.length
  | [] => rfl
  | k :: ks => by simp only [List.flatMap_cons, List.length_append, put1_true_len ks, put1, if_true, List.length_cons, List.length_nil]; omega
theorem nBytes_len {n : Nd} (h : n.good) : (nBytes n).length ≤ 70000 := by
  have h1 := h.ins
  have h2 := h.args
  simp only [nBytes, List.length_append, le2_len, put1_true_len, List.length_cons, List.length_nil]
  split
  · rename_i hc
    obtain ⟨h3, h4⟩ := tvErr_len (h.tens hc)
    have := rawB_len n.wide n.data
    simp only [tBytes, List.length_append, dBytes_len]
    omega
  · simp; omega
theorem constErr_ok : ∀ {ns : List Nd}, constErr ns = .nil → ∀ n ∈ ns, n.op = 2 → tvErr n.shape n.wide n.data = .nil
  | [], _, n, hn, _ => by simp at hn
  | m :: ns, h, n, hn, ho => by
    rw [constErr] at h
    rcases List.mem_cons.1 hn with rfl | hn
    · rw [if_pos ho] at h
      rcases tvErr_cases n.shape n.wide n.data with e | ⟨g, hg, e⟩ | ⟨p, g, hg, e⟩
      · exact e
      · rw [e] at h; cases h
      · rw [e] at h; cases h
    · split at h
      · rcases tvErr_cases m.shape m.wide m.data with e | ⟨g, hg, e⟩ | ⟨p, g, hg, e⟩ <;> rw [e] at h
        · exact constErr_ok h n hn ho
        · cases h
        · cases h
      · exact constErr_ok h n hn ho
theorem gErr_good {g : Gr} (h : gErr g = .nil) : g.nodes.length ≤ 64 ∧ ∀ n ∈ g.nodes, n.good := by
  unfold gErr at h
  split at h
  · cases h
  · rename_i hM
    split at h
    · cases h
    · simp only [manyG, Bool.or_eq_true, decide_eq_true_eq, List.any_eq_true, not_or, not_exists, not_and] at hM
      refine ⟨by omega, fun n hn => ?_⟩
      have := hM.2 n hn
      simp only [manyN, Bool.or_eq_true, decide_eq_true_eq, not_or] at this
      exact ⟨by omega, by omega, constErr_ok h n hn⟩
section
variable {G : Nat → Option Value} {bk : Nat → Nat × Nat} {Q : Exit → St → Prop} {st : St}
theorem gb_l0 {ns : List Nd} {out : Int} {x : Nd} {i : Nat} {row bs : List Int} (hr : row.length ≤ 8) (hb : bs.length < 2 ^ 39) (h : st.s 1 = .var [slN ns, li out] ∧ st.s 7 = .var (encN x) ∧ st.s 27 = slN ns ∧ st.s 28 = li ns.length ∧ st.s 29 = li i ∧ st.s 43 = slI row ∧ st.s 44 = li row.length ∧ st.s 45 = li 0 ∧ st.s 5 = .var [owU bs])
    (hex : ∀ s b, b = bs ++ row.flatMap le2 → s.s 1 = .var [slN ns, li out] ∧ s.s 7 = .var (encN x) ∧ s.s 27 = slN ns ∧ s.s 28 = li ns.length ∧ s.s 29 = li i ∧ s.s 5 = .var [owU b] → Q (.exit 2) s) : AW pg G 92 (.loop graph_Bytes_l0) Q st := by
  refine aw_loop (Nat × List Int) (fun p st => p.1 ≤ row.length ∧ p.2 ++ (row.drop p.1).flatMap le2 = bs ++ row.flatMap le2 ∧ p.2.length ≤ bs.length + 2 * p.1 ∧ st.s 1 = .var [slN ns, li out] ∧ st.s 7 = .var (encN x) ∧ st.s 27 = slN ns ∧ st.s 28 = li ns.length ∧ st.s 29 = li i ∧ st.s 43 = slI row ∧ st.s 44 = li row.length ∧ st.s 45 = li p.1 ∧ st.s 5 = .var [owU p.2]) (fun p => row.length - p.1) (0, bs) ⟨by simp, rfl, by simp, h⟩ ?_
  clear h
  rintro ⟨j, b⟩ st K ⟨hj, hm, hl, h⟩ hK
  simp only at hj hm hl h
  by_cases hlt : j < row.length
  · rw [List.drop_eq_getElem_cons hlt, List.flatMap_cons, ← List.append_assoc] at hm
    simp (disch := omega) [go_sem, graph_Bytes_l0, h, hlt, encN]
    refine clx_pure (count53 b row[j] (by omega)) rfl rfl rfl (ni_w _) ?_
    simp (disch := omega) [go_sem, h, encN]
    exact hK (j + 1, b ++ le2 row[j]) _ ⟨by simp only; omega, hm, by simp only [List.length_append, le2, List.length_cons, List.length_nil]; omega, by simp (disch := omega) [go_sem, h, encN, le2]⟩ (by simp only; omega)
  · obtain rfl : j = row.length := by omega
    rw [List.drop_length] at hm
    simp only [List.flatMap_nil, List.append_nil] at hm
    simp (disch := omega) [go_sem, graph_Bytes_l0, h]
    exact hex _ _ hm (by simp (disch := omega) [go_sem, h])
theorem gb_l1 {ns : List Nd} {out : Int} {x : Nd} {i : Nat} {row bs : List Int} (hr : row.length ≤ 8) (hb : bs.length < 2 ^ 39) (h : st.s 1 = .var [slN ns, li out] ∧ st.s 7 = .var (encN x) ∧ st.s 27 = slN ns ∧ st.s 28 = li ns.length ∧ st.s 29 = li i ∧ st.s 59 = slI row ∧ st.s 60 = li row.length ∧ st.s 61 = li 0 ∧ st.s 5 = .var [owU bs])
    (hex : ∀ s b, b = bs ++ row.flatMap (put1 true) → s.s 1 = .var [slN ns, li out] ∧ s.s 7 = .var (encN x) ∧ s.s 27 = slN ns ∧ s.s 28 = li ns.length ∧ s.s 29 = li i ∧ s.s 5 = .var [owU b] → Q (.exit 4) s) : AW pg G 92 (.loop graph_Bytes_l1) Q st := by
  refine aw_loop (Nat × List Int) (fun p st => p.1 ≤ row.length ∧ p.2 ++ (row.drop p.1).flatMap (put1 true) = bs ++ row.flatMap (put1 true) ∧ p.2.length ≤ bs.length + 4 * p.1 ∧ st.s 1 = .var [slN ns, li out] ∧ st.s 7 = .var (encN x) ∧ st.s 27 = slN ns ∧ st.s 28 = li ns.length ∧ st.s 29 = li i ∧ st.s 59 = slI row ∧ st.s 60 = li row.length ∧ st.s 61 = li p.1 ∧ st.s 5 = .var [owU p.2]) (fun p => row.length - p.1) (0, bs) ⟨by simp, rfl, by simp, h⟩ ?_
  clear h
  rintro ⟨j, b⟩ st K ⟨hj, hm, hl, h⟩ hK
  simp only at hj hm hl h
  by_cases hlt : j < row.length
  · have hp := put1_len true row[j]
    rw [List.drop_eq_getElem_cons hlt, List.flatMap_cons, ← List.append_assoc] at hm
    simp (disch := omega) [go_sem, graph_Bytes_l1, h, hlt, encN]
    refine clx_pure (number55 b row[j] (by omega)) rfl rfl rfl (ni_w _) ?_
    simp (disch := omega) [go_sem, h, encN]
    exact hK (j + 1, b ++ put1 true row[j]) _ ⟨by simp only; omega, hm, by simp only [List.length_append]; omega, by simp (disch := omega) [go_sem, h, encN]⟩ (by simp only; omega)
  · obtain rfl : j = row.length := by omega
    rw [List.drop_length] at hm
    simp only [List.flatMap_nil, List.append_nil] at hm
    simp (disch := omega) [go_sem, graph_Bytes_l1, h]
    exact hex _ _ hm (by simp (disch := omega) [go_sem, h])
theorem gb_l2 (hS : Sent G bk) {ns : List Nd} {out : Int} {T : List Int} (hn : ns.length ≤ 64) (hg : ∀ n ∈ ns, n.good) (hf : ∀ n ∈ ns, n.fin) {b0 : List Int} (hb0 : b0.length = 4) (hT : T = b0 ++ ns.flatMap nBytes) (h : st.s 1 = .var [slN ns, li out] ∧ st.s 27 = slN ns ∧ st.s 28 = li ns.length ∧ st.s 29 = li 0 ∧ st.s 5 = .var [owU b0])
    (hex : ∀ s, T.length < 2 ^ 39 → s.s 1 = .var [slN ns, li out] ∧ s.s 27 = slN ns ∧ s.s 28 = li ns.length ∧ s.s 29 = li ns.length ∧ s.s 5 = .var [owU T] → Q (.exit 0) s) : AW pg G 92 (.loop graph_Bytes_l2) Q st := by
  refine aw_loop (Nat × List Int) (fun p st => p.1 ≤ ns.length ∧ p.2 ++ (ns.drop p.1).flatMap nBytes = T ∧ p.2.length ≤ 4 + 70000 * p.1 ∧ st.s 1 = .var [slN ns, li out] ∧ st.s 27 = slN ns ∧ st.s 28 = li ns.length ∧ st.s 29 = li p.1 ∧ st.s 5 = .var [owU p.2]) (fun p => ns.length - p.1) (0, b0) ⟨by simp, hT.symm, by simp; omega, h⟩ ?_
  clear h hT
  rintro ⟨i, bs⟩ st K ⟨hi, hm, hl, h⟩ hK
  simp only at hi hm hl h
  by_cases hlt : i < ns.length
  · rw [List.drop_eq_getElem_cons hlt, List.flatMap_cons, ← List.append_assoc] at hm
    have hgi := hg _ (List.getElem_mem hlt)
    have hfi := hf _ (List.getElem_mem hlt)
    have g1 := hgi.ins
    have g2 := hgi.args
    have hnl := nBytes_len hgi
    have l1 := le2_len ns[i].ins
    have l2 := put1_true_len ns[i].args
    obtain ⟨b1, e1⟩ : ∃ b, b = bs ++ [u8 ns[i].op] := ⟨_, rfl⟩
    obtain ⟨b2, e2⟩ : ∃ b, b = b1 ++ [u8 ns[i].ins.length] := ⟨_, rfl⟩
    have n1 := congrArg List.length e1
    have n2 := congrArg List.length e2
    simp only [List.length_append, List.length_cons, List.length_nil] at n1 n2
    have c1 := byte54 (G := G) bs ns[i].op (by omega)
    have c2 := byte54 (G := G) b1 ns[i].ins.length (by omega)
    rw [← e1] at c1
    rw [← e2] at c2
    simp (disch := omega) [go_sem, graph_Bytes_l2, h, hlt]
    refine clx_pure c1 rfl rfl rfl (ni_w _) ?_
    simp (disch := omega) [go_sem, h]
    refine clx_pure c2 rfl rfl rfl (ni_w _) ?_
    simp (disch := omega) [go_sem, h]
    refine gb_l0 (ns := ns) (out := out) (x := ns[i]) (i := i) (row := ns[i].ins) (bs := b2) g1 (by omega) (by simp (disch := omega) [go_sem, h, encN]) fun s b3 e3 h => ?_
    have n3 := congrArg List.length e3
    simp only [List.length_append, l1] at n3
    obtain ⟨b4, e4⟩ : ∃ b, b = b3 ++ [u8 ns[i].args.length] := ⟨_, rfl⟩
    have n4 := congrArg List.length e4
    simp only [List.length_append, List.length_cons, List.length_nil] at n4
    have c4 := byte54 (G := G) b3 ns[i].args.length (by omega)
    rw [← e4] at c4
    simp (disch := omega) [go_sem, h, encN]
    refine clx_pure c4 rfl rfl rfl (ni_w _) ?_
    simp (disch := omega) [go_sem, h, encN]
    refine gb_l1 (ns := ns) (out := out) (x := ns[i]) (i := i) (row := ns[i].args) (bs := b4) g2 (by omega) (by simp (disch := omega) [go_sem, h, encN]) fun s b5 e5 h => ?_
    have n5 := congrArg List.length e5
    simp only [List.length_append, l2] at n5
    have eN : b5 ++ (if ns[i].op = 2 then tBytes ns[i].shape ns[i].wide ns[i].data else []) = bs ++ nBytes ns[i] := by rw [e5, e4, e3, e2, e1]; simp [nBytes]
    by_cases k : ns[i].op = 2
    · rw [if_pos k] at eN
      have ht := tvErr_len (hgi.tens k)
      have hr := rawB_len ns[i].wide ns[i].data
      have hd := dBytes_len ns[i].shape ns[i].wide
      have htl : (tBytes ns[i].shape ns[i].wide ns[i].data).length < 2 ^ 38 := by simp only [tBytes, List.length_append]; omega
      simp (disch := omega) [go_sem, h, encN, k]
      refine aw_drawV [(5, s.ep 5)] (by simp) (by simp (disch := omega) [go_sem, h]) ?_
      simp (disch := omega) [go_sem, h, encN, k]
      refine dCal_pure (tbytes56 hS ns[i].shape ns[i].wide ns[i].data (by omega) (hgi.tens k)) rfl (noImm_owU _) (by simp) [79] (by simp) (by simp (disch := omega) [go_sem, h]) ?_
      simp (disch := omega) [go_sem, h, encN, k]
      refine dFin_i (by decide) fun s2 hs he => ?_
      obtain ⟨b6, e6⟩ : ∃ b, b = bs ++ nBytes ns[i] := ⟨_, rfl⟩
      rw [← e6] at eN hm
      simp (disch := omega) [go_sem, h, encN, hs]
      exact hK (i + 1, b6) _ ⟨by simp only; omega, hm, by simp only [e6, List.length_append]; omega, by simp (disch := omega) [go_sem, h, encN, hs, ← eN]⟩ (by simp only; omega)
    · rw [if_neg k, List.append_nil] at eN
      rw [← eN] at hm
      have n6 := congrArg List.length eN
      simp only [List.length_append] at n6
      simp (disch := omega) [go_sem, h, encN, k]
      exact hK (i + 1, b5) _ ⟨by simp only; omega, hm, by simp only; omega, by simp (disch := omega) [go_sem, h, encN]⟩ (by simp only; omega)
  · obtain rfl : i = ns.length := by omega
    rw [List.drop_length] at hm
    simp only [List.flatMap_nil, List.append_nil] at hm
    subst hm
    simp (disch := omega) [go_sem, graph_Bytes_l2, h]
    exact hex _ (by omega) (by simp (disch := omega) [go_sem, h])
theorem gbytes24 (hS : Sent G bk) (g : Gr) (hf : ∀ n ∈ g.nodes, n.fin) (he : gErr g = .nil) : ACalls pg G F_graph_Bytes [grAV g] (.tup [slU (gBytes g), .lit .nilIface]) := by
  obtain ⟨h64, hg⟩ := gErr_good he
  have h0 := gfair52 (G := G) hS g (by omega) hf
  rw [he] at h0
  simp only [encE] at h0
  obtain ⟨ns, out⟩ := g
  simp only at h64 hg hf
  refine graph_Bytes_call rfl ?_
  simp (disch := omega) [go_sem, graph_Bytes_c]
  refine cal_pure h0 rfl rfl ?_
  simp (disch := omega) [go_sem]
  refine clx_pure (count53 [76, 71] ns.length (by simp)) rfl rfl rfl (ni_w _) ?_
  simp (disch := omega) [go_sem]
  obtain ⟨T, eT⟩ : ∃ T, T = ([76, 71] ++ le2 ns.length) ++ ns.flatMap nBytes := ⟨_, rfl⟩
  refine gb_l2 (ns := ns) (out := out) (T := T) hS h64 hg hf (b0 := [76, 71] ++ le2 ns.length) rfl eT (by simp (disch := omega) [go_sem, le2]) fun s hTl h => ?_
  obtain ⟨U, eU⟩ : ∃ U, U = T ++ le2 out := ⟨_, rfl⟩
  have c2 := count53 (G := G) T out (by omega)
  rw [show T ++ [u8 out, u8 (out.fdiv 256)] = U from eU.symm] at c2
  simp (disch := omega) [go_sem, h]
  refine clx_pure c2 rfl rfl rfl (ni_w _) ?_
  have e : gBytes ⟨ns, out⟩ = U := by rw [eU, eT]; rfl
  simp (disch := omega) [go_sem, h, e]
theorem gbytes24e (hS : Sent G bk) (g : Gr) (hn : g.nodes.length < 2 ^ 62) (hf : ∀ n ∈ g.nodes, n.fin) (he : gErr g ≠ .nil) : ACalls pg G F_graph_Bytes [grAV g] (.tup [owU [], encE bk (gErr g)]) := by
  have h0 := gfair52 (G := G) hS g hn hf
  obtain ⟨ns, out⟩ := g
  refine graph_Bytes_call rfl ?_
  simp (disch := omega) [go_sem, graph_Bytes_c]
  rcases gErr_cases ⟨ns, out⟩ with e | ⟨k, hk, e⟩ | ⟨p, k, hk, e⟩ <;> rw [e] at h0 he ⊢ <;> simp only [encE] at h0
  · exact absurd rfl he
  · refine cal_pure h0 rfl rfl ?_
    simp (disch := omega) [go_sem, encE]
  · refine cal_imm h0 rfl rfl ?_
    simp (disch := omega) [go_sem, encE]
end
end Go.Ideal.Tryd
end
