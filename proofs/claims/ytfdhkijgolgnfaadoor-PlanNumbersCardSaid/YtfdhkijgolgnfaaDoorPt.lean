/- Part Pt of the proof: a machine with trees for values, its soundness, and walks on it. -/
import Derived.Test.YtfdhkijgolgnfaaDoorPs

section
set_option linter.unusedVariables false
set_option linter.unusedSimpArgs false
set_option maxRecDepth 10000
namespace Go.Ideal.Tryd
/-! ### plan.fair -/
def fits32 (x : Int) : Bool := decide (-2147483648 ≤ x ∧ x ≤ 2147483647)
def toldI (v : In) : Bool := ([v.dst, v.frm, v.to] ++ (v.ins ++ v.args)).all fits32 && (decide (0 ≤ v.op) && decide (v.op ≤ 255))
section
variable {G : Nat → Option Value} {bk : Nat → Nat × Nat} {Q : Exit → St → Prop} {st : St}
theorem told_l0 {v : In} {ys : List Int} (hn : ys.length < 2 ^ 40) (h : st.s 1 = .var (eI v) ∧ st.s 17 = owI ys ∧ st.s 18 = li ys.length ∧ st.s 19 = li 0)
    (hex : ys.all fits32 = true → ∀ s, s.s 1 = .var (eI v) → Q (.exit 0) s) (hret : ys.all fits32 = false → ∀ s, s.s 2 = lb false → Q .ret s) : AW pg G 35 (.loop plan_told_l0) Q st := by
  refine aw_loop Nat (fun i st => i ≤ ys.length ∧ (ys.drop i).all fits32 = ys.all fits32 ∧ st.s 1 = .var (eI v) ∧ st.s 17 = owI ys ∧ st.s 18 = li ys.length ∧ st.s 19 = li i) (fun i => ys.length - i) 0 ⟨by simp, rfl, h⟩ ?_
  clear h
  rintro i st K ⟨hi, hm, h⟩ hK
  by_cases hlt : i < ys.length
  · rw [List.drop_eq_getElem_cons hlt, List.all_cons] at hm
    simp (disch := omega) [go_sem, plan_told_l0, h, hlt]
    refine cal_pure (fits107 ys[i]) rfl rfl ?_
    cases hf : fits32 ys[i] with
    | true =>
      rw [hf, Bool.true_and] at hm
      have hf' : decide (-2147483648 ≤ ys[i] ∧ ys[i] ≤ 2147483647) = true := hf
      rw [hf']
      simp (disch := omega) [go_sem, h]
      exact hK (i + 1) _ ⟨by omega, hm, by simp (disch := omega) [go_sem, h]⟩ (by omega)
    | false =>
      rw [hf, Bool.false_and] at hm
      have hf' : decide (-2147483648 ≤ ys[i] ∧ ys[i] ≤ 2147483647) = false := hf
      rw [hf']
      simp (disch := omega) [go_sem, h]
      exact hret hm.symm _ (by simp (disch := omega) [go_sem, h])
  · obtain rfl : i = ys.length := by omega
    rw [List.drop_length] at hm
    simp (disch := omega) [go_sem, plan_told_l0, h]
    exact hex hm.symm _ (by simp (disch := omega) [go_sem, h])
theorem told133 (v : In) (h1 : v.ins.length < 2 ^ 37) (h2 : v.args.length < 2 ^ 37) : ACalls pg G F_plan_told [.agg (eI v)] (lb (toldI v)) := by
  refine plan_told_call rfl ?_
  have hc := concat154 (G := G) [[v.dst, v.frm, v.to], v.ins, v.args] (by simp) (by simp [lenAll]; omega)
  simp only [List.flatten_cons, List.flatten_nil, List.append_nil] at hc
  unfold toldI
  generalize hys : [v.dst, v.frm, v.to] ++ (v.ins ++ v.args) = ys at *
  have hyl : ys.length < 2 ^ 40 := by rw [← hys]; simp; omega
  clear hys
  simp (disch := omega) [go_sem, plan_told_c, eI]
  refine cal_pure hc rfl (noImm_owI _) ?_
  simp (disch := omega) [go_sem]
  refine told_l0 (v := v) (ys := ys) hyl (by simp (disch := omega) [go_sem, eI]) (fun ha s h => ?_) fun ha s h => ?_
  · rw [ha]
    by_cases k1 : 0 ≤ v.op
    · by_cases k2 : v.op ≤ 255 <;> simp (disch := omega) [go_sem, h, eI, k1, k2]
    · simp (disch := omega) [go_sem, h, eI, k1]
  · rw [ha]
    simp (disch := omega) [go_sem, h]
theorem pmany126 (v : In) (h1 : v.ins.length < 2 ^ 37) (h2 : v.args.length < 2 ^ 37) : ACalls pg G F_plan_many [.agg (eI v)] (lb (decide (8 < v.ins.length) || decide (8 < v.args.length))) := by
  refine plan_many_call rfl ?_
  by_cases k1 : 8 < v.ins.length
  · have k1' : (8 : Int) < v.ins.length := by omega
    simp (disch := omega) [go_sem, plan_many_c, eI, k1, k1']
  · have k1' : ¬ (8 : Int) < v.ins.length := by omega
    by_cases k2 : 8 < v.args.length
    · have k2' : (8 : Int) < v.args.length := by omega
      simp (disch := omega) [go_sem, plan_many_c, eI, k1, k1', k2, k2']
    · have k2' : ¬ (8 : Int) < v.args.length := by omega
      simp (disch := omega) [go_sem, plan_many_c, eI, k1, k1', k2, k2']
theorem pf132 (v : In) (h1 : v.ins.length < 2 ^ 37) (h2 : v.args.length < 2 ^ 37) : ACalls pg G 132 [.agg (eI v)] (lb (!toldI v)) := by
  refine plan_fair_4_call rfl ?_
  simp (disch := omega) [go_sem, plan_fair_4_c, eI]
  refine cal_pure (told133 v h1 h2) rfl rfl ?_
  simp (disch := omega) [go_sem]
theorem pf129 (d : Ds) (h : d.shape.length < 2 ^ 62) : ACalls pg G 129 [.agg (eD d)] (lb (decide (7 < d.shape.length))) := by
  refine plan_fair_1_call rfl ?_
  by_cases k1 : 7 < d.shape.length
  · have k1' : (7 : Int) < d.shape.length := by omega
    simp (disch := omega) [go_sem, plan_fair_1_c, eD, k1, k1']
  · have k1' : ¬ (7 : Int) < d.shape.length := by omega
    simp (disch := omega) [go_sem, plan_fair_1_c, eD, k1, k1']
theorem pf130 (k : Int) : ACalls pg G 130 [li k] (lb (oddI k)) := by
  refine plan_fair_2_call rfl ?_
  by_cases k1 : k < 0
  · have : ¬ (0 ≤ k ∧ k ≤ 65535) := by omega
    simp (disch := omega) [go_sem, plan_fair_2_c, k1, oddI, this]
  · by_cases k2 : 65535 < k
    · have : ¬ (0 ≤ k ∧ k ≤ 65535) := by omega
      simp (disch := omega) [go_sem, plan_fair_2_c, k1, k2, oddI, this]
    · have : 0 ≤ k ∧ k ≤ 65535 := by omega
      simp (disch := omega) [go_sem, plan_fair_2_c, k1, k2, oddI, this]
theorem pf131 (k : Int) : ACalls pg G 131 [li k] (lb (offI k)) := by
  refine plan_fair_3_call rfl ?_
  simp (disch := omega) [go_sem, plan_fair_3_c]
  refine cal_pure (fits107 k) rfl rfl ?_
  simp (disch := omega) [go_sem, offI]
end
end Go.Ideal.Tryd
end

section
set_option linter.unusedVariables false
set_option linter.unusedSimpArgs false
set_option maxRecDepth 10000
namespace Go.Ideal.Tryd
def manyI (v : In) : Bool := decide (8 < v.ins.length) || decide (8 < v.args.length)
def manyP (p : Pl) : Bool := decide (128 < p.views.length) || (decide (64 < p.consts.length) || (decide (8 < p.weights.length) || (decide (2048 < p.code.length) || p.code.any manyI)))
def descsP (p : Pl) : List Ds := p.views.map (fun v => ⟨v.shape, v.wide⟩) ++ p.weights
def longD (d : Ds) : Bool := decide (7 < d.shape.length)
def oddD (d : Ds) : Bool := d.shape.any oddI
def numsP (p : Pl) : List Int := [p.size, p.input, p.output] ++ p.views.map (·.off)
def tErr : List Tn → Er
  | [] => .nil
  | t :: ts => match tvErr t.shape t.wide t.data with
    | .nil => tErr ts
    | e => e
/-- What is amiss with a plan's numbers. -/
def pErr (p : Pl) : Er := if manyP p = true then .s 2 else if (descsP p).any longD = true then .s 2 else if (descsP p).any oddD = true then .s 3 else if ((numsP p).any offI || p.code.any (fun v => !toldI v)) = true then .s 3 else tErr p.consts
section
variable {G : Nat → Option Value} {bk : Nat → Nat × Nat} {Q : Exit → St → Prop} {st : St}
theorem index152 {f : FuncId} (hf : fnB pg f = true) {p : In → Bool} (ns : List In) (hp : ∀ x ∈ ns, ACallsX pg G f [.agg (eI x)] (lb (p x)) []) (hlen : ns.length < 2 ^ 62) : ACallsX pg G F_slices_IndexFunc_Instr [slJ ns, .fn f [] []] (li (idxP p ns 0)) [] := by
  refine slices_IndexFunc_Instr_callX (pins := []) (by kernel_rfl) rfl rfl rfl rfl ?_
  simp (disch := omega) [go_sem, slices_IndexFunc_Instr_c]
  refine aw_loop Nat (fun i st => i ≤ ns.length ∧ idxP p (ns.drop i) i = idxP p ns 0 ∧ st.s 0 = slJ ns ∧ st.s 1 = .fn f [] [] ∧ st.s 7 = li ns.length ∧ st.s 8 = li i) (fun i => ns.length - i) 0 ⟨by simp, rfl, by simp (disch := omega) [go_sem]⟩ ?_
  rintro i st K ⟨hi, hno, h⟩ hK
  by_cases hlt : i < ns.length
  · rw [idxP_drop hlt] at hno
    simp (disch := omega) [go_sem, slices_IndexFunc_Instr_l0, h, hlt, hf]
    refine clx_pure (hp _ (List.getElem_mem hlt)) rfl rfl rfl rfl ?_
    by_cases hv : p ns[i] = true
    · rw [if_pos hv] at hno
      simp (disch := omega) [go_sem, h, hlt, hv, ← hno]
    · rw [if_neg hv] at hno
      have hv' : p ns[i] = false := by simpa using hv
      simp (disch := omega) [go_sem, h, hlt, hv']
      exact hK (i + 1) _ ⟨by omega, hno, by simp (disch := omega) [go_sem, h]⟩ (by omega)
  · rw [List.drop_eq_nil_of_le (by omega)] at hno
    simp (disch := omega) [go_sem, slices_IndexFunc_Instr_l0, h, hlt, ← hno, idxP]
theorem contains125 {f : FuncId} (hf : fnB pg f = true) {p : In → Bool} (ns : List In) (hp : ∀ x ∈ ns, ACallsX pg G f [.agg (eI x)] (lb (p x)) []) (hlen : ns.length < 2 ^ 62) : ACallsX pg G F_slices_ContainsFunc_Instr [slJ ns, .fn f [] []] (lb (ns.any p)) [] := by
  refine slices_ContainsFunc_Instr_callX (pins := []) (by kernel_rfl) rfl rfl rfl rfl ?_
  simp (disch := omega) [go_sem, slices_ContainsFunc_Instr_c]
  refine clx_pure (index152 hf ns hp hlen) rfl rfl rfl rfl ?_
  simp (disch := omega) [go_sem, idxP_any]
theorem index153 {f : FuncId} (hf : fnB pg f = true) {p : Ds → Bool} (ns : List Ds) (hp : ∀ x ∈ ns, ACallsX pg G f [.agg (eD x)] (lb (p x)) []) (hlen : ns.length < 2 ^ 62) : ACallsX pg G F_slices_IndexFunc_Desc [slD ns, .fn f [] []] (li (idxP p ns 0)) [] := by
  refine slices_IndexFunc_Desc_callX (pins := []) (by kernel_rfl) rfl rfl rfl rfl ?_
  simp (disch := omega) [go_sem, slices_IndexFunc_Desc_c]
  refine aw_loop Nat (fun i st => i ≤ ns.length ∧ idxP p (ns.drop i) i = idxP p ns 0 ∧ st.s 0 = slD ns ∧ st.s 1 = .fn f [] [] ∧ st.s 7 = li ns.length ∧ st.s 8 = li i) (fun i => ns.length - i) 0 ⟨by simp, rfl, by simp (disch := omega) [go_sem]⟩ ?_
  rintro i st K ⟨hi, hno, h⟩ hK
  by_cases hlt : i < ns.length
  · rw [idxP_drop hlt] at hno
    simp (disch := omega) [go_sem, slices_IndexFunc_Desc_l0, h, hlt, hf]
    refine clx_pure (hp _ (List.getElem_mem hlt)) rfl rfl rfl rfl ?_
    by_cases hv : p ns[i] = true
    · rw [if_pos hv] at hno
      simp (disch := omega) [go_sem, h, hlt, hv, ← hno]
    · rw [if_neg hv] at hno
      have hv' : p ns[i] = false := by simpa using hv
      simp (disch := omega) [go_sem, h, hlt, hv']
      exact hK (i + 1) _ ⟨by omega, hno, by simp (disch := omega) [go_sem, h]⟩ (by omega)
  · rw [List.drop_eq_nil_of_le (by omega)] at hno
    simp (disch := omega) [go_sem, slices_IndexFunc_Desc_l0, h, hlt, ← hno, idxP]
theorem contains128 {f : FuncId} (hf : fnB pg f = true) {p : Ds → Bool} (ns : List Ds) (hp : ∀ x ∈ ns, ACallsX pg G f [.agg (eD x)] (lb (p x)) []) (hlen : ns.length < 2 ^ 62) : ACallsX pg G F_slices_ContainsFunc_Desc [slD ns, .fn f [] []] (lb (ns.any p)) [] := by
  refine slices_ContainsFunc_Desc_callX (pins := []) (by kernel_rfl) rfl rfl rfl rfl ?_
  simp (disch := omega) [go_sem, slices_ContainsFunc_Desc_c]
  refine clx_pure (index153 hf ns hp hlen) rfl rfl rfl rfl ?_
  simp (disch := omega) [go_sem, idxP_any]
theorem descs127 (p : Pl) (h1 : p.views.length < 2 ^ 20) (h2 : p.weights.length < 2 ^ 20) : ACalls pg G F_plan_descs [.agg (eP p)] (.own 2 (descsP p).length (fm eD (descsP p))) := by
  refine plan_descs_call rfl ?_
  obtain ⟨ds, hds⟩ : ∃ ds, ds = descsP p := ⟨_, rfl⟩
  rw [← hds]
  simp (disch := omega) [go_sem, plan_descs_c, eP]
  refine aw_loop (Nat × List Ds) (fun q st => q.1 ≤ p.views.length ∧ q.2 ++ (p.views.drop q.1).map (fun v => (⟨v.shape, v.wide⟩ : Ds)) = p.views.map (fun v => (⟨v.shape, v.wide⟩ : Ds)) ∧ q.2.length = q.1 ∧ st.s 1 = .var (eP p) ∧ st.s 3 = .own 2 (q.2).length (fm eD q.2) ∧ st.s 7 = slV p.views ∧ st.s 8 = li p.views.length ∧ st.s 9 = li q.1) (fun q => p.views.length - q.1) (0, []) ⟨by simp, rfl, rfl, by simp (disch := omega) [go_sem, eP, fm]⟩ ?_
  rintro ⟨i, l⟩ st K ⟨hi, hm, hl, h⟩ hK
  simp only at hi hm hl h
  by_cases hlt : i < p.views.length
  · rw [List.drop_eq_getElem_cons hlt, List.map_cons, List.append_cons] at hm
    simp (disch := omega) [go_sem, plan_descs_l0, h, hlt]
    exact hK (i + 1, l ++ [⟨p.views[i].shape, p.views[i].wide⟩]) _ ⟨by simp only; omega, hm, by simp [hl], by simp (disch := omega) [go_sem, h, fm_app, fmD_one]⟩ (by simp only; omega)
  · obtain rfl : i = p.views.length := by omega
    rw [List.drop_length, List.map_nil, List.append_nil] at hm
    have e : ds = l ++ p.weights := by rw [hds, hm]; rfl
    rw [e]
    simp (disch := omega) [go_sem, plan_descs_l0, h, eP, fm_app]
end
end Go.Ideal.Tryd
end

section
set_option linter.unusedVariables false
set_option linter.unusedSimpArgs false
set_option maxRecDepth 10000
namespace Go.Ideal.Tryd
section
variable {G : Nat → Option Value} {bk : Nat → Nat × Nat} {Q : Exit → St → Prop} {st : St}
theorem pfair_l0 {p : Pl} (h1 : p.views.length ≤ 128) (h : st.s 1 = .var (eP p) ∧ st.s 3 = .own 2 (descsP p).length (fm eD (descsP p)) ∧ st.s 4 = owI [p.size, p.input, p.output] ∧ st.s 53 = slV p.views ∧ st.s 54 = li p.views.length ∧ st.s 55 = li 0)
    (hex : ∀ s, s.s 1 = .var (eP p) ∧ s.s 3 = .own 2 (descsP p).length (fm eD (descsP p)) ∧ s.s 4 = owI (numsP p) → Q (.exit 0) s) : AW pg G 97 (.loop plan_fair_l0) Q st := by
  refine aw_loop (Nat × List Int) (fun q st => q.1 ≤ p.views.length ∧ q.2 ++ (p.views.drop q.1).map (·.off) = numsP p ∧ q.2.length = q.1 + 3 ∧ st.s 1 = .var (eP p) ∧ st.s 3 = .own 2 (descsP p).length (fm eD (descsP p)) ∧ st.s 4 = owI q.2 ∧ st.s 53 = slV p.views ∧ st.s 54 = li p.views.length ∧ st.s 55 = li q.1) (fun q => p.views.length - q.1) (0, [p.size, p.input, p.output]) ⟨by simp, rfl, rfl, h⟩ ?_
  clear h
  rintro ⟨i, l⟩ st K ⟨hi, hm, hl, h⟩ hK
  simp only at hi hm hl h
  by_cases hlt : i < p.views.length
  · rw [List.drop_eq_getElem_cons hlt, List.map_cons, List.append_cons] at hm
    simp (disch := omega) [go_sem, plan_fair_l0, h, hlt, eP]
    exact hK (i + 1, l ++ [p.views[i].off]) _ ⟨by simp only; omega, hm, by simp [hl], by simp (disch := omega) [go_sem, h, eP]⟩ (by simp only; omega)
  · obtain rfl : i = p.views.length := by omega
    rw [List.drop_length, List.map_nil, List.append_nil] at hm
    simp (disch := omega) [go_sem, plan_fair_l0, h]
    exact hex _ (by simp (disch := omega) [go_sem, h, ← hm])
theorem pfair_l1 (hS : Sent G bk) {p : Pl} {ds : List Ds} {ns : List Int} {ep : Nat} (hn : ds.length < 2 ^ 40) (hd : ∀ d ∈ ds, d.shape.length < 2 ^ 62) (hep : st.ep 3 = ep) (h : st.s 1 = .var (eP p) ∧ st.s 3 = .own 2 ds.length (fm eD ds) ∧ st.s 4 = owI ns ∧ st.s 65 = .bor 3 [] 0 ds.length ep ∧ st.s 66 = li ds.length ∧ st.s 67 = li 0)
    (hex : ds.any oddD = false → ∀ s, s.s 1 = .var (eP p) ∧ s.s 4 = owI ns → Q (.exit 2) s) (hret : ds.any oddD = true → ∀ s, s.s 2 = sv bk 3 → Q .ret s) : AW pg G 97 (.loop plan_fair_l1) Q st := by
  have h3 := hS.val 3 (by decide)
  refine aw_loop Nat (fun i st => i ≤ ds.length ∧ (ds.drop i).any oddD = ds.any oddD ∧ st.ep 3 = ep ∧ st.s 1 = .var (eP p) ∧ st.s 3 = .own 2 ds.length (fm eD ds) ∧ st.s 4 = owI ns ∧ st.s 65 = .bor 3 [] 0 ds.length ep ∧ st.s 66 = li ds.length ∧ st.s 67 = li i) (fun i => ds.length - i) 0 ⟨by simp, rfl, hep, h⟩ ?_
  clear h hep
  rintro i st K ⟨hi, hm, hep, h⟩ hK
  by_cases hlt : i < ds.length
  · rw [List.drop_eq_getElem_cons hlt, List.any_cons] at hm
    have c1 := contains105 (G := G) (f := 130) plan_fair_2_fnB (p := oddI) ds[i].shape (fun x _ => (pf130 x).toX (by simp [noRef])) (hd _ (List.getElem_mem hlt))
    have e : ds[i].shape.any oddI = oddD ds[i] := rfl
    rw [e] at c1
    simp (disch := omega) [go_sem, plan_fair_l1, h, hep, hlt]
    refine clx_pure c1 rfl rfl rfl rfl ?_
    cases ho : oddD ds[i] with
    | true =>
      rw [ho, Bool.true_or] at hm
      simp (disch := omega) [go_sem, h, hep, h3]
      exact hret hm.symm _ (by simp (disch := omega) [go_sem])
    | false =>
      rw [ho, Bool.false_or] at hm
      simp (disch := omega) [go_sem, h, hep]
      exact hK (i + 1) _ ⟨by omega, hm, by simp (disch := omega) [go_sem, h, hep], by simp (disch := omega) [go_sem, h, hep]⟩ (by omega)
  · obtain rfl : i = ds.length := by omega
    rw [List.drop_length] at hm
    simp (disch := omega) [go_sem, plan_fair_l1, h, hep]
    exact hex hm.symm _ (by simp (disch := omega) [go_sem, h, hep])
theorem pfair_l2 (hS : Sent G bk) {p : Pl} (hn : p.consts.length < 2 ^ 62) (hf : ∀ x ∈ p.consts, x.shape.length < 2 ^ 62 ∧ x.data.length < 2 ^ 62) (h : st.s 1 = .var (eP p) ∧ st.s 85 = slT p.consts ∧ st.s 86 = li p.consts.length ∧ st.s 87 = li 0)
    (hex : tErr p.consts = .nil → ∀ s, Q (.exit 4) s) (hret : tErr p.consts ≠ .nil → ∀ s, s.s 2 = encE bk (tErr p.consts) → Q .ret s) : AW pg G 97 (.loop plan_fair_l2) Q st := by
  refine aw_loop Nat (fun i st => i ≤ p.consts.length ∧ tErr (p.consts.drop i) = tErr p.consts ∧ st.s 1 = .var (eP p) ∧ st.s 85 = slT p.consts ∧ st.s 86 = li p.consts.length ∧ st.s 87 = li i) (fun i => p.consts.length - i) 0 ⟨by simp, rfl, h⟩ ?_
  clear h
  rintro i st K ⟨hi, hm, h⟩ hK
  by_cases hlt : i < p.consts.length
  · rw [List.drop_eq_getElem_cons hlt, tErr] at hm
    have hfi := hf _ (List.getElem_mem hlt)
    have c1 := tvalid108 (G := G) hS p.consts[i].shape p.consts[i].wide p.consts[i].data hfi.1 hfi.2
    simp (disch := omega) [go_sem, plan_fair_l2, h, hlt]
    rcases tvErr_cases p.consts[i].shape p.consts[i].wide p.consts[i].data with e | ⟨g, hg, e⟩ | ⟨q, g, hg, e⟩ <;> rw [e] at c1 hm <;> simp only [encE] at c1
    · refine cal_pure c1 rfl rfl ?_
      simp (disch := omega) [go_sem, h]
      exact hK (i + 1) _ ⟨by omega, hm, by simp (disch := omega) [go_sem, h]⟩ (by omega)
    · refine cal_pure c1 rfl rfl ?_
      simp (disch := omega) [go_sem, h]
      exact hret (by rw [← hm]; simp) _ (by simp (disch := omega) [go_sem, ← hm, encE])
    · refine cal_imm c1 rfl rfl ?_
      simp (disch := omega) [go_sem, h]
      exact hret (by rw [← hm]; simp) _ (by simp (disch := omega) [go_sem, ← hm, encE])
  · obtain rfl : i = p.consts.length := by omega
    rw [List.drop_length] at hm
    simp (disch := omega) [go_sem, plan_fair_l2, h]
    exact hex hm.symm _
end
end Go.Ideal.Tryd
end

section
set_option linter.unusedVariables false
set_option linter.unusedSimpArgs false
set_option maxRecDepth 10000
namespace Go.Ideal.Tryd
section
variable {G : Nat → Option Value} {bk : Nat → Nat × Nat} {Q : Exit → St → Prop} {st : St}
theorem pfair94 (hS : Sent G bk) (p : Pl) (hp : p.fin) (hsh : ∀ x ∈ p.code, x.ins.length < 2 ^ 37 ∧ x.args.length < 2 ^ 37) : ACalls pg G F_plan_fair [.agg (eP p)] (encE bk (pErr p)) := by
  refine plan_fair_call rfl ?_
  have h2 := hS.val 2 (by decide)
  have h3 := hS.val 3 (by decide)
  have f1 := hp.vl
  have f2 := hp.cl
  have f3 := hp.wl
  have f4 := hp.il
  have c1 := contains125 (G := G) (f := 126) plan_many_fnB (p := manyI) p.code (fun x hx => (pmany126 x (hsh x hx).1 (hsh x hx).2).toX (by simp [noRef])) f4
  have c2 := contains125 (G := G) (f := 132) plan_fair_4_fnB (p := fun v => !toldI v) p.code (fun x hx => (pf132 x (hsh x hx).1 (hsh x hx).2).toX (by simp [noRef])) f4
  have hds : ∀ d ∈ descsP p, d.shape.length < 2 ^ 62 := by
    intro d hd
    rcases List.mem_append.1 hd with hd | hd
    · obtain ⟨v, hv, rfl⟩ := List.mem_map.1 hd
      exact hp.vs v hv
    · exact hp.ws d hd
  have e1 : manyP p = false → (descsP p).any longD = true → pErr p = .s 2 := fun a b => by simp only [pErr, a, b, if_true, Bool.false_eq_true, if_false]
  have e2 : manyP p = false → (descsP p).any longD = false → (descsP p).any oddD = true → pErr p = .s 3 := fun a b c => by simp only [pErr, a, b, c, if_true, Bool.false_eq_true, if_false]
  have e3 : manyP p = false → (descsP p).any longD = false → (descsP p).any oddD = false → ((numsP p).any offI || p.code.any (fun v => !toldI v)) = true → pErr p = .s 3 := fun a b c d => by simp only [pErr, a, b, c, d, if_true, Bool.false_eq_true, if_false]
  have e4 : manyP p = false → (descsP p).any longD = false → (descsP p).any oddD = false → ((numsP p).any offI || p.code.any (fun v => !toldI v)) = false → pErr p = tErr p.consts := fun a b c d => by simp only [pErr, a, b, c, d, Bool.false_eq_true, if_false]
  by_cases k1 : 128 < p.views.length
  · have hM : manyP p = true := by simp [manyP, k1]
    have k1' : (128 : Int) < p.views.length := by omega
    simp (disch := omega) [go_sem, plan_fair_c, eP, k1', h2, pErr, hM, encE]
  have k1' : ¬ (128 : Int) < p.views.length := by omega
  by_cases k2 : 64 < p.consts.length
  · have hM : manyP p = true := by simp [manyP, k2]
    have k2' : (64 : Int) < p.consts.length := by omega
    simp (disch := omega) [go_sem, plan_fair_c, eP, k1', k2', h2, pErr, hM, encE]
  have k2' : ¬ (64 : Int) < p.consts.length := by omega
  by_cases k3 : 8 < p.weights.length
  · have hM : manyP p = true := by simp [manyP, k3]
    have k3' : (8 : Int) < p.weights.length := by omega
    simp (disch := omega) [go_sem, plan_fair_c, eP, k1', k2', k3', h2, pErr, hM, encE]
  have k3' : ¬ (8 : Int) < p.weights.length := by omega
  by_cases k4 : 2048 < p.code.length
  · have hM : manyP p = true := by simp [manyP, k4]
    have k4' : (2048 : Int) < p.code.length := by omega
    simp (disch := omega) [go_sem, plan_fair_c, eP, k1', k2', k3', k4', h2, pErr, hM, encE]
  have k4' : ¬ (2048 : Int) < p.code.length := by omega
  have hdl : (descsP p).length < 2 ^ 20 := by simp [descsP]; omega
  have c3 := contains128 (G := G) (f := 129) plan_fair_1_fnB (p := longD) (descsP p) (fun x hx => (pf129 x (hds x hx)).toX (by simp [noRef])) (by omega)
  have cd := descs127 (G := G) p (by omega) (by omega)
  have hnl : (numsP p).length < 2 ^ 20 := by simp [numsP]; omega
  have c4 := contains105 (G := G) (f := 131) plan_fair_3_fnB (p := offI) (numsP p) (fun x _ => (pf131 x).toX (by simp [noRef])) (by omega)
  have l0 := fun (Q : Exit → St → Prop) (st : St) => pfair_l0 (G := G) (Q := Q) (st := st) (p := p) (by omega)
  simp (disch := omega) [go_sem, plan_fair_c, eP, k1', k2', k3', k4']
  refine clx_pure c1 rfl rfl rfl rfl ?_
  cases hm : p.code.any manyI with
  | true =>
    have hM : manyP p = true := by simp only [manyP, hm]; simp
    simp (disch := omega) [go_sem, h2, pErr, hM, encE]
  | false =>
  have hM : manyP p = false := by simp only [manyP, hm]; simp [k1, k2, k3, k4]
  generalize pErr p = r at *
  generalize descsP p = ds at *
  generalize numsP p = ns at *
  simp (disch := omega) [go_sem]
  refine cal_same cd rfl (by simp (disch := omega) [go_sem]) ?_
  simp (disch := omega) [go_sem]
  refine clx_pure c3 rfl rfl rfl rfl ?_
  cases hl : ds.any longD with
  | true =>
    rw [e1 hM hl]
    simp (disch := omega) [go_sem, h2, encE]
  | false =>
  simp (disch := omega) [go_sem]
  refine l0 _ _ (by simp (disch := omega) [go_sem, eP]) fun s h => ?_
  simp (disch := omega) [go_sem, h]
  refine pfair_l1 (p := p) (ds := ds) (ns := ns) hS (by omega) hds rfl (by simp (disch := omega) [go_sem, h]) (fun ho s h => ?_) (fun ho s h => ?_)
  · simp (disch := omega) [go_sem, h]
    refine clx_pure c4 rfl rfl rfl rfl ?_
    cases hn : ns.any offI with
    | true =>
      rw [e3 hM hl ho (by rw [hn]; rfl)]
      simp (disch := omega) [go_sem, h, h3, encE, eP]
    | false =>
      simp (disch := omega) [go_sem, h, eP]
      refine clx_pure c2 rfl rfl rfl rfl ?_
      cases hc : p.code.any (fun v => !toldI v) with
      | true =>
        rw [e3 hM hl ho (by rw [hn, hc]; rfl)]
        simp (disch := omega) [go_sem, h, h3, encE, eP]
      | false =>
        rw [e4 hM hl ho (by rw [hn, hc]; rfl)]
        simp (disch := omega) [go_sem, h, eP]
        refine pfair_l2 (p := p) hS f2 hp.cs (by simp (disch := omega) [go_sem, h, eP]) (fun hc s => ?_) (fun hc s h => ?_)
        · rw [hc]
          simp (disch := omega) [go_sem, encE]
        · simp (disch := omega) [go_sem, h]
  · rw [e2 hM hl ho]
    simp (disch := omega) [go_sem, h, encE]
end
end Go.Ideal.Tryd
end

section
set_option linter.unusedVariables false
set_option linter.unusedSimpArgs false
namespace Go.Ideal.Tryd
theorem tErr_iff : ∀ {ts : List Tn}, tErr ts = .nil ↔ ∀ t ∈ ts, tvErr t.shape t.wide t.data = .nil
  | [] => by simp [tErr]
  | t :: ts => by
    unfold tErr
    simp only [List.mem_cons, forall_eq_or_imp]
    rw [← tErr_iff (ts := ts)]
    rcases tvErr_cases t.shape t.wide t.data with e | ⟨g, hg, e⟩ | ⟨q, g, hg, e⟩ <;> rw [e] <;> simp
theorem fits32_iff (x : Int) : fits32 x = true ↔ r32 x := by simp [fits32, r32]
theorem offI_iff (x : Int) : offI x = false ↔ r32 x := by simp [offI, r32]
theorem inOk_iff (v : In) : inOk v ↔ manyI v = false ∧ toldI v = true := by
  unfold inOk manyI toldI
  simp only [Bool.or_eq_false_iff, decide_eq_false_iff_not, Bool.and_eq_true, List.all_eq_true, decide_eq_true_eq, List.mem_append, List.mem_cons, List.not_mem_nil, or_false, fits32_iff]
  constructor
  · rintro ⟨a, b, ⟨c1, c2⟩, ⟨d1, d2⟩, e, f⟩
    refine ⟨⟨by omega, by omega⟩, ?_, a.1, a.2⟩
    rintro x ((rfl | rfl | rfl) | (hx | hx))
    · exact b
    · exact e
    · exact f
    · exact c2 x hx
    · exact d2 x hx
  · rintro ⟨⟨a, b⟩, c, d, e⟩
    exact ⟨⟨d, e⟩, c _ (.inl (.inl rfl)), ⟨by omega, fun x hx => c x (.inr (.inl hx))⟩, ⟨by omega, fun x hx => c x (.inr (.inr hx))⟩, c _ (.inl (.inr (.inl rfl))), c _ (.inl (.inr (.inr rfl)))⟩
theorem dsOk_iff (d : Ds) : dsOk d ↔ longD d = false ∧ oddD d = false := by
  unfold dsOk longD oddD oddI
  simp [List.any_eq_false]
theorem pErr_iff (p : Pl) : pErr p = .nil ↔ plOk p := by
  have hM : manyP p = false ↔ p.views.length ≤ 128 ∧ p.consts.length ≤ 64 ∧ p.weights.length ≤ 8 ∧ p.code.length ≤ 2048 ∧ ∀ v ∈ p.code, manyI v = false := by
    simp only [manyP, Bool.or_eq_false_iff, decide_eq_false_iff_not, List.any_eq_false, Bool.not_eq_true]
    constructor
    · rintro ⟨a, b, c, d, e⟩; exact ⟨by omega, by omega, by omega, by omega, e⟩
    · rintro ⟨a, b, c, d, e⟩; exact ⟨by omega, by omega, by omega, by omega, e⟩
  have hD : ((descsP p).any longD = false ∧ (descsP p).any oddD = false) ↔ (∀ v ∈ p.views, dsOk ⟨v.shape, v.wide⟩) ∧ ∀ d ∈ p.weights, dsOk d := by
    simp only [List.any_eq_false, Bool.not_eq_true, descsP, List.mem_append, List.mem_map, dsOk_iff]
    constructor
    · rintro ⟨a, b⟩
      exact ⟨fun v hv => ⟨a _ (.inl ⟨v, hv, rfl⟩), b _ (.inl ⟨v, hv, rfl⟩)⟩, fun d hd => ⟨a d (.inr hd), b d (.inr hd)⟩⟩
    · rintro ⟨a, b⟩
      refine ⟨fun d hd => ?_, fun d hd => ?_⟩
      · rcases hd with ⟨v, hv, rfl⟩ | hd
        · exact (a v hv).1
        · exact (b d hd).1
      · rcases hd with ⟨v, hv, rfl⟩ | hd
        · exact (a v hv).2
        · exact (b d hd).2
  have hN : ((numsP p).any offI || p.code.any (fun v => !toldI v)) = false ↔ (r32 p.size ∧ r32 p.input ∧ r32 p.output ∧ ∀ v ∈ p.views, r32 v.off) ∧ ∀ v ∈ p.code, toldI v = true := by
    simp only [Bool.or_eq_false_iff, List.any_eq_false, Bool.not_eq_true, numsP, List.mem_append, List.mem_cons, List.not_mem_nil, or_false, List.mem_map, offI_iff, Bool.not_eq_false']
    constructor
    · rintro ⟨a, b⟩
      exact ⟨⟨a _ (.inl (.inl rfl)), a _ (.inl (.inr (.inl rfl))), a _ (.inl (.inr (.inr rfl))), fun v hv => a _ (.inr ⟨v, hv, rfl⟩)⟩, b⟩
    · rintro ⟨⟨a1, a2, a3, a4⟩, b⟩
      refine ⟨?_, b⟩
      rintro x ((rfl | rfl | rfl) | ⟨v, hv, rfl⟩)
      · exact a1
      · exact a2
      · exact a3
      · exact a4 v hv
  have hall : pErr p = .nil ↔ manyP p = false ∧ ((descsP p).any longD = false ∧ (descsP p).any oddD = false) ∧ ((numsP p).any offI || p.code.any (fun v => !toldI v)) = false ∧ tErr p.consts = .nil := by
    unfold pErr
    cases manyP p <;> cases (descsP p).any longD <;> cases (descsP p).any oddD <;> cases ((numsP p).any offI || p.code.any (fun v => !toldI v)) <;> simp
  rw [hall, hM, hD, hN, tErr_iff]
  unfold plOk
  constructor
  · rintro ⟨⟨a1, a2, a3, a4, a5⟩, ⟨b1, b2⟩, ⟨⟨c1, c2, c3, c4⟩, c5⟩, d⟩
    exact ⟨c1, ⟨a1, fun v hv => ⟨c4 v hv, b1 v hv⟩⟩, ⟨a2, d⟩, ⟨a3, b2⟩, ⟨a4, fun i hi => (inOk_iff i).2 ⟨a5 i hi, c5 i hi⟩⟩, c2, c3⟩
  · rintro ⟨c1, ⟨a1, bv⟩, ⟨a2, d⟩, ⟨a3, b2⟩, ⟨a4, bi⟩, c2, c3⟩
    exact ⟨⟨a1, a2, a3, a4, fun v hv => ((inOk_iff v).1 (bi v hv)).1⟩, ⟨fun v hv => (bv v hv).2, b2⟩, ⟨⟨c1, c2, c3, fun v hv => (bv v hv).1⟩, fun v hv => ((inOk_iff v).1 (bi v hv)).2⟩, d⟩
/-- A plan's bytes. -/
def pBytes (p : Pl) : List Int := ((76 : UInt8).toNat : Int) :: ((80 : UInt8).toNat : Int) :: pEnc p
theorem preadBack {p : Pl} (h : pErr p = .nil) : rPlan (pBytes p) = (p, .nil) := by
  obtain ⟨h1, h2⟩ := wholeP.back p ((pErr_iff p).1 h)
  unfold rPlan pBytes
  rw [h1, h2]
  rfl
end Go.Ideal.Tryd
end
