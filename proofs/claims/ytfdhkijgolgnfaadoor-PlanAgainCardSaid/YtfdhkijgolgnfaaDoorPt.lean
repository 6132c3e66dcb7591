/- Part Pt of the proof: a machine with trees for values, its soundness, and walks on it. -/
import Derived.Test.YtfdhkijgolgnfaaDoorPs
section
set_option linter.unusedVariables false
set_option linter.unusedSimpArgs false
set_option maxRecDepth 10000
namespace Go.Ideal.Tryd
def b5q (x : Int) : Bool := decide (-2147483648 ≤ x ∧ x ≤ 2147483647)
def b4r (v : In) : Bool := ([v.dst, v.frm, v.to] ++ (v.ins ++ v.args)).all b5q && (decide (0 ≤ v.op) && decide (v.op ≤ 255))
section
variable {G : Nat → Option Value} {bk : Nat → Nat × Nat} {Q : Exit → St → Prop} {st : St}
theorem e0u {v : In} {ys : List Int} (hn : ys.length < 2 ^ 40) (h : st.s 1 = .var (eI v) ∧ st.s 17 = owI ys ∧ st.s 18 = li ys.length ∧ st.s 19 = li 0)
    (hex : ys.all b5q = true → ∀ s, s.s 1 = .var (eI v) → Q (.exit 0) s) (hret : ys.all b5q = false → ∀ s, s.s 2 = lb false → Q .ret s) : AW pg G 35 (.loop a52) Q st := by
  refine a02 Nat (fun i st => i ≤ ys.length ∧ (ys.drop i).all b5q = ys.all b5q ∧ st.s 1 = .var (eI v) ∧ st.s 17 = owI ys ∧ st.s 18 = li ys.length ∧ st.s 19 = li i) (fun i => ys.length - i) 0 ⟨by simp, rfl, h⟩ ?_
  clear h
  rintro i st K ⟨hi, hm, h⟩ hK
  by_cases hlt : i < ys.length
  · rw [List.drop_eq_getElem_cons hlt, List.all_cons] at hm
    simp (disch := omega) [go_sem, a52, h, hlt]
    refine a0w (d4n ys[i]) rfl rfl ?_
    cases hf : b5q ys[i] with
    | true =>
      rw [hf, Bool.true_and] at hm
      have hf' : decide (-2147483648 ≤ ys[i] ∧ ys[i] ≤ 2147483647) = true := hf
      rw [hf']
      simp (disch := omega) [go_sem, h]
      exact hK (i + 1) _ ⟨by omega, hm, by simp (disch := omega) [go_sem, h]⟩ (by omega)
    | false =>
      rw [hf, Bool.false_and] at hm
      have hf' : decide (-2147483648 ≤ ys[i] ∧ ys[i] ≤ 2147483647) = false := hf
      rw [hf']
      simp (disch := omega) [go_sem, h]
      exact hret hm.symm _ (by simp (disch := omega) [go_sem, h])
  · obtain rfl : i = ys.length := by omega
    rw [List.drop_length] at hm
    simp (disch := omega) [go_sem, a52, h]
    exact hex hm.symm _ (by simp (disch := omega) [go_sem, h])
theorem e0n (v : In) (h1 : v.ins.length < 2 ^ 37) (h2 : v.args.length < 2 ^ 37) : ACalls pg G c9d [.agg (eI v)] (lb (b4r v)) := by
  refine c0g rfl ?_
  have hc := d5a (G := G) [[v.dst, v.frm, v.to], v.ins, v.args] (by simp) (by simp [a3w]; omega)
  simp only [List.flatten_cons, List.flatten_nil, List.append_nil] at hc
  unfold b4r
  generalize hys : [v.dst, v.frm, v.to] ++ (v.ins ++ v.args) = ys at *
  have hyl : ys.length < 2 ^ 40 := by rw [← hys]; simp; omega
  clear hys
  simp (disch := omega) [go_sem, b8j, eI]
  refine a0w hc rfl (c6f _) ?_
  simp (disch := omega) [go_sem]
  refine e0u (v := v) (ys := ys) hyl (by simp (disch := omega) [go_sem, eI]) (fun ha s h => ?_) fun ha s h => ?_
  · rw [ha]
    by_cases k1 : 0 ≤ v.op
    · by_cases k2 : v.op ≤ 255 <;> simp (disch := omega) [go_sem, h, eI, k1, k2]
    · simp (disch := omega) [go_sem, h, eI, k1]
  · rw [ha]
    simp (disch := omega) [go_sem, h]
theorem d73 (v : In) (h1 : v.ins.length < 2 ^ 37) (h2 : v.args.length < 2 ^ 37) : ACalls pg G c99 [.agg (eI v)] (lb (decide (8 < v.ins.length) || decide (8 < v.args.length))) := by
  refine c02 rfl ?_
  by_cases k1 : 8 < v.ins.length
  · have k1' : (8 : Int) < v.ins.length := by omega
    simp (disch := omega) [go_sem, a73, eI, k1, k1']
  · have k1' : ¬ (8 : Int) < v.ins.length := by omega
    by_cases k2 : 8 < v.args.length
    · have k2' : (8 : Int) < v.args.length := by omega
      simp (disch := omega) [go_sem, a73, eI, k1, k1', k2, k2']
    · have k2' : ¬ (8 : Int) < v.args.length := by omega
      simp (disch := omega) [go_sem, a73, eI, k1, k1', k2, k2']
theorem f8s (v : In) (h1 : v.ins.length < 2 ^ 37) (h2 : v.args.length < 2 ^ 37) : ACalls pg G 132 [.agg (eI v)] (lb (!b4r v)) := by
  refine b6k rfl ?_
  simp (disch := omega) [go_sem, b4d, eI]
  refine a0w (e0n v h1 h2) rfl rfl ?_
  simp (disch := omega) [go_sem]
theorem g0c (d : Ds) (h : d.shape.length < 2 ^ 62) : ACalls pg G 129 [.agg (eD d)] (lb (decide (7 < d.shape.length))) := by
  refine b6b rfl ?_
  by_cases k1 : 7 < d.shape.length
  · have k1' : (7 : Int) < d.shape.length := by omega
    simp (disch := omega) [go_sem, a7w, eD, k1, k1']
  · have k1' : ¬ (7 : Int) < d.shape.length := by omega
    simp (disch := omega) [go_sem, a7w, eD, k1, k1']
theorem f7a (k : Int) : ACalls pg G 130 [li k] (lb (d8l k)) := by
  refine b6j rfl ?_
  by_cases k1 : k < 0
  · have : ¬ (0 ≤ k ∧ k ≤ 65535) := by omega
    simp (disch := omega) [go_sem, a45, k1, d8l, this]
  · by_cases k2 : 65535 < k
    · have : ¬ (0 ≤ k ∧ k ≤ 65535) := by omega
      simp (disch := omega) [go_sem, a45, k1, k2, d8l, this]
    · have : 0 ≤ k ∧ k ≤ 65535 := by omega
      simp (disch := omega) [go_sem, a45, k1, k2, d8l, this]
theorem g0w (k : Int) : ACalls pg G 131 [li k] (lb (d3i k)) := by
  refine b6g rfl ?_
  simp (disch := omega) [go_sem, b4u]
  refine a0w (d4n k) rfl rfl ?_
  simp (disch := omega) [go_sem, d3i]
end
end Go.Ideal.Tryd
end
section
set_option linter.unusedVariables false
set_option linter.unusedSimpArgs false
set_option maxRecDepth 10000
namespace Go.Ideal.Tryd
def d18 (v : In) : Bool := decide (8 < v.ins.length) || decide (8 < v.args.length)
def a6h (p : Pl) : Bool := decide (128 < p.views.length) || (decide (64 < p.consts.length) || (decide (8 < p.weights.length) || (decide (2048 < p.code.length) || p.code.any d18)))
def a1o (p : Pl) : List Ds := p.views.map (fun v => ⟨v.shape, v.wide⟩) ++ p.weights
def b57 (d : Ds) : Bool := decide (7 < d.shape.length)
def c9k (d : Ds) : Bool := d.shape.any d8l
def b5b (p : Pl) : List Int := [p.size, p.input, p.output] ++ p.views.map (·.off)
def d3c : List Tn → Er
  | [] => .nil
  | t :: ts => match a4o t.shape t.wide t.data with
    | .nil => d3c ts
    | e => e
def c1l (p : Pl) : Er := if a6h p = true then .s 2 else if (a1o p).any b57 = true then .s 2 else if (a1o p).any c9k = true then .s 3 else if ((b5b p).any d3i || p.code.any (fun v => !b4r v)) = true then .s 3 else d3c p.consts
section
variable {G : Nat → Option Value} {bk : Nat → Nat × Nat} {Q : Exit → St → Prop} {st : St}
theorem d66 {f : FuncId} (hf : fnB pg f = true) {p : In → Bool} (ns : List In) (hp : ∀ x ∈ ns, ACallsX pg G f [.agg (eI x)] (lb (p x)) []) (hlen : ns.length < 2 ^ 62) : ACallsX pg G a7p [slJ ns, .fn f [] []] (li (c5o p ns 0)) [] := by
  refine a43 (pins := []) (by kernel_rfl) rfl rfl rfl rfl ?_
  simp (disch := omega) [go_sem, a3i]
  refine a02 Nat (fun i st => i ≤ ns.length ∧ c5o p (ns.drop i) i = c5o p ns 0 ∧ st.s 0 = slJ ns ∧ st.s 1 = .fn f [] [] ∧ st.s 7 = li ns.length ∧ st.s 8 = li i) (fun i => ns.length - i) 0 ⟨by simp, rfl, by simp (disch := omega) [go_sem]⟩ ?_
  rintro i st K ⟨hi, hno, h⟩ hK
  by_cases hlt : i < ns.length
  · rw [b8a hlt] at hno
    simp (disch := omega) [go_sem, a1t, h, hlt, hf]
    refine a0s (hp _ (List.getElem_mem hlt)) rfl rfl rfl rfl ?_
    by_cases hv : p ns[i] = true
    · rw [if_pos hv] at hno
      simp (disch := omega) [go_sem, h, hlt, hv, ← hno]
    · rw [if_neg hv] at hno
      have hv' : p ns[i] = false := by simpa using hv
      simp (disch := omega) [go_sem, h, hlt, hv']
      exact hK (i + 1) _ ⟨by omega, hno, by simp (disch := omega) [go_sem, h]⟩ (by omega)
  · rw [List.drop_eq_nil_of_le (by omega)] at hno
    simp (disch := omega) [go_sem, a1t, h, hlt, ← hno, c5o]
theorem b7d {f : FuncId} (hf : fnB pg f = true) {p : In → Bool} (ns : List In) (hp : ∀ x ∈ ns, ACallsX pg G f [.agg (eI x)] (lb (p x)) []) (hlen : ns.length < 2 ^ 62) : ACallsX pg G a5j [slJ ns, .fn f [] []] (lb (ns.any p)) [] := by
  refine a3z (pins := []) (by kernel_rfl) rfl rfl rfl rfl ?_
  simp (disch := omega) [go_sem, a2o]
  refine a0s (d66 hf ns hp hlen) rfl rfl rfl rfl ?_
  simp (disch := omega) [go_sem, b6p]
theorem d6a {f : FuncId} (hf : fnB pg f = true) {p : Ds → Bool} (ns : List Ds) (hp : ∀ x ∈ ns, ACallsX pg G f [.agg (eD x)] (lb (p x)) []) (hlen : ns.length < 2 ^ 62) : ACallsX pg G a8n [slD ns, .fn f [] []] (li (c5o p ns 0)) [] := by
  refine a5f (pins := []) (by kernel_rfl) rfl rfl rfl rfl ?_
  simp (disch := omega) [go_sem, a3m]
  refine a02 Nat (fun i st => i ≤ ns.length ∧ c5o p (ns.drop i) i = c5o p ns 0 ∧ st.s 0 = slD ns ∧ st.s 1 = .fn f [] [] ∧ st.s 7 = li ns.length ∧ st.s 8 = li i) (fun i => ns.length - i) 0 ⟨by simp, rfl, by simp (disch := omega) [go_sem]⟩ ?_
  rintro i st K ⟨hi, hno, h⟩ hK
  by_cases hlt : i < ns.length
  · rw [b8a hlt] at hno
    simp (disch := omega) [go_sem, a1x, h, hlt, hf]
    refine a0s (hp _ (List.getElem_mem hlt)) rfl rfl rfl rfl ?_
    by_cases hv : p ns[i] = true
    · rw [if_pos hv] at hno
      simp (disch := omega) [go_sem, h, hlt, hv, ← hno]
    · rw [if_neg hv] at hno
      have hv' : p ns[i] = false := by simpa using hv
      simp (disch := omega) [go_sem, h, hlt, hv']
      exact hK (i + 1) _ ⟨by omega, hno, by simp (disch := omega) [go_sem, h]⟩ (by omega)
  · rw [List.drop_eq_nil_of_le (by omega)] at hno
    simp (disch := omega) [go_sem, a1x, h, hlt, ← hno, c5o]
theorem c92 {f : FuncId} (hf : fnB pg f = true) {p : Ds → Bool} (ns : List Ds) (hp : ∀ x ∈ ns, ACallsX pg G f [.agg (eD x)] (lb (p x)) []) (hlen : ns.length < 2 ^ 62) : ACallsX pg G a5w [slD ns, .fn f [] []] (lb (ns.any p)) [] := by
  refine a4k (pins := []) (by kernel_rfl) rfl rfl rfl rfl ?_
  simp (disch := omega) [go_sem, a24]
  refine a0s (d6a hf ns hp hlen) rfl rfl rfl rfl ?_
  simp (disch := omega) [go_sem, b6p]
theorem d59 (p : Pl) (h1 : p.views.length < 2 ^ 20) (h2 : p.weights.length < 2 ^ 20) : ACalls pg G c52 [.agg (eP p)] (.own 2 (a1o p).length (fm eD (a1o p))) := by
  refine b8t rfl ?_
  obtain ⟨ds, hds⟩ : ∃ ds, ds = a1o p := ⟨_, rfl⟩
  rw [← hds]
  simp (disch := omega) [go_sem, b5w, eP]
  refine a02 (Nat × List Ds) (fun q st => q.1 ≤ p.views.length ∧ q.2 ++ (p.views.drop q.1).map (fun v => (⟨v.shape, v.wide⟩ : Ds)) = p.views.map (fun v => (⟨v.shape, v.wide⟩ : Ds)) ∧ q.2.length = q.1 ∧ st.s 1 = .var (eP p) ∧ st.s 3 = .own 2 (q.2).length (fm eD q.2) ∧ st.s 7 = slV p.views ∧ st.s 8 = li p.views.length ∧ st.s 9 = li q.1) (fun q => p.views.length - q.1) (0, []) ⟨by simp, rfl, rfl, by simp (disch := omega) [go_sem, eP, fm]⟩ ?_
  rintro ⟨i, l⟩ st K ⟨hi, hm, hl, h⟩ hK
  simp only at hi hm hl h
  by_cases hlt : i < p.views.length
  · rw [List.drop_eq_getElem_cons hlt, List.map_cons, List.append_cons] at hm
    simp (disch := omega) [go_sem, a8d, h, hlt]
    exact hK (i + 1, l ++ [⟨p.views[i].shape, p.views[i].wide⟩]) _ ⟨by simp only; omega, hm, by simp [hl], by simp (disch := omega) [go_sem, h, c1x, d4t]⟩ (by simp only; omega)
  · obtain rfl : i = p.views.length := by omega
    rw [List.drop_length, List.map_nil, List.append_nil] at hm
    have e : ds = l ++ p.weights := by rw [hds, hm]; rfl
    rw [e]
    simp (disch := omega) [go_sem, a8d, h, eP, c1x]
end
end Go.Ideal.Tryd
end
section
set_option linter.unusedVariables false
set_option linter.unusedSimpArgs false
set_option maxRecDepth 10000
namespace Go.Ideal.Tryd
section
variable {G : Nat → Option Value} {bk : Nat → Nat × Nat} {Q : Exit → St → Prop} {st : St}
theorem d7r {p : Pl} (h1 : p.views.length ≤ 128) (h : st.s 1 = .var (eP p) ∧ st.s 3 = .own 2 (a1o p).length (fm eD (a1o p)) ∧ st.s 4 = owI [p.size, p.input, p.output] ∧ st.s 53 = slV p.views ∧ st.s 54 = li p.views.length ∧ st.s 55 = li 0)
    (hex : ∀ s, s.s 1 = .var (eP p) ∧ s.s 3 = .own 2 (a1o p).length (fm eD (a1o p)) ∧ s.s 4 = owI (b5b p) → Q (.exit 0) s) : AW pg G 97 (.loop a53) Q st := by
  refine a02 (Nat × List Int) (fun q st => q.1 ≤ p.views.length ∧ q.2 ++ (p.views.drop q.1).map (·.off) = b5b p ∧ q.2.length = q.1 + 3 ∧ st.s 1 = .var (eP p) ∧ st.s 3 = .own 2 (a1o p).length (fm eD (a1o p)) ∧ st.s 4 = owI q.2 ∧ st.s 53 = slV p.views ∧ st.s 54 = li p.views.length ∧ st.s 55 = li q.1) (fun q => p.views.length - q.1) (0, [p.size, p.input, p.output]) ⟨by simp, rfl, rfl, h⟩ ?_
  clear h
  rintro ⟨i, l⟩ st K ⟨hi, hm, hl, h⟩ hK
  simp only at hi hm hl h
  by_cases hlt : i < p.views.length
  · rw [List.drop_eq_getElem_cons hlt, List.map_cons, List.append_cons] at hm
    simp (disch := omega) [go_sem, a53, h, hlt, eP]
    exact hK (i + 1, l ++ [p.views[i].off]) _ ⟨by simp only; omega, hm, by simp [hl], by simp (disch := omega) [go_sem, h, eP]⟩ (by simp only; omega)
  · obtain rfl : i = p.views.length := by omega
    rw [List.drop_length, List.map_nil, List.append_nil] at hm
    simp (disch := omega) [go_sem, a53, h]
    exact hex _ (by simp (disch := omega) [go_sem, h, ← hm])
theorem d62 (hS : Sent3 G bk) {p : Pl} {ds : List Ds} {ns : List Int} {ep : Nat} (hn : ds.length < 2 ^ 40) (hd : ∀ d ∈ ds, d.shape.length < 2 ^ 62) (hep : st.ep 3 = ep) (h : st.s 1 = .var (eP p) ∧ st.s 3 = .own 2 ds.length (fm eD ds) ∧ st.s 4 = owI ns ∧ st.s 65 = .bor 3 [] 0 ds.length ep ∧ st.s 66 = li ds.length ∧ st.s 67 = li 0)
    (hex : ds.any c9k = false → ∀ s, s.s 1 = .var (eP p) ∧ s.s 4 = owI ns → Q (.exit 2) s) (hret : ds.any c9k = true → ∀ s, s.s 2 = sv bk 3 → Q .ret s) : AW pg G 97 (.loop a59) Q st := by
  have h3 := hS.val 3 (by decide)
  refine a02 Nat (fun i st => i ≤ ds.length ∧ (ds.drop i).any c9k = ds.any c9k ∧ st.ep 3 = ep ∧ st.s 1 = .var (eP p) ∧ st.s 3 = .own 2 ds.length (fm eD ds) ∧ st.s 4 = owI ns ∧ st.s 65 = .bor 3 [] 0 ds.length ep ∧ st.s 66 = li ds.length ∧ st.s 67 = li i) (fun i => ds.length - i) 0 ⟨by simp, rfl, hep, h⟩ ?_
  clear h hep
  rintro i st K ⟨hi, hm, hep, h⟩ hK
  by_cases hlt : i < ds.length
  · rw [List.drop_eq_getElem_cons hlt, List.any_cons] at hm
    have c1 := b7e (G := G) (f := 130) b7p (p := d8l) ds[i].shape (fun x _ => (f7a x).toX (by simp [a0l])) (hd _ (List.getElem_mem hlt))
    have e : ds[i].shape.any d8l = c9k ds[i] := rfl
    rw [e] at c1
    simp (disch := omega) [go_sem, a59, h, hep, hlt]
    refine a0s c1 rfl rfl rfl rfl ?_
    cases ho : c9k ds[i] with
    | true =>
      rw [ho, Bool.true_or] at hm
      simp (disch := omega) [go_sem, h, hep, h3]
      exact hret hm.symm _ (by simp (disch := omega) [go_sem])
    | false =>
      rw [ho, Bool.false_or] at hm
      simp (disch := omega) [go_sem, h, hep]
      exact hK (i + 1) _ ⟨by omega, hm, by simp (disch := omega) [go_sem, h, hep], by simp (disch := omega) [go_sem, h, hep]⟩ (by omega)
  · obtain rfl : i = ds.length := by omega
    rw [List.drop_length] at hm
    simp (disch := omega) [go_sem, a59, h, hep]
    exact hex hm.symm _ (by simp (disch := omega) [go_sem, h, hep])
theorem d76 (hS : Sent3 G bk) {p : Pl} (hn : p.consts.length < 2 ^ 62) (hf : ∀ x ∈ p.consts, x.shape.length < 2 ^ 62 ∧ x.data.length < 2 ^ 62) (h : st.s 1 = .var (eP p) ∧ st.s 85 = slT p.consts ∧ st.s 86 = li p.consts.length ∧ st.s 87 = li 0)
    (hex : d3c p.consts = .nil → ∀ s, Q (.exit 4) s) (hret : d3c p.consts ≠ .nil → ∀ s, s.s 2 = a1p bk (d3c p.consts) → Q .ret s) : AW pg G 97 (.loop a57) Q st := by
  refine a02 Nat (fun i st => i ≤ p.consts.length ∧ d3c (p.consts.drop i) = d3c p.consts ∧ st.s 1 = .var (eP p) ∧ st.s 85 = slT p.consts ∧ st.s 86 = li p.consts.length ∧ st.s 87 = li i) (fun i => p.consts.length - i) 0 ⟨by simp, rfl, h⟩ ?_
  clear h
  rintro i st K ⟨hi, hm, h⟩ hK
  by_cases hlt : i < p.consts.length
  · rw [List.drop_eq_getElem_cons hlt, d3c] at hm
    have hfi := hf _ (List.getElem_mem hlt)
    have c1 := b7l (G := G) hS p.consts[i].shape p.consts[i].wide p.consts[i].data hfi.1 hfi.2
    simp (disch := omega) [go_sem, a57, h, hlt]
    rcases b8u p.consts[i].shape p.consts[i].wide p.consts[i].data with e | ⟨g, hg, e⟩ | ⟨q, g, hg, e⟩ <;> rw [e] at c1 hm <;> simp only [a1p] at c1
    · refine a0w c1 rfl rfl ?_
      simp (disch := omega) [go_sem, h]
      exact hK (i + 1) _ ⟨by omega, hm, by simp (disch := omega) [go_sem, h]⟩ (by omega)
    · refine a0w c1 rfl rfl ?_
      simp (disch := omega) [go_sem, h]
      exact hret (by rw [← hm]; simp) _ (by simp (disch := omega) [go_sem, ← hm, a1p])
    · refine d88 c1 rfl rfl ?_
      simp (disch := omega) [go_sem, h]
      exact hret (by rw [← hm]; simp) _ (by simp (disch := omega) [go_sem, ← hm, a1p])
  · obtain rfl : i = p.consts.length := by omega
    rw [List.drop_length] at hm
    simp (disch := omega) [go_sem, a57, h]
    exact hex hm.symm _
end
end Go.Ideal.Tryd
end
section
set_option linter.unusedVariables false
set_option linter.unusedSimpArgs false
set_option maxRecDepth 10000
namespace Go.Ideal.Tryd
section
variable {G : Nat → Option Value} {bk : Nat → Nat × Nat} {Q : Exit → St → Prop} {st : St}
theorem e08 (hS : Sent3 G bk) (p : Pl) (hp : p.fin) (hsh : ∀ x ∈ p.code, x.ins.length < 2 ^ 37 ∧ x.args.length < 2 ^ 37) : ACalls pg G d0z [.agg (eP p)] (a1p bk (c1l p)) := by
  refine c05 rfl ?_
  have h2 := hS.val 2 (by decide)
  have h3 := hS.val 3 (by decide)
  have f1 := hp.vl
  have f2 := hp.cl
  have f3 := hp.wl
  have f4 := hp.il
  have c1 := b7d (G := G) (f := 126) c3i (p := d18) p.code (fun x hx => (d73 x (hsh x hx).1 (hsh x hx).2).toX (by simp [a0l])) f4
  have c2 := b7d (G := G) (f := 132) b78 (p := fun v => !b4r v) p.code (fun x hx => (f8s x (hsh x hx).1 (hsh x hx).2).toX (by simp [a0l])) f4
  have hds : ∀ d ∈ a1o p, d.shape.length < 2 ^ 62 := by
    intro d hd
    rcases List.mem_append.1 hd with hd | hd
    · obtain ⟨v, hv, rfl⟩ := List.mem_map.1 hd
      exact hp.vs v hv
    · exact hp.ws d hd
  have e1 : a6h p = false → (a1o p).any b57 = true → c1l p = .s 2 := fun a b => by simp only [c1l, a, b, if_true, Bool.false_eq_true, if_false]
  have e2 : a6h p = false → (a1o p).any b57 = false → (a1o p).any c9k = true → c1l p = .s 3 := fun a b c => by simp only [c1l, a, b, c, if_true, Bool.false_eq_true, if_false]
  have e3 : a6h p = false → (a1o p).any b57 = false → (a1o p).any c9k = false → ((b5b p).any d3i || p.code.any (fun v => !b4r v)) = true → c1l p = .s 3 := fun a b c d => by simp only [c1l, a, b, c, d, if_true, Bool.false_eq_true, if_false]
  have e4 : a6h p = false → (a1o p).any b57 = false → (a1o p).any c9k = false → ((b5b p).any d3i || p.code.any (fun v => !b4r v)) = false → c1l p = d3c p.consts := fun a b c d => by simp only [c1l, a, b, c, d, Bool.false_eq_true, if_false]
  by_cases k1 : 128 < p.views.length
  · have hM : a6h p = true := by simp [a6h, k1]
    have k1' : (128 : Int) < p.views.length := by omega
    simp (disch := omega) [go_sem, a36, eP, k1', h2, c1l, hM, a1p]
  have k1' : ¬ (128 : Int) < p.views.length := by omega
  by_cases k2 : 64 < p.consts.length
  · have hM : a6h p = true := by simp [a6h, k2]
    have k2' : (64 : Int) < p.consts.length := by omega
    simp (disch := omega) [go_sem, a36, eP, k1', k2', h2, c1l, hM, a1p]
  have k2' : ¬ (64 : Int) < p.consts.length := by omega
  by_cases k3 : 8 < p.weights.length
  · have hM : a6h p = true := by simp [a6h, k3]
    have k3' : (8 : Int) < p.weights.length := by omega
    simp (disch := omega) [go_sem, a36, eP, k1', k2', k3', h2, c1l, hM, a1p]
  have k3' : ¬ (8 : Int) < p.weights.length := by omega
  by_cases k4 : 2048 < p.code.length
  · have hM : a6h p = true := by simp [a6h, k4]
    have k4' : (2048 : Int) < p.code.length := by omega
    simp (disch := omega) [go_sem, a36, eP, k1', k2', k3', k4', h2, c1l, hM, a1p]
  have k4' : ¬ (2048 : Int) < p.code.length := by omega
  have hdl : (a1o p).length < 2 ^ 20 := by simp [a1o]; omega
  have c3 := c92 (G := G) (f := 129) b76 (p := b57) (a1o p) (fun x hx => (g0c x (hds x hx)).toX (by simp [a0l])) (by omega)
  have cd := d59 (G := G) p (by omega) (by omega)
  have hnl : (b5b p).length < 2 ^ 20 := by simp [b5b]; omega
  have c4 := b7e (G := G) (f := 131) b8l (p := d3i) (b5b p) (fun x _ => (g0w x).toX (by simp [a0l])) (by omega)
  have l0 := fun (Q : Exit → St → Prop) (st : St) => d7r (G := G) (Q := Q) (st := st) (p := p) (by omega)
  simp (disch := omega) [go_sem, a36, eP, k1', k2', k3', k4']
  refine a0s c1 rfl rfl rfl rfl ?_
  cases hm : p.code.any d18 with
  | true =>
    have hM : a6h p = true := by simp only [a6h, hm]; simp
    simp (disch := omega) [go_sem, h2, c1l, hM, a1p]
  | false =>
  have hM : a6h p = false := by simp only [a6h, hm]; simp [k1, k2, k3, k4]
  generalize c1l p = r at *
  generalize a1o p = ds at *
  generalize b5b p = ns at *
  simp (disch := omega) [go_sem]
  refine b0s cd rfl (by simp (disch := omega) [go_sem]) ?_
  simp (disch := omega) [go_sem]
  refine a0s c3 rfl rfl rfl rfl ?_
  cases hl : ds.any b57 with
  | true =>
    rw [e1 hM hl]
    simp (disch := omega) [go_sem, h2, a1p]
  | false =>
  simp (disch := omega) [go_sem]
  refine l0 _ _ (by simp (disch := omega) [go_sem, eP]) fun s h => ?_
  simp (disch := omega) [go_sem, h]
  refine d62 (p := p) (ds := ds) (ns := ns) hS (by omega) hds rfl (by simp (disch := omega) [go_sem, h]) (fun ho s h => ?_) (fun ho s h => ?_)
  · simp (disch := omega) [go_sem, h]
    refine a0s c4 rfl rfl rfl rfl ?_
    cases hn : ns.any d3i with
    | true =>
      rw [e3 hM hl ho (by rw [hn]; rfl)]
      simp (disch := omega) [go_sem, h, h3, a1p, eP]
    | false =>
      simp (disch := omega) [go_sem, h, eP]
      refine a0s c2 rfl rfl rfl rfl ?_
      cases hc : p.code.any (fun v => !b4r v) with
      | true =>
        rw [e3 hM hl ho (by rw [hn, hc]; rfl)]
        simp (disch := omega) [go_sem, h, h3, a1p, eP]
      | false =>
        rw [e4 hM hl ho (by rw [hn, hc]; rfl)]
        simp (disch := omega) [go_sem, h, eP]
        refine d76 (p := p) hS f2 hp.cs (by simp (disch := omega) [go_sem, h, eP]) (fun hc s => ?_) (fun hc s h => ?_)
        · rw [hc]
          simp (disch := omega) [go_sem, a1p]
        · simp (disch := omega) [go_sem, h]
  · rw [e2 hM hl ho]
    simp (disch := omega) [go_sem, h, a1p]
end
end Go.Ideal.Tryd
end
section
set_option linter.unusedVariables false
set_option linter.unusedSimpArgs false
namespace Go.Ideal.Tryd
theorem d1y : ∀ {ts : List Tn}, d3c ts = .nil ↔ ∀ t ∈ ts, a4o t.shape t.wide t.data = .nil
  | [] => by simp [d3c]
  | t :: ts => by
    unfold d3c
    simp only [List.mem_cons, forall_eq_or_imp]
    rw [← d1y (ts := ts)]
    rcases b8u t.shape t.wide t.data with e | ⟨g, hg, e⟩ | ⟨q, g, hg, e⟩ <;> rw [e] <;> simp
theorem d29 (x : Int) : b5q x = true ↔ r32 x := by simp [b5q, r32]
theorem d60 (x : Int) : d3i x = false ↔ r32 x := by simp [d3i, r32]
theorem c23 (v : In) : e9i v ↔ d18 v = false ∧ b4r v = true := by
  unfold e9i d18 b4r
  simp only [Bool.or_eq_false_iff, decide_eq_false_iff_not, Bool.and_eq_true, List.all_eq_true, decide_eq_true_eq, List.mem_append, List.mem_cons, List.not_mem_nil, or_false, d29]
  constructor
  · rintro ⟨a, b, ⟨c1, c2⟩, ⟨d1, d2⟩, e, f⟩
    refine ⟨⟨by omega, by omega⟩, ?_, a.1, a.2⟩
    rintro x ((rfl | rfl | rfl) | (hx | hx))
    · exact b
    · exact e
    · exact f
    · exact c2 x hx
    · exact d2 x hx
  · rintro ⟨⟨a, b⟩, c, d, e⟩
    exact ⟨⟨d, e⟩, c _ (.inl (.inl rfl)), ⟨by omega, fun x hx => c x (.inr (.inl hx))⟩, ⟨by omega, fun x hx => c x (.inr (.inr hx))⟩, c _ (.inl (.inr (.inl rfl))), c _ (.inl (.inr (.inr rfl)))⟩
theorem d6o (d : Ds) : d50 d ↔ b57 d = false ∧ c9k d = false := by
  unfold d50 b57 c9k d8l
  simp [List.any_eq_false]
theorem b6u (p : Pl) : c1l p = .nil ↔ e39 p := by
  have hM : a6h p = false ↔ p.views.length ≤ 128 ∧ p.consts.length ≤ 64 ∧ p.weights.length ≤ 8 ∧ p.code.length ≤ 2048 ∧ ∀ v ∈ p.code, d18 v = false := by
    simp only [a6h, Bool.or_eq_false_iff, decide_eq_false_iff_not, List.any_eq_false, Bool.not_eq_true]
    constructor
    · rintro ⟨a, b, c, d, e⟩; exact ⟨by omega, by omega, by omega, by omega, e⟩
    · rintro ⟨a, b, c, d, e⟩; exact ⟨by omega, by omega, by omega, by omega, e⟩
  have hD : ((a1o p).any b57 = false ∧ (a1o p).any c9k = false) ↔ (∀ v ∈ p.views, d50 ⟨v.shape, v.wide⟩) ∧ ∀ d ∈ p.weights, d50 d := by
    simp only [List.any_eq_false, Bool.not_eq_true, a1o, List.mem_append, List.mem_map, d6o]
    constructor
    · rintro ⟨a, b⟩
      exact ⟨fun v hv => ⟨a _ (.inl ⟨v, hv, rfl⟩), b _ (.inl ⟨v, hv, rfl⟩)⟩, fun d hd => ⟨a d (.inr hd), b d (.inr hd)⟩⟩
    · rintro ⟨a, b⟩
      refine ⟨fun d hd => ?_, fun d hd => ?_⟩
      · rcases hd with ⟨v, hv, rfl⟩ | hd
        · exact (a v hv).1
        · exact (b d hd).1
      · rcases hd with ⟨v, hv, rfl⟩ | hd
        · exact (a v hv).2
        · exact (b d hd).2
  have hN : ((b5b p).any d3i || p.code.any (fun v => !b4r v)) = false ↔ (r32 p.size ∧ r32 p.input ∧ r32 p.output ∧ ∀ v ∈ p.views, r32 v.off) ∧ ∀ v ∈ p.code, b4r v = true := by
    simp only [Bool.or_eq_false_iff, List.any_eq_false, Bool.not_eq_true, b5b, List.mem_append, List.mem_cons, List.not_mem_nil, or_false, List.mem_map, d60, Bool.not_eq_false']
    constructor
    · rintro ⟨a, b⟩
      exact ⟨⟨a _ (.inl (.inl rfl)), a _ (.inl (.inr (.inl rfl))), a _ (.inl (.inr (.inr rfl))), fun v hv => a _ (.inr ⟨v, hv, rfl⟩)⟩, b⟩
    · rintro ⟨⟨a1, a2, a3, a4⟩, b⟩
      refine ⟨?_, b⟩
      rintro x ((rfl | rfl | rfl) | ⟨v, hv, rfl⟩)
      · exact a1
      · exact a2
      · exact a3
      · exact a4 v hv
  have hall : c1l p = .nil ↔ a6h p = false ∧ ((a1o p).any b57 = false ∧ (a1o p).any c9k = false) ∧ ((b5b p).any d3i || p.code.any (fun v => !b4r v)) = false ∧ d3c p.consts = .nil := by
    unfold c1l
    cases a6h p <;> cases (a1o p).any b57 <;> cases (a1o p).any c9k <;> cases ((b5b p).any d3i || p.code.any (fun v => !b4r v)) <;> simp
  rw [hall, hM, hD, hN, d1y]
  unfold e39
  constructor
  · rintro ⟨⟨a1, a2, a3, a4, a5⟩, ⟨b1, b2⟩, ⟨⟨c1, c2, c3, c4⟩, c5⟩, d⟩
    exact ⟨c1, ⟨a1, fun v hv => ⟨c4 v hv, b1 v hv⟩⟩, ⟨a2, d⟩, ⟨a3, b2⟩, ⟨a4, fun i hi => (c23 i).2 ⟨a5 i hi, c5 i hi⟩⟩, c2, c3⟩
  · rintro ⟨c1, ⟨a1, bv⟩, ⟨a2, d⟩, ⟨a3, b2⟩, ⟨a4, bi⟩, c2, c3⟩
    exact ⟨⟨a1, a2, a3, a4, fun v hv => ((c23 v).1 (bi v hv)).1⟩, ⟨fun v hv => (bv v hv).2, b2⟩, ⟨⟨c1, c2, c3, fun v hv => (bv v hv).1⟩, fun v hv => ((c23 v).1 (bi v hv)).2⟩, d⟩
def b7u (p : Pl) : List Int := ((76 : UInt8).toNat : Int) :: ((80 : UInt8).toNat : Int) :: f12 p
theorem d2i {b : List Int} (hB : a2l b) (h : (b5i b).2.isNil = true) : c1l (b5i b).1 = .nil ∧ b7u (b5i b).1 = b := by
  unfold b5i at h ⊢
  cases he : (c27 b (b5y b (a33 b 76 80 ⟨0, .nil⟩)).2).err.isNil with
  | false =>
    rw [he] at h
    simp only [Bool.false_eq_true, if_false] at h
    rw [h] at he
    cases he
  | true =>
    simp only [if_true]
    obtain ⟨h1, h2⟩ := e59.sound b hB (a2m.1 he)
    exact ⟨(b6u _).2 h1, h2.symm⟩
end Go.Ideal.Tryd
end
