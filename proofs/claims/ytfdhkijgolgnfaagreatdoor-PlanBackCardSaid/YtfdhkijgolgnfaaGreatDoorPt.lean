/- Part Pt of the proof: a machine with trees for values, its soundness, and walks on it. -/
import Derived.Test.YtfdhkijgolgnfaaGreatDoorPs
section
set_option linter.unusedVariables false
set_option linter.unusedSimpArgs false
set_option maxRecDepth 10000
namespace Go.Ideal.Tryz
def c2r (x : Int) : Bool := decide (-2147483648 ≤ x ∧ x ≤ 2147483647)
def b39 (v : In) : Bool := ([v.dst, v.frm, v.to] ++ (v.ins ++ v.args)).all c2r && (decide (0 ≤ v.op) && decide (v.op ≤ 255))
section
variable {G : Nat → Option Value} {bk : Nat → Nat × Nat} {Q : Exit → St → Prop} {st : St}
theorem f1r {v : In} {ys : List Int} (hn : ys.length < 2 ^ 40) (h : st.s 1 = .var (eI v) ∧ st.s 17 = owI ys ∧ st.s 18 = li ys.length ∧ st.s 19 = li 0)
    (hex : ys.all c2r = true → ∀ s, s.s 1 = .var (eI v) → Q (.exit 0) s) (hret : ys.all c2r = false → ∀ s, s.s 2 = lb false → Q .ret s) : AW pg G 35 (.loop a7u) Q st := by
  refine a0u Nat (fun i st => i ≤ ys.length ∧ (ys.drop i).all c2r = ys.all c2r ∧ st.s 1 = .var (eI v) ∧ st.s 17 = owI ys ∧ st.s 18 = li ys.length ∧ st.s 19 = li i) (fun i => ys.length - i) 0 ⟨by simp, rfl, h⟩ ?_
  clear h
  rintro i st K ⟨hi, hm, h⟩ hK
  by_cases hlt : i < ys.length
  · rw [List.drop_eq_getElem_cons hlt, List.all_cons] at hm
    simp (disch := omega) [go_sem, a7u, h, hlt]
    refine a0g (e42 ys[i]) rfl rfl ?_
    cases hf : c2r ys[i] with
    | true =>
      rw [hf, Bool.true_and] at hm
      have hf' : decide (-2147483648 ≤ ys[i] ∧ ys[i] ≤ 2147483647) = true := hf
      rw [hf']
      simp (disch := omega) [go_sem, h]
      exact hK (i + 1) _ ⟨by omega, hm, by simp (disch := omega) [go_sem, h]⟩ (by omega)
    | false =>
      rw [hf, Bool.false_and] at hm
      have hf' : decide (-2147483648 ≤ ys[i] ∧ ys[i] ≤ 2147483647) = false := hf
      rw [hf']
      simp (disch := omega) [go_sem, h]
      exact hret hm.symm _ (by simp (disch := omega) [go_sem, h])
  · obtain rfl : i = ys.length := by omega
    rw [List.drop_length] at hm
    simp (disch := omega) [go_sem, a7u, h]
    exact hex hm.symm _ (by simp (disch := omega) [go_sem, h])
theorem e48 (v : In) (h1 : v.ins.length < 2 ^ 37) (h2 : v.args.length < 2 ^ 37) : ACalls pg G d84 [.agg (eI v)] (lb (b39 v)) := by
  refine c7y rfl ?_
  have hc := e36 (G := G) [[v.dst, v.frm, v.to], v.ins, v.args] (by simp) (by simp [a4q]; omega)
  simp only [List.flatten_cons, List.flatten_nil, List.append_nil] at hc
  unfold b39
  generalize hys : [v.dst, v.frm, v.to] ++ (v.ins ++ v.args) = ys at *
  have hyl : ys.length < 2 ^ 40 := by rw [← hys]; simp; omega
  clear hys
  simp (disch := omega) [go_sem, c5h, eI]
  refine a0g hc rfl (d56 _) ?_
  simp (disch := omega) [go_sem]
  refine f1r (v := v) (ys := ys) hyl (by simp (disch := omega) [go_sem, eI]) (fun ha s h => ?_) fun ha s h => ?_
  · rw [ha]
    by_cases k1 : 0 ≤ v.op
    · by_cases k2 : v.op ≤ 255 <;> simp (disch := omega) [go_sem, h, eI, k1, k2]
    · simp (disch := omega) [go_sem, h, eI, k1]
  · rw [ha]
    simp (disch := omega) [go_sem, h]
theorem e0z (v : In) (h1 : v.ins.length < 2 ^ 37) (h2 : v.args.length < 2 ^ 37) : ACalls pg G c55 [.agg (eI v)] (lb (decide (8 < v.ins.length) || decide (8 < v.args.length))) := by
  refine c7e rfl ?_
  by_cases k1 : 8 < v.ins.length
  · have k1' : (8 : Int) < v.ins.length := by omega
    simp (disch := omega) [go_sem, b0h, eI, k1, k1']
  · have k1' : ¬ (8 : Int) < v.ins.length := by omega
    by_cases k2 : 8 < v.args.length
    · have k2' : (8 : Int) < v.args.length := by omega
      simp (disch := omega) [go_sem, b0h, eI, k1, k1', k2, k2']
    · have k2' : ¬ (8 : Int) < v.args.length := by omega
      simp (disch := omega) [go_sem, b0h, eI, k1, k1', k2, k2']
theorem h26 (v : In) (h1 : v.ins.length < 2 ^ 37) (h2 : v.args.length < 2 ^ 37) : ACalls pg G 58 [.agg (eI v)] (lb (!b39 v)) := by
  refine c3r rfl ?_
  simp (disch := omega) [go_sem, c0c, eI]
  refine a0g (e48 v h1 h2) rfl rfl ?_
  simp (disch := omega) [go_sem]
theorem h0u (d : Ds) (h : d.shape.length < 2 ^ 62) : ACalls pg G 53 [.agg (eD d)] (lb (decide (7 < d.shape.length))) := by
  refine c26 rfl ?_
  by_cases k1 : 7 < d.shape.length
  · have k1' : (7 : Int) < d.shape.length := by omega
    simp (disch := omega) [go_sem, b1k, eD, k1, k1']
  · have k1' : ¬ (7 : Int) < d.shape.length := by omega
    simp (disch := omega) [go_sem, b1k, eD, k1, k1']
theorem h37 (k : Int) : ACalls pg G 55 [li k] (lb (e9h k)) := by
  refine c28 rfl ?_
  by_cases k1 : k < 0
  · have : ¬ (0 ≤ k ∧ k ≤ 65535) := by omega
    simp (disch := omega) [go_sem, a53, k1, e9h, this]
  · by_cases k2 : 65535 < k
    · have : ¬ (0 ≤ k ∧ k ≤ 65535) := by omega
      simp (disch := omega) [go_sem, a53, k1, k2, e9h, this]
    · have : 0 ≤ k ∧ k ≤ 65535 := by omega
      simp (disch := omega) [go_sem, a53, k1, k2, e9h, this]
theorem h3n (k : Int) : ACalls pg G 56 [li k] (lb (e3b k)) := by
  refine c25 rfl ?_
  simp (disch := omega) [go_sem, c0f]
  refine a0g (e42 k) rfl rfl ?_
  simp (disch := omega) [go_sem, e3b]
end
end Go.Ideal.Tryz
end
section
set_option linter.unusedVariables false
set_option linter.unusedSimpArgs false
set_option maxRecDepth 10000
namespace Go.Ideal.Tryz
def d6i (v : In) : Bool := decide (8 < v.ins.length) || decide (8 < v.args.length)
def a8r (p : Pl) : Bool := decide (128 < p.views.length) || (decide (64 < p.consts.length) || (decide (8 < p.weights.length) || (decide (2048 < p.code.length) || p.code.any d6i)))
def a1z (p : Pl) : List Ds := p.views.map (fun v => ⟨v.shape, v.wide⟩) ++ p.weights
def c3p (d : Ds) : Bool := decide (7 < d.shape.length)
def e0a (d : Ds) : Bool := d.shape.any e9h
def c2b (p : Pl) : List Int := [p.size, p.input, p.output] ++ p.views.map (·.off)
def e17 : List Tn → Er
  | [] => .nil
  | t :: ts => match a5k t.shape t.wide t.data with
    | .nil => e17 ts
    | e => e
def b71 (p : Pl) : Er := if a8r p = true then .s 2 else if (a1z p).any c3p = true then .s 2 else if (a1z p).any e0a = true then .s 3 else if ((c2b p).any e3b || p.code.any (fun v => !b39 v)) = true then .s 3 else e17 p.consts
section
variable {G : Nat → Option Value} {bk : Nat → Nat × Nat} {Q : Exit → St → Prop} {st : St}
theorem e7p {f : FuncId} (hf : fnB pg f = true) {p : In → Bool} (ns : List In) (hp : ∀ x ∈ ns, ACallsX pg G f [.agg (eI x)] (lb (p x)) []) (hlen : ns.length < 2 ^ 62) : ACallsX pg G a8y [slJ ns, .fn f [] []] (li (d33 p ns 0)) [] := by
  refine a55 (pins := []) (by kernel_rfl) rfl rfl rfl rfl ?_
  simp (disch := omega) [go_sem, a4b]
  refine a0u Nat (fun i st => i ≤ ns.length ∧ d33 p (ns.drop i) i = d33 p ns 0 ∧ st.s 0 = slJ ns ∧ st.s 1 = .fn f [] [] ∧ st.s 7 = li ns.length ∧ st.s 8 = li i) (fun i => ns.length - i) 0 ⟨by simp, rfl, by simp (disch := omega) [go_sem]⟩ ?_
  rintro i st K ⟨hi, hno, h⟩ hK
  by_cases hlt : i < ns.length
  · rw [c4p hlt] at hno
    simp (disch := omega) [go_sem, a19, h, hlt, hf]
    refine a0o (hp _ (List.getElem_mem hlt)) rfl rfl rfl rfl ?_
    by_cases hv : p ns[i] = true
    · rw [if_pos hv] at hno
      simp (disch := omega) [go_sem, h, hlt, hv, ← hno]
    · rw [if_neg hv] at hno
      have hv' : p ns[i] = false := by simpa using hv
      simp (disch := omega) [go_sem, h, hlt, hv']
      exact hK (i + 1) _ ⟨by omega, hno, by simp (disch := omega) [go_sem, h]⟩ (by omega)
  · rw [List.drop_eq_nil_of_le (by omega)] at hno
    simp (disch := omega) [go_sem, a19, h, hlt, ← hno, d33]
theorem b1j {f : FuncId} (hf : fnB pg f = true) {p : In → Bool} (ns : List In) (hp : ∀ x ∈ ns, ACallsX pg G f [.agg (eI x)] (lb (p x)) []) (hlen : ns.length < 2 ^ 62) : ACallsX pg G a6z [slJ ns, .fn f [] []] (lb (ns.any p)) [] := by
  refine a4v (pins := []) (by kernel_rfl) rfl rfl rfl rfl ?_
  simp (disch := omega) [go_sem, a3j]
  refine a0o (e7p hf ns hp hlen) rfl rfl rfl rfl ?_
  simp (disch := omega) [go_sem, c32]
theorem e7t {f : FuncId} (hf : fnB pg f = true) {p : Ds → Bool} (ns : List Ds) (hp : ∀ x ∈ ns, ACallsX pg G f [.agg (eD x)] (lb (p x)) []) (hlen : ns.length < 2 ^ 62) : ACallsX pg G b0e [slD ns, .fn f [] []] (li (d33 p ns 0)) [] := by
  refine a6c (pins := []) (by kernel_rfl) rfl rfl rfl rfl ?_
  simp (disch := omega) [go_sem, a4g]
  refine a0u Nat (fun i st => i ≤ ns.length ∧ d33 p (ns.drop i) i = d33 p ns 0 ∧ st.s 0 = slD ns ∧ st.s 1 = .fn f [] [] ∧ st.s 7 = li ns.length ∧ st.s 8 = li i) (fun i => ns.length - i) 0 ⟨by simp, rfl, by simp (disch := omega) [go_sem]⟩ ?_
  rintro i st K ⟨hi, hno, h⟩ hK
  by_cases hlt : i < ns.length
  · rw [c4p hlt] at hno
    simp (disch := omega) [go_sem, a2e, h, hlt, hf]
    refine a0o (hp _ (List.getElem_mem hlt)) rfl rfl rfl rfl ?_
    by_cases hv : p ns[i] = true
    · rw [if_pos hv] at hno
      simp (disch := omega) [go_sem, h, hlt, hv, ← hno]
    · rw [if_neg hv] at hno
      have hv' : p ns[i] = false := by simpa using hv
      simp (disch := omega) [go_sem, h, hlt, hv']
      exact hK (i + 1) _ ⟨by omega, hno, by simp (disch := omega) [go_sem, h]⟩ (by omega)
  · rw [List.drop_eq_nil_of_le (by omega)] at hno
    simp (disch := omega) [go_sem, a2e, h, hlt, ← hno, d33]
theorem d94 {f : FuncId} (hf : fnB pg f = true) {p : Ds → Bool} (ns : List Ds) (hp : ∀ x ∈ ns, ACallsX pg G f [.agg (eD x)] (lb (p x)) []) (hlen : ns.length < 2 ^ 62) : ACallsX pg G a62 [slD ns, .fn f [] []] (lb (ns.any p)) [] := by
  refine a5f (pins := []) (by kernel_rfl) rfl rfl rfl rfl ?_
  simp (disch := omega) [go_sem, a3s]
  refine a0o (e7t hf ns hp hlen) rfl rfl rfl rfl ?_
  simp (disch := omega) [go_sem, c32]
theorem e7z (p : Pl) (h1 : p.views.length < 2 ^ 20) (h2 : p.weights.length < 2 ^ 20) : ACalls pg G d4a [.agg (eP p)] (.own 2 (a1z p).length (fm eD (a1z p))) := by
  refine c46 rfl ?_
  obtain ⟨ds, hds⟩ : ∃ ds, ds = a1z p := ⟨_, rfl⟩
  rw [← hds]
  simp (disch := omega) [go_sem, c2q, eP]
  refine a0u (Nat × List Ds) (fun q st => q.1 ≤ p.views.length ∧ q.2 ++ (p.views.drop q.1).map (fun v => (⟨v.shape, v.wide⟩ : Ds)) = p.views.map (fun v => (⟨v.shape, v.wide⟩ : Ds)) ∧ q.2.length = q.1 ∧ st.s 1 = .var (eP p) ∧ st.s 3 = .own 2 (q.2).length (fm eD q.2) ∧ st.s 7 = slV p.views ∧ st.s 8 = li p.views.length ∧ st.s 9 = li q.1) (fun q => p.views.length - q.1) (0, []) ⟨by simp, rfl, rfl, by simp (disch := omega) [go_sem, eP, fm]⟩ ?_
  rintro ⟨i, l⟩ st K ⟨hi, hm, hl, h⟩ hK
  simp only at hi hm hl h
  by_cases hlt : i < p.views.length
  · rw [List.drop_eq_getElem_cons hlt, List.map_cons, List.append_cons] at hm
    simp (disch := omega) [go_sem, b0l, h, hlt]
    exact hK (i + 1, l ++ [⟨p.views[i].shape, p.views[i].wide⟩]) _ ⟨by simp only; omega, hm, by simp [hl], by simp (disch := omega) [go_sem, h, c9h, e50]⟩ (by simp only; omega)
  · obtain rfl : i = p.views.length := by omega
    rw [List.drop_length, List.map_nil, List.append_nil] at hm
    have e : ds = l ++ p.weights := by rw [hds, hm]; rfl
    rw [e]
    simp (disch := omega) [go_sem, b0l, h, eP, c9h]
end
end Go.Ideal.Tryz
end
section
set_option linter.unusedVariables false
set_option linter.unusedSimpArgs false
set_option maxRecDepth 10000
namespace Go.Ideal.Tryz
section
variable {G : Nat → Option Value} {bk : Nat → Nat × Nat} {Q : Exit → St → Prop} {st : St}
theorem e7q {p : Pl} (h1 : p.views.length ≤ 128) (h : st.s 1 = .var (eP p) ∧ st.s 3 = .own 2 (a1z p).length (fm eD (a1z p)) ∧ st.s 4 = owI [p.size, p.input, p.output] ∧ st.s 53 = slV p.views ∧ st.s 54 = li p.views.length ∧ st.s 55 = li 0)
    (hex : ∀ s, s.s 1 = .var (eP p) ∧ s.s 3 = .own 2 (a1z p).length (fm eD (a1z p)) ∧ s.s 4 = owI (c2b p) → Q (.exit 0) s) : AW pg G 97 (.loop a7y) Q st := by
  refine a0u (Nat × List Int) (fun q st => q.1 ≤ p.views.length ∧ q.2 ++ (p.views.drop q.1).map (·.off) = c2b p ∧ q.2.length = q.1 + 3 ∧ st.s 1 = .var (eP p) ∧ st.s 3 = .own 2 (a1z p).length (fm eD (a1z p)) ∧ st.s 4 = owI q.2 ∧ st.s 53 = slV p.views ∧ st.s 54 = li p.views.length ∧ st.s 55 = li q.1) (fun q => p.views.length - q.1) (0, [p.size, p.input, p.output]) ⟨by simp, rfl, rfl, h⟩ ?_
  clear h
  rintro ⟨i, l⟩ st K ⟨hi, hm, hl, h⟩ hK
  simp only at hi hm hl h
  by_cases hlt : i < p.views.length
  · rw [List.drop_eq_getElem_cons hlt, List.map_cons, List.append_cons] at hm
    simp (disch := omega) [go_sem, a7y, h, hlt, eP]
    exact hK (i + 1, l ++ [p.views[i].off]) _ ⟨by simp only; omega, hm, by simp [hl], by simp (disch := omega) [go_sem, h, eP]⟩ (by simp only; omega)
  · obtain rfl : i = p.views.length := by omega
    rw [List.drop_length, List.map_nil, List.append_nil] at hm
    simp (disch := omega) [go_sem, a7y, h]
    exact hex _ (by simp (disch := omega) [go_sem, h, ← hm])
theorem e8g (hS : Sent3 G bk) {p : Pl} {ds : List Ds} {ns : List Int} {ep : Nat} (hn : ds.length < 2 ^ 40) (hd : ∀ d ∈ ds, d.shape.length < 2 ^ 62) (hep : st.ep 3 = ep) (h : st.s 1 = .var (eP p) ∧ st.s 3 = .own 2 ds.length (fm eD ds) ∧ st.s 4 = owI ns ∧ st.s 65 = .bor 3 [] 0 ds.length ep ∧ st.s 66 = li ds.length ∧ st.s 67 = li 0)
    (hex : ds.any e0a = false → ∀ s, s.s 1 = .var (eP p) ∧ s.s 4 = owI ns → Q (.exit 2) s) (hret : ds.any e0a = true → ∀ s, s.s 2 = sv bk 3 → Q .ret s) : AW pg G 97 (.loop a7x) Q st := by
  have h3 := hS.val 1 (by decide)
  refine a0u Nat (fun i st => i ≤ ds.length ∧ (ds.drop i).any e0a = ds.any e0a ∧ st.ep 3 = ep ∧ st.s 1 = .var (eP p) ∧ st.s 3 = .own 2 ds.length (fm eD ds) ∧ st.s 4 = owI ns ∧ st.s 65 = .bor 3 [] 0 ds.length ep ∧ st.s 66 = li ds.length ∧ st.s 67 = li i) (fun i => ds.length - i) 0 ⟨by simp, rfl, hep, h⟩ ?_
  clear h hep
  rintro i st K ⟨hi, hm, hep, h⟩ hK
  by_cases hlt : i < ds.length
  · rw [List.drop_eq_getElem_cons hlt, List.any_cons] at hm
    have c1 := c4e (G := G) (f := 55) c58 (p := e9h) ds[i].shape (fun x _ => (h37 x).toX (by simp [a0k])) (hd _ (List.getElem_mem hlt))
    have e : ds[i].shape.any e9h = e0a ds[i] := rfl
    rw [e] at c1
    simp (disch := omega) [go_sem, a7x, h, hep, hlt]
    refine a0o c1 rfl rfl rfl rfl ?_
    cases ho : e0a ds[i] with
    | true =>
      rw [ho, Bool.true_or] at hm
      simp (disch := omega) [go_sem, h, hep, h3]
      exact hret hm.symm _ (by simp (disch := omega) [go_sem])
    | false =>
      rw [ho, Bool.false_or] at hm
      simp (disch := omega) [go_sem, h, hep]
      exact hK (i + 1) _ ⟨by omega, hm, by simp (disch := omega) [go_sem, h, hep], by simp (disch := omega) [go_sem, h, hep]⟩ (by omega)
  · obtain rfl : i = ds.length := by omega
    rw [List.drop_length] at hm
    simp (disch := omega) [go_sem, a7x, h, hep]
    exact hex hm.symm _ (by simp (disch := omega) [go_sem, h, hep])
theorem e7h (hS : Sent3 G bk) {p : Pl} (hn : p.consts.length < 2 ^ 62) (hf : ∀ x ∈ p.consts, x.shape.length < 2 ^ 62 ∧ x.data.length < 2 ^ 62) (h : st.s 1 = .var (eP p) ∧ st.s 85 = slT p.consts ∧ st.s 86 = li p.consts.length ∧ st.s 87 = li 0)
    (hex : e17 p.consts = .nil → ∀ s, Q (.exit 4) s) (hret : e17 p.consts ≠ .nil → ∀ s, s.s 2 = a1j bk (e17 p.consts) → Q .ret s) : AW pg G 97 (.loop a7j) Q st := by
  refine a0u Nat (fun i st => i ≤ p.consts.length ∧ e17 (p.consts.drop i) = e17 p.consts ∧ st.s 1 = .var (eP p) ∧ st.s 85 = slT p.consts ∧ st.s 86 = li p.consts.length ∧ st.s 87 = li i) (fun i => p.consts.length - i) 0 ⟨by simp, rfl, h⟩ ?_
  clear h
  rintro i st K ⟨hi, hm, h⟩ hK
  by_cases hlt : i < p.consts.length
  · rw [List.drop_eq_getElem_cons hlt, e17] at hm
    have hfi := hf _ (List.getElem_mem hlt)
    have c1 := c57 (G := G) hS p.consts[i].shape p.consts[i].wide p.consts[i].data hfi.1 hfi.2
    simp (disch := omega) [go_sem, a7j, h, hlt]
    rcases c4w p.consts[i].shape p.consts[i].wide p.consts[i].data with e | ⟨g, hg, e⟩ | ⟨q, g, hg, e⟩ <;> rw [e] at c1 hm <;> simp only [a1j] at c1
    · refine a0g c1 rfl rfl ?_
      simp (disch := omega) [go_sem, h]
      exact hK (i + 1) _ ⟨by omega, hm, by simp (disch := omega) [go_sem, h]⟩ (by omega)
    · refine a0g c1 rfl rfl ?_
      simp (disch := omega) [go_sem, h]
      exact hret (by rw [← hm]; simp) _ (by simp (disch := omega) [go_sem, ← hm, a1j])
    · refine f0f c1 rfl rfl ?_
      simp (disch := omega) [go_sem, h]
      exact hret (by rw [← hm]; simp) _ (by simp (disch := omega) [go_sem, ← hm, a1j])
  · obtain rfl : i = p.consts.length := by omega
    rw [List.drop_length] at hm
    simp (disch := omega) [go_sem, a7j, h]
    exact hex hm.symm _
end
end Go.Ideal.Tryz
end
section
set_option linter.unusedVariables false
set_option linter.unusedSimpArgs false
set_option maxRecDepth 10000
namespace Go.Ideal.Tryz
section
variable {G : Nat → Option Value} {bk : Nat → Nat × Nat} {Q : Exit → St → Prop} {st : St}
theorem e45 (hS : Sent3 G bk) (p : Pl) (hp : p.fin) (hsh : ∀ x ∈ p.code, x.ins.length < 2 ^ 37 ∧ x.args.length < 2 ^ 37) : ACalls pg G d96 [.agg (eP p)] (a1j bk (b71 p)) := by
  refine c8b rfl ?_
  have h2 := hS.val 0 (by decide)
  have h3 := hS.val 1 (by decide)
  have f1 := hp.vl
  have f2 := hp.cl
  have f3 := hp.wl
  have f4 := hp.il
  have c1 := b1j (G := G) (f := 46) c06 (p := d6i) p.code (fun x hx => (e0z x (hsh x hx).1 (hsh x hx).2).toX (by simp [a0k])) f4
  have c2 := b1j (G := G) (f := 58) c5c (p := fun v => !b39 v) p.code (fun x hx => (h26 x (hsh x hx).1 (hsh x hx).2).toX (by simp [a0k])) f4
  have hds : ∀ d ∈ a1z p, d.shape.length < 2 ^ 62 := by
    intro d hd
    rcases List.mem_append.1 hd with hd | hd
    · obtain ⟨v, hv, rfl⟩ := List.mem_map.1 hd
      exact hp.vs v hv
    · exact hp.ws d hd
  have e1 : a8r p = false → (a1z p).any c3p = true → b71 p = .s 2 := fun a b => by simp only [b71, a, b, if_true, Bool.false_eq_true, if_false]
  have e2 : a8r p = false → (a1z p).any c3p = false → (a1z p).any e0a = true → b71 p = .s 3 := fun a b c => by simp only [b71, a, b, c, if_true, Bool.false_eq_true, if_false]
  have e3 : a8r p = false → (a1z p).any c3p = false → (a1z p).any e0a = false → ((c2b p).any e3b || p.code.any (fun v => !b39 v)) = true → b71 p = .s 3 := fun a b c d => by simp only [b71, a, b, c, d, if_true, Bool.false_eq_true, if_false]
  have e4 : a8r p = false → (a1z p).any c3p = false → (a1z p).any e0a = false → ((c2b p).any e3b || p.code.any (fun v => !b39 v)) = false → b71 p = e17 p.consts := fun a b c d => by simp only [b71, a, b, c, d, Bool.false_eq_true, if_false]
  by_cases k1 : 128 < p.views.length
  · have hM : a8r p = true := by simp [a8r, k1]
    have k1' : (128 : Int) < p.views.length := by omega
    simp (disch := omega) [go_sem, a4y, eP, k1', h2, b71, hM, a1j]
  have k1' : ¬ (128 : Int) < p.views.length := by omega
  by_cases k2 : 64 < p.consts.length
  · have hM : a8r p = true := by simp [a8r, k2]
    have k2' : (64 : Int) < p.consts.length := by omega
    simp (disch := omega) [go_sem, a4y, eP, k1', k2', h2, b71, hM, a1j]
  have k2' : ¬ (64 : Int) < p.consts.length := by omega
  by_cases k3 : 8 < p.weights.length
  · have hM : a8r p = true := by simp [a8r, k3]
    have k3' : (8 : Int) < p.weights.length := by omega
    simp (disch := omega) [go_sem, a4y, eP, k1', k2', k3', h2, b71, hM, a1j]
  have k3' : ¬ (8 : Int) < p.weights.length := by omega
  by_cases k4 : 2048 < p.code.length
  · have hM : a8r p = true := by simp [a8r, k4]
    have k4' : (2048 : Int) < p.code.length := by omega
    simp (disch := omega) [go_sem, a4y, eP, k1', k2', k3', k4', h2, b71, hM, a1j]
  have k4' : ¬ (2048 : Int) < p.code.length := by omega
  have hdl : (a1z p).length < 2 ^ 20 := by simp [a1z]; omega
  have c3 := d94 (G := G) (f := 53) c4t (p := c3p) (a1z p) (fun x hx => (h0u x (hds x hx)).toX (by simp [a0k])) (by omega)
  have cd := e7z (G := G) p (by omega) (by omega)
  have hnl : (c2b p).length < 2 ^ 20 := by simp [c2b]; omega
  have c4 := c4e (G := G) (f := 56) c4i (p := e3b) (c2b p) (fun x _ => (h3n x).toX (by simp [a0k])) (by omega)
  have l0 := fun (Q : Exit → St → Prop) (st : St) => e7q (G := G) (Q := Q) (st := st) (p := p) (by omega)
  simp (disch := omega) [go_sem, a4y, eP, k1', k2', k3', k4']
  refine a0o c1 rfl rfl rfl rfl ?_
  cases hm : p.code.any d6i with
  | true =>
    have hM : a8r p = true := by simp only [a8r, hm]; simp
    simp (disch := omega) [go_sem, h2, b71, hM, a1j]
  | false =>
  have hM : a8r p = false := by simp only [a8r, hm]; simp [k1, k2, k3, k4]
  generalize b71 p = r at *
  generalize a1z p = ds at *
  generalize c2b p = ns at *
  simp (disch := omega) [go_sem]
  refine a3b cd rfl (by simp (disch := omega) [go_sem]) ?_
  simp (disch := omega) [go_sem]
  refine a0o c3 rfl rfl rfl rfl ?_
  cases hl : ds.any c3p with
  | true =>
    rw [e1 hM hl]
    simp (disch := omega) [go_sem, h2, a1j]
  | false =>
  simp (disch := omega) [go_sem]
  refine l0 _ _ (by simp (disch := omega) [go_sem, eP]) fun s h => ?_
  simp (disch := omega) [go_sem, h]
  refine e8g (p := p) (ds := ds) (ns := ns) hS (by omega) hds rfl (by simp (disch := omega) [go_sem, h]) (fun ho s h => ?_) (fun ho s h => ?_)
  · simp (disch := omega) [go_sem, h]
    refine a0o c4 rfl rfl rfl rfl ?_
    cases hn : ns.any e3b with
    | true =>
      rw [e3 hM hl ho (by rw [hn]; rfl)]
      simp (disch := omega) [go_sem, h, h3, a1j, eP]
    | false =>
      simp (disch := omega) [go_sem, h, eP]
      refine a0o c2 rfl rfl rfl rfl ?_
      cases hc : p.code.any (fun v => !b39 v) with
      | true =>
        rw [e3 hM hl ho (by rw [hn, hc]; rfl)]
        simp (disch := omega) [go_sem, h, h3, a1j, eP]
      | false =>
        rw [e4 hM hl ho (by rw [hn, hc]; rfl)]
        simp (disch := omega) [go_sem, h, eP]
        refine e7h (p := p) hS f2 hp.cs (by simp (disch := omega) [go_sem, h, eP]) (fun hc s => ?_) (fun hc s h => ?_)
        · rw [hc]
          simp (disch := omega) [go_sem, a1j]
        · simp (disch := omega) [go_sem, h]
  · rw [e2 hM hl ho]
    simp (disch := omega) [go_sem, h, a1j]
end
end Go.Ideal.Tryz
end
section
set_option linter.unusedVariables false
set_option linter.unusedSimpArgs false
namespace Go.Ideal.Tryz
theorem e1f : ∀ {ts : List Tn}, e17 ts = .nil ↔ ∀ t ∈ ts, a5k t.shape t.wide t.data = .nil
  | [] => by simp [e17]
  | t :: ts => by
    unfold e17
    simp only [List.mem_cons, forall_eq_or_imp]
    rw [← e1f (ts := ts)]
    rcases c4w t.shape t.wide t.data with e | ⟨g, hg, e⟩ | ⟨q, g, hg, e⟩ <;> rw [e] <;> simp
theorem e2y (x : Int) : c2r x = true ↔ r32 x := by simp [c2r, r32]
theorem e78 (x : Int) : e3b x = false ↔ r32 x := by simp [e3b, r32]
theorem b9e (v : In) : e30 v ↔ d6i v = false ∧ b39 v = true := by
  unfold e30 d6i b39
  simp only [Bool.or_eq_false_iff, decide_eq_false_iff_not, Bool.and_eq_true, List.all_eq_true, decide_eq_true_eq, List.mem_append, List.mem_cons, List.not_mem_nil, or_false, e2y]
  constructor
  · rintro ⟨a, b, ⟨c1, c2⟩, ⟨d1, d2⟩, e, f⟩
    refine ⟨⟨by omega, by omega⟩, ?_, a.1, a.2⟩
    rintro x ((rfl | rfl | rfl) | (hx | hx))
    · exact b
    · exact e
    · exact f
    · exact c2 x hx
    · exact d2 x hx
  · rintro ⟨⟨a, b⟩, c, d, e⟩
    exact ⟨⟨d, e⟩, c _ (.inl (.inl rfl)), ⟨by omega, fun x hx => c x (.inr (.inl hx))⟩, ⟨by omega, fun x hx => c x (.inr (.inr hx))⟩, c _ (.inl (.inr (.inl rfl))), c _ (.inl (.inr (.inr rfl)))⟩
theorem e79 (d : Ds) : e57 d ↔ c3p d = false ∧ e0a d = false := by
  unfold e57 c3p e0a e9h
  simp [List.any_eq_false]
theorem b4m (p : Pl) : b71 p = .nil ↔ e8p p := by
  have hM : a8r p = false ↔ p.views.length ≤ 128 ∧ p.consts.length ≤ 64 ∧ p.weights.length ≤ 8 ∧ p.code.length ≤ 2048 ∧ ∀ v ∈ p.code, d6i v = false := by
    simp only [a8r, Bool.or_eq_false_iff, decide_eq_false_iff_not, List.any_eq_false, Bool.not_eq_true]
    constructor
    · rintro ⟨a, b, c, d, e⟩; exact ⟨by omega, by omega, by omega, by omega, e⟩
    · rintro ⟨a, b, c, d, e⟩; exact ⟨by omega, by omega, by omega, by omega, e⟩
  have hD : ((a1z p).any c3p = false ∧ (a1z p).any e0a = false) ↔ (∀ v ∈ p.views, e57 ⟨v.shape, v.wide⟩) ∧ ∀ d ∈ p.weights, e57 d := by
    simp only [List.any_eq_false, Bool.not_eq_true, a1z, List.mem_append, List.mem_map, e79]
    constructor
    · rintro ⟨a, b⟩
      exact ⟨fun v hv => ⟨a _ (.inl ⟨v, hv, rfl⟩), b _ (.inl ⟨v, hv, rfl⟩)⟩, fun d hd => ⟨a d (.inr hd), b d (.inr hd)⟩⟩
    · rintro ⟨a, b⟩
      refine ⟨fun d hd => ?_, fun d hd => ?_⟩
      · rcases hd with ⟨v, hv, rfl⟩ | hd
        · exact (a v hv).1
        · exact (b d hd).1
      · rcases hd with ⟨v, hv, rfl⟩ | hd
        · exact (a v hv).2
        · exact (b d hd).2
  have hN : ((c2b p).any e3b || p.code.any (fun v => !b39 v)) = false ↔ (r32 p.size ∧ r32 p.input ∧ r32 p.output ∧ ∀ v ∈ p.views, r32 v.off) ∧ ∀ v ∈ p.code, b39 v = true := by
    simp only [Bool.or_eq_false_iff, List.any_eq_false, Bool.not_eq_true, c2b, List.mem_append, List.mem_cons, List.not_mem_nil, or_false, List.mem_map, e78, Bool.not_eq_false']
    constructor
    · rintro ⟨a, b⟩
      exact ⟨⟨a _ (.inl (.inl rfl)), a _ (.inl (.inr (.inl rfl))), a _ (.inl (.inr (.inr rfl))), fun v hv => a _ (.inr ⟨v, hv, rfl⟩)⟩, b⟩
    · rintro ⟨⟨a1, a2, a3, a4⟩, b⟩
      refine ⟨?_, b⟩
      rintro x ((rfl | rfl | rfl) | ⟨v, hv, rfl⟩)
      · exact a1
      · exact a2
      · exact a3
      · exact a4 v hv
  have hall : b71 p = .nil ↔ a8r p = false ∧ ((a1z p).any c3p = false ∧ (a1z p).any e0a = false) ∧ ((c2b p).any e3b || p.code.any (fun v => !b39 v)) = false ∧ e17 p.consts = .nil := by
    unfold b71
    cases a8r p <;> cases (a1z p).any c3p <;> cases (a1z p).any e0a <;> cases ((c2b p).any e3b || p.code.any (fun v => !b39 v)) <;> simp
  rw [hall, hM, hD, hN, e1f]
  unfold e8p
  constructor
  · rintro ⟨⟨a1, a2, a3, a4, a5⟩, ⟨b1, b2⟩, ⟨⟨c1, c2, c3, c4⟩, c5⟩, d⟩
    exact ⟨c1, ⟨a1, fun v hv => ⟨c4 v hv, b1 v hv⟩⟩, ⟨a2, d⟩, ⟨a3, b2⟩, ⟨a4, fun i hi => (b9e i).2 ⟨a5 i hi, c5 i hi⟩⟩, c2, c3⟩
  · rintro ⟨c1, ⟨a1, bv⟩, ⟨a2, d⟩, ⟨a3, b2⟩, ⟨a4, bi⟩, c2, c3⟩
    exact ⟨⟨a1, a2, a3, a4, fun v hv => ((b9e v).1 (bi v hv)).1⟩, ⟨fun v hv => (bv v hv).2, b2⟩, ⟨⟨c1, c2, c3, fun v hv => (bv v hv).1⟩, fun v hv => ((b9e v).1 (bi v hv)).2⟩, d⟩
def a4c (p : Pl) : List Int := ((76 : UInt8).toNat : Int) :: ((80 : UInt8).toNat : Int) :: g4u p
theorem e5q {p : Pl} (h : b71 p = .nil) : c5x (a4c p) = (p, .nil) := by
  obtain ⟨h1, h2⟩ := e4n.back p ((b4m p).1 h)
  unfold c5x a4c
  rw [h1, h2]
  rfl
theorem e8e {p : Pl} (h : b71 p = .nil) {k : Nat} (hk : k < (a4c p).length) : (c5x ((a4c p).take k)).2 = .s 4 := by
  have h1 := e4n.cut p k ((b4m p).1 h) (by simpa [a4c] using hk)
  unfold c5x a4c
  rw [h1]
  rfl
theorem e5f {p : Pl} (x : Int) (h : b71 p = .nil) : (c5x (a4c p ++ [x])).2 = .at ((a4c p).length : Int) (.s 2) := by
  have h1 := e4n.long p x ((b4m p).1 h)
  unfold c5x a4c
  rw [h1]
  rfl
end Go.Ideal.Tryz
end
