/- Part Pu of the proof: a machine with trees for values, its soundness, and walks on it. -/
import Derived.Test.YtfdhkijgolgnfaaDoorPt
import Derived.Test.YtfdhkijgolgnfaaDoorPo
section
set_option linter.unusedVariables false
set_option linter.unusedSimpArgs false
set_option maxRecDepth 10000
namespace Go.Ideal.Tryd
theorem a7n {α : Type} {f : α → List Int} {m : Nat} : ∀ {l : List α}, (∀ x ∈ l, (f x).length ≤ m) → (l.flatMap f).length ≤ m * l.length
  | [], _ => by simp
  | x :: l, h => by
    have h1 := h x (by simp)
    have h2 := a7n (l := l) fun y hy => h y (by simp [hy])
    simp only [List.flatMap_cons, List.length_append, List.length_cons, Nat.mul_succ]
    omega
def vB (v : Vw) : List Int := a4q true v.off ++ a3h v.shape v.wide
def cB (t : Tn) : List Int := a29 t.shape t.wide t.data
def dB (d : Ds) : List Int := a3h d.shape d.wide
section
variable {G : Nat → Option Value} {bk : Nat → Nat × Nat} {Q : Exit → St → Prop} {st : St}
theorem g0r {p : Pl} {b0 : List Int} (hb : b0.length < 2 ^ 20) (h1 : p.views.length ≤ 128) (hv : ∀ v ∈ p.views, v.shape.length ≤ 7) (h : st.s 1 = .var (eP p) ∧ st.s 5 = .var [owU b0] ∧ st.s 33 = slV p.views ∧ st.s 34 = li p.views.length ∧ st.s 35 = li 0)
    (hex : ∀ s b, b = b0 ++ p.views.flatMap vB → s.s 1 = .var (eP p) ∧ s.s 5 = .var [owU b] → Q (.exit 0) s) : AW pg G 115 (.loop a44) Q st := by
  refine a02 (Nat × List Int) (fun q st => q.1 ≤ p.views.length ∧ q.2 ++ (p.views.drop q.1).flatMap vB = b0 ++ p.views.flatMap vB ∧ q.2.length ≤ b0.length + 20 * q.1 ∧ st.s 1 = .var (eP p) ∧ st.s 5 = .var [owU q.2] ∧ st.s 33 = slV p.views ∧ st.s 34 = li p.views.length ∧ st.s 35 = li q.1) (fun q => p.views.length - q.1) (0, b0) ⟨by simp, rfl, by simp, h⟩ ?_
  clear h
  rintro ⟨i, b⟩ st K ⟨hi, hm, hl, h⟩ hK
  simp only at hi hm hl h
  by_cases hlt : i < p.views.length
  · rw [List.drop_eq_getElem_cons hlt, List.flatMap_cons, ← List.append_assoc] at hm
    have hs := hv _ (List.getElem_mem hlt)
    have hp := a17 true p.views[i].off
    have hd := a38 p.views[i].shape p.views[i].wide
    simp (disch := omega) [go_sem, a44, h, hlt, eP]
    refine a0s (a6a b p.views[i].off (by omega)) rfl rfl rfl (c0s _) ?_
    simp (disch := omega) [go_sem, h, eP]
    refine a0s (d5e (b ++ a4q true p.views[i].off) p.views[i].shape p.views[i].wide (by simp only [List.length_append]; omega) (by omega)) rfl rfl rfl (c0s _) ?_
    simp (disch := omega) [go_sem, h, eP]
    exact hK (i + 1, b ++ vB p.views[i]) _ ⟨by simp only; omega, hm, by simp only [List.length_append, vB]; omega, by simp (disch := omega) [go_sem, h, eP, vB]⟩ (by simp only; omega)
  · obtain rfl : i = p.views.length := by omega
    rw [List.drop_length] at hm
    simp only [List.flatMap_nil, List.append_nil] at hm
    simp (disch := omega) [go_sem, a44, h]
    exact hex _ _ hm (by simp (disch := omega) [go_sem, h])
theorem f5x (hS : Sent3 G bk) {p : Pl} {b0 : List Int} (hb : b0.length < 2 ^ 20) (h1 : p.consts.length ≤ 64) (hv : ∀ t ∈ p.consts, a4o t.shape t.wide t.data = .nil) (h : st.s 1 = .var (eP p) ∧ st.s 5 = .var [owU b0] ∧ st.s 54 = slT p.consts ∧ st.s 55 = li p.consts.length ∧ st.s 56 = li 0)
    (hex : ∀ s b, b = b0 ++ p.consts.flatMap cB → s.s 1 = .var (eP p) ∧ s.s 5 = .var [owU b] → Q (.exit 2) s) : AW pg G 115 (.loop a46) Q st := by
  refine a02 (Nat × List Int) (fun q st => q.1 ≤ p.consts.length ∧ q.2 ++ (p.consts.drop q.1).flatMap cB = b0 ++ p.consts.flatMap cB ∧ q.2.length ≤ b0.length + 70000 * q.1 ∧ st.s 1 = .var (eP p) ∧ st.s 5 = .var [owU q.2] ∧ st.s 54 = slT p.consts ∧ st.s 55 = li p.consts.length ∧ st.s 56 = li q.1) (fun q => p.consts.length - q.1) (0, b0) ⟨by simp, rfl, by simp, h⟩ ?_
  clear h
  rintro ⟨i, b⟩ st K ⟨hi, hm, hl, h⟩ hK
  simp only at hi hm hl h
  by_cases hlt : i < p.consts.length
  · rw [List.drop_eq_getElem_cons hlt, List.flatMap_cons, ← List.append_assoc] at hm
    have hs := hv _ (List.getElem_mem hlt)
    have hd := a38 p.consts[i].shape p.consts[i].wide
    have hr := b6t p.consts[i].wide p.consts[i].data
    have hlen := b8f hs
    have htb : (cB p.consts[i]).length ≤ 70000 := by
      unfold cB a29
      rw [List.length_append]
      omega
    have ct := d7d (G := G) hS p.consts[i].shape p.consts[i].wide p.consts[i].data (by omega) hs
    have ec : a29 p.consts[i].shape p.consts[i].wide p.consts[i].data = cB p.consts[i] := rfl
    rw [ec] at ct
    generalize cB p.consts[i] = tb at *
    simp (disch := omega) [go_sem, a46, h, hlt, eP]
    refine a56 [(5, st.ep 5)] (by simp) (by simp (disch := omega) [go_sem, h]) ?_
    simp (disch := omega) [go_sem, h, hlt]
    refine a3r ct rfl (b36 _) (by simp) [66, 65] (by simp) (by simp (disch := omega) [go_sem, h]) ?_
    simp (disch := omega) [go_sem, h]
    refine a13 (by decide) fun s2 hs2 hep => ?_
    simp (disch := omega) [go_sem, hs2, hep, h]
    exact hK (i + 1, b ++ tb) _ ⟨by simp only; omega, hm, by simp only [List.length_append]; omega, by simp (disch := omega) [go_sem, hs2, hep, h, eP]⟩ (by simp only; omega)
  · obtain rfl : i = p.consts.length := by omega
    rw [List.drop_length] at hm
    simp only [List.flatMap_nil, List.append_nil] at hm
    simp (disch := omega) [go_sem, a46, h]
    exact hex _ _ hm (by simp (disch := omega) [go_sem, h])
theorem f91 {p : Pl} {b0 : List Int} (hb : b0.length < 2 ^ 25) (h1 : p.weights.length ≤ 8) (hv : ∀ v ∈ p.weights, v.shape.length ≤ 7) (h : st.s 1 = .var (eP p) ∧ st.s 5 = .var [owU b0] ∧ st.s 77 = slD p.weights ∧ st.s 78 = li p.weights.length ∧ st.s 79 = li 0)
    (hex : ∀ s b, b = b0 ++ p.weights.flatMap dB → s.s 1 = .var (eP p) ∧ s.s 5 = .var [owU b] → Q (.exit 4) s) : AW pg G 115 (.loop a48) Q st := by
  refine a02 (Nat × List Int) (fun q st => q.1 ≤ p.weights.length ∧ q.2 ++ (p.weights.drop q.1).flatMap dB = b0 ++ p.weights.flatMap dB ∧ q.2.length ≤ b0.length + 20 * q.1 ∧ st.s 1 = .var (eP p) ∧ st.s 5 = .var [owU q.2] ∧ st.s 77 = slD p.weights ∧ st.s 78 = li p.weights.length ∧ st.s 79 = li q.1) (fun q => p.weights.length - q.1) (0, b0) ⟨by simp, rfl, by simp, h⟩ ?_
  clear h
  rintro ⟨i, b⟩ st K ⟨hi, hm, hl, h⟩ hK
  simp only at hi hm hl h
  by_cases hlt : i < p.weights.length
  · rw [List.drop_eq_getElem_cons hlt, List.flatMap_cons, ← List.append_assoc] at hm
    have hs := hv _ (List.getElem_mem hlt)
    have hd := a38 p.weights[i].shape p.weights[i].wide
    simp (disch := omega) [go_sem, a48, h, hlt, eP]
    refine a0s (d5e b p.weights[i].shape p.weights[i].wide (by omega) (by omega)) rfl rfl rfl (c0s _) ?_
    simp (disch := omega) [go_sem, h, eP]
    exact hK (i + 1, b ++ dB p.weights[i]) _ ⟨by simp only; omega, hm, by simp only [List.length_append, dB]; omega, by simp (disch := omega) [go_sem, h, eP, dB]⟩ (by simp only; omega)
  · obtain rfl : i = p.weights.length := by omega
    rw [List.drop_length] at hm
    simp only [List.flatMap_nil, List.append_nil] at hm
    simp (disch := omega) [go_sem, a48, h]
    exact hex _ _ hm (by simp (disch := omega) [go_sem, h])
theorem f73 {p : Pl} {b0 : List Int} (hb : b0.length < 2 ^ 26) (h1 : p.code.length ≤ 2048) (hv : ∀ v ∈ p.code, e9i v) (h : st.s 1 = .var (eP p) ∧ st.s 5 = .var [owU b0] ∧ st.s 93 = slJ p.code ∧ st.s 94 = li p.code.length ∧ st.s 95 = li 0)
    (hex : ∀ s b, b = b0 ++ p.code.flatMap a7b → s.s 1 = .var (eP p) ∧ s.s 5 = .var [owU b] → Q (.exit 6) s) : AW pg G 115 (.loop a42) Q st := by
  refine a02 (Nat × List Int) (fun q st => q.1 ≤ p.code.length ∧ q.2 ++ (p.code.drop q.1).flatMap a7b = b0 ++ p.code.flatMap a7b ∧ q.2.length ≤ b0.length + 100 * q.1 ∧ st.s 1 = .var (eP p) ∧ st.s 5 = .var [owU q.2] ∧ st.s 93 = slJ p.code ∧ st.s 94 = li p.code.length ∧ st.s 95 = li q.1) (fun q => p.code.length - q.1) (0, b0) ⟨by simp, rfl, by simp, h⟩ ?_
  clear h
  rintro ⟨i, b⟩ st K ⟨hi, hm, hl, h⟩ hK
  simp only at hi hm hl h
  by_cases hlt : i < p.code.length
  · rw [List.drop_eq_getElem_cons hlt, List.flatMap_cons, ← List.append_assoc] at hm
    obtain ⟨o1, o2, o3, o4, o5, o6⟩ := hv _ (List.getElem_mem hlt)
    have q1 := a1d p.code[i].ins
    have q2 := a1d p.code[i].args
    have q3 := a17 true p.code[i].dst
    have q4 := a17 true p.code[i].frm
    have q5 := a17 true p.code[i].to
    have hil : (a7b p.code[i]).length ≤ 100 := by
      unfold a7b
      simp only [List.length_append, List.length_cons, List.length_nil]
      omega
    have cw := d78 (G := G) b p.code[i] (by omega) o3.1 o4.1 o1
    simp (disch := omega) [go_sem, a42, h, hlt, eP]
    refine a0s cw rfl rfl rfl (c0s _) ?_
    simp (disch := omega) [go_sem, h, eP]
    exact hK (i + 1, b ++ a7b p.code[i]) _ ⟨by simp only; omega, hm, by simp only [List.length_append]; omega, by simp (disch := omega) [go_sem, h, eP]⟩ (by simp only; omega)
  · obtain rfl : i = p.code.length := by omega
    rw [List.drop_length] at hm
    simp only [List.flatMap_nil, List.append_nil] at hm
    simp (disch := omega) [go_sem, a42, h]
    exact hex _ _ hm (by simp (disch := omega) [go_sem, h])
end
end Go.Ideal.Tryd
end
section
set_option linter.unusedVariables false
set_option linter.unusedSimpArgs false
set_option maxRecDepth 10000
namespace Go.Ideal.Tryd
section
variable {G : Nat → Option Value} {bk : Nat → Nat × Nat} {Q : Exit → St → Prop} {st : St}
theorem d4o (p : Pl) : b7u p = [76, 80] ++ a4q true p.size ++ le2 p.views.length ++ p.views.flatMap vB ++ le2 p.consts.length ++ p.consts.flatMap cB ++ le2 p.weights.length ++ p.weights.flatMap dB ++ le2 p.code.length ++ p.code.flatMap a7b ++ a4q true p.input ++ a4q true p.output := by
  unfold b7u f12
  simp only [List.append_assoc]
  rfl
theorem d1t (hS : Sent3 G bk) (p : Pl) (hp : p.fin) (hsh : ∀ x ∈ p.code, x.ins.length < 2 ^ 37 ∧ x.args.length < 2 ^ 37) (he : c1l p = .nil) : ACalls pg G c7l [.agg (eP p)] (.tup [slU (b7u p), .lit .nilIface]) := by
  refine b8k rfl ?_
  have hf := e08 (G := G) hS p hp hsh
  rw [he] at hf
  simp only [a1p] at hf
  obtain ⟨-, ⟨v1, v2⟩, ⟨c1, c2⟩, ⟨w1, w2⟩, ⟨i1, i2⟩, -⟩ := (b6u p).1 he
  have lv : (p.views.flatMap vB).length ≤ 20 * p.views.length := a7n fun v hv => by
    have h1 := a17 true v.off
    have h2 := a38 v.shape v.wide
    have h3 : v.shape.length ≤ 7 := (v2 v hv).2.1
    simp only [vB, List.length_append]; omega
  have lc : (p.consts.flatMap cB).length ≤ 70000 * p.consts.length := a7n fun t ht => by
    have h1 := b8f (c2 t ht)
    have h2 := a38 t.shape t.wide
    have h3 := b6t t.wide t.data
    unfold cB a29
    rw [List.length_append]; omega
  have lw : (p.weights.flatMap dB).length ≤ 20 * p.weights.length := a7n fun v hv => by
    have h2 := a38 v.shape v.wide
    have h3 : v.shape.length ≤ 7 := (w2 v hv).1
    simp only [dB]; omega
  have li' : (p.code.flatMap a7b).length ≤ 100 * p.code.length := a7n fun v hv => by
    obtain ⟨o1, o2, o3, o4, o5, o6⟩ := i2 v hv
    have q1 := a1d v.ins
    have q2 := a1d v.args
    have q3 := a17 true v.dst
    have q4 := a17 true v.frm
    have q5 := a17 true v.to
    unfold a7b
    simp only [List.length_append, List.length_cons, List.length_nil]
    omega
  have z1 := a17 true p.size
  have z2 := a17 true p.input
  have hle : ∀ k : Int, (le2 k).length = 2 := fun k => rfl
  have hvs : ∀ v ∈ p.views, v.shape.length ≤ 7 := fun v hv => (v2 v hv).2.1
  have hws : ∀ v ∈ p.weights, v.shape.length ≤ 7 := fun v hv => (w2 v hv).1
  obtain ⟨T, hT⟩ : ∃ T, T = b7u p := ⟨_, rfl⟩
  have hT2 := hT.trans (d4o p)
  rw [← hT]
  clear hT
  simp (disch := omega) [go_sem, b5r, eP]
  refine a0w hf rfl rfl ?_
  simp (disch := omega) [go_sem]
  refine a0s (a6a [76, 80] p.size (by simp)) rfl rfl rfl (c0s _) ?_
  simp (disch := omega) [go_sem]
  refine a0s (b6y ([76, 80] ++ a4q true p.size) p.views.length (by simp only [List.length_append, List.length_cons, List.length_nil]; omega)) rfl rfl rfl (c0s _) ?_
  simp (disch := omega) [go_sem]
  refine g0r (p := p) (b0 := [76, 80] ++ a4q true p.size ++ le2 p.views.length) (by simp only [List.length_append, List.length_cons, List.length_nil, hle]; omega) v1 hvs (by simp (disch := omega) [go_sem, eP, le2]) fun s b hb h => ?_
  have hbl : b.length ≤ 2600 := by rw [hb]; simp only [List.length_append, List.length_cons, List.length_nil, hle]; omega
  rw [← hb] at hT2
  clear hb
  simp (disch := omega) [go_sem, h, eP]
  refine a0s (b6y b p.consts.length (by omega)) rfl rfl rfl (c0s _) ?_
  simp (disch := omega) [go_sem, h, eP]
  refine f5x hS (p := p) (b0 := b ++ le2 p.consts.length) (by simp only [List.length_append, hle]; omega) c1 c2 (by simp (disch := omega) [go_sem, h, eP, le2]) fun s b1 hb h => ?_
  have hbl1 : b1.length ≤ 5000000 := by rw [hb]; simp only [List.length_append, hle]; omega
  rw [← hb] at hT2
  clear hb
  simp (disch := omega) [go_sem, h, eP]
  refine a0s (b6y b1 p.weights.length (by omega)) rfl rfl rfl (c0s _) ?_
  simp (disch := omega) [go_sem, h, eP]
  refine f91 (p := p) (b0 := b1 ++ le2 p.weights.length) (by simp only [List.length_append, hle]; omega) w1 hws (by simp (disch := omega) [go_sem, h, eP, le2]) fun s b2 hb h => ?_
  have hbl2 : b2.length ≤ 6000000 := by rw [hb]; simp only [List.length_append, hle]; omega
  rw [← hb] at hT2
  clear hb
  simp (disch := omega) [go_sem, h, eP]
  refine a0s (b6y b2 p.code.length (by omega)) rfl rfl rfl (c0s _) ?_
  simp (disch := omega) [go_sem, h, eP]
  refine f73 (p := p) (b0 := b2 ++ le2 p.code.length) (by simp only [List.length_append, hle]; omega) i1 i2 (by simp (disch := omega) [go_sem, h, eP, le2]) fun s b3 hb h => ?_
  have hbl3 : b3.length ≤ 7000000 := by rw [hb]; simp only [List.length_append, hle]; omega
  rw [← hb] at hT2
  clear hb
  simp (disch := omega) [go_sem, h, eP]
  refine a0s (a6a b3 p.input (by omega)) rfl rfl rfl (c0s _) ?_
  simp (disch := omega) [go_sem, h, eP]
  have cl := a6a (G := G) (b3 ++ a4q true p.input) p.output (by simp only [List.length_append]; omega)
  rw [← hT2] at cl
  refine a0s cl rfl rfl rfl (c0s _) ?_
  simp (disch := omega) [go_sem, h, eP]
end
end Go.Ideal.Tryd
end
section
set_option linter.unusedVariables false
set_option linter.unusedSimpArgs false
set_option maxRecDepth 10000
namespace Go.Ideal.Tryd
def p0 : Pl := ⟨0, [], [], [], [], 0, 0⟩
theorem d1w {p : Pl} (h : e39 p) : p.fin ∧ ∀ x ∈ p.code, x.ins.length < 2 ^ 37 ∧ x.args.length < 2 ^ 37 := by
  obtain ⟨-, ⟨v1, v2⟩, ⟨c1, c2⟩, ⟨w1, w2⟩, ⟨i1, i2⟩, -⟩ := h
  refine ⟨⟨by omega, by omega, by omega, by omega, fun x hx => ?_, fun x hx => ?_, fun x hx => ?_, fun x hx => ?_⟩, fun x hx => ?_⟩
  · have := (v2 x hx).2.1; simp only at this; omega
  · have := b8f (c2 x hx); omega
  · have := (w2 x hx).1; omega
  · obtain ⟨-, -, a, b, -⟩ := i2 x hx; have := a.1; have := b.1; omega
  · obtain ⟨-, -, a, b, -⟩ := i2 x hx; have := a.1; have := b.1; omega
theorem e5q : e39 p0 := by
  refine ⟨by simp [r32, p0], by simp [p0], by simp [p0], by simp [p0], by simp [p0], by simp [r32, p0], by simp [r32, p0]⟩
section
variable {G : Nat → Option Value} {bk : Nat → Nat × Nat} {Q : Exit → St → Prop} {st : St}
theorem d9g (hS : Sent3 G bk) : ACalls pg G b4f [] (lb true) := by
  refine a9c rfl ?_
  have hf := d1w e5q
  have hb := d1t (G := G) hS p0 hf.1 hf.2 ((b6u p0).2 e5q)
  have e : AV.agg (eP p0) = .agg [.lit (.int .i64 0), .sl 0 [], .sl 0 [], .sl 0 [], .sl 0 [], .lit (.int .i64 0), .lit (.int .i64 0)] := rfl
  have hl : (b7u p0).length = 22 := by rfl
  rw [e] at hb
  generalize b7u p0 = b at *
  simp (disch := omega) [go_sem, a6c]
  refine b0s hb rfl (by simp (disch := omega) [go_sem]) ?_
  simp (disch := omega) [go_sem, hl]
theorem c9r (hS : Sent5 G bk) (d : List Int) (hB : a2l d) (hd : d.length < 2 ^ 62) : ACalls pg G a8u [slU d] (lb true) := by
  refine a6l rfl ?_
  simp (disch := omega) [go_sem, a3x]
  refine a0w (d9g hS.three) rfl rfl ?_
  by_cases hdl : 2000 < d.length
  · have hdl' : (2000 : Int) < d.length := by omega
    simp (disch := omega) [go_sem, hdl']
  · have hdl' : ¬ (2000 : Int) < d.length := by omega
    have hrd := d9b (G := G) hS hB (by omega)
    simp (disch := omega) [go_sem, hdl']
    refine b0s hrd (by simp [go_sem, eP]) (by simp (disch := omega) [go_sem]) ?_
    cases hrn : (b5i d).2.isNil with
    | true =>
      obtain ⟨q3, q4⟩ := d2i hB hrn
      obtain ⟨q5, q6⟩ := d1w ((b6u _).1 q3)
      have hbk := d1t (G := G) hS.three (b5i d).1 q5 q6 q3
      rw [q4] at hbk
      have hsb := d6h (G := G) d hd
      generalize b5i d = q at *
      obtain ⟨b, e⟩ := q
      simp only at hrn hbk
      simp (disch := omega) [go_sem, hrn, eP]
      refine b0s hbk rfl (by simp (disch := omega) [go_sem]) ?_
      simp (disch := omega) [go_sem]
      refine a0w hsb rfl rfl ?_
      simp (disch := omega) [go_sem]
    | false =>
      have hz : (b5i d).1 = p0 := by
        unfold b5i at hrn ⊢
        split at hrn
        · cases hrn
        · rename_i h; rw [if_neg h]; rfl
      rw [hz]
      generalize (b5i d).2 = e at *
      simp (disch := omega) [go_sem, hrn, eP, p0, fm]
end
end Go.Ideal.Tryd
end
