/- Part Pu of the proof: a machine with trees for values, its soundness, and walks on it. -/
import Derived.Test.YtfdhkijgolgnfaaGreatDoorPt
import Derived.Test.YtfdhkijgolgnfaaGreatDoorPo
import Derived.Test.YtfdhkijgolgnfaaGreatDoorPb
import Derived.Test.YtfdhkijgolgnfaaGreatDoorPj
section
set_option linter.unusedVariables false
set_option linter.unusedSimpArgs false
set_option maxRecDepth 10000
namespace Go.Ideal.Tryz
theorem a23 {α : Type} {f : α → List Int} {m : Nat} : ∀ {l : List α}, (∀ x ∈ l, (f x).length ≤ m) → (l.flatMap f).length ≤ m * l.length
  | [], _ => by simp
  | x :: l, h => by
    have h1 := h x (by simp)
    have h2 := a23 (l := l) fun y hy => h y (by simp [hy])
    simp only [List.flatMap_cons, List.length_append, List.length_cons, Nat.mul_succ]
    omega
def vB (v : Vw) : List Int := a45 true v.off ++ a3e v.shape v.wide
def cB (t : Tn) : List Int := a3a t.shape t.wide t.data
def dB (d : Ds) : List Int := a3e d.shape d.wide
section
variable {G : Nat → Option Value} {bk : Nat → Nat × Nat} {Q : Exit → St → Prop} {st : St}
theorem h2d {p : Pl} {b0 : List Int} (hb : b0.length < 2 ^ 20) (h1 : p.views.length ≤ 128) (hv : ∀ v ∈ p.views, v.shape.length ≤ 7) (h : st.s 1 = .var (eP p) ∧ st.s 5 = .var [owU b0] ∧ st.s 33 = slV p.views ∧ st.s 34 = li p.views.length ∧ st.s 35 = li 0)
    (hex : ∀ s b, b = b0 ++ p.views.flatMap vB → s.s 1 = .var (eP p) ∧ s.s 5 = .var [owU b] → Q (.exit 0) s) : AW pg G 115 (.loop a58) Q st := by
  refine a0u (Nat × List Int) (fun q st => q.1 ≤ p.views.length ∧ q.2 ++ (p.views.drop q.1).flatMap vB = b0 ++ p.views.flatMap vB ∧ q.2.length ≤ b0.length + 20 * q.1 ∧ st.s 1 = .var (eP p) ∧ st.s 5 = .var [owU q.2] ∧ st.s 33 = slV p.views ∧ st.s 34 = li p.views.length ∧ st.s 35 = li q.1) (fun q => p.views.length - q.1) (0, b0) ⟨by simp, rfl, by simp, h⟩ ?_
  clear h
  rintro ⟨i, b⟩ st K ⟨hi, hm, hl, h⟩ hK
  simp only at hi hm hl h
  by_cases hlt : i < p.views.length
  · rw [List.drop_eq_getElem_cons hlt, List.flatMap_cons, ← List.append_assoc] at hm
    have hs := hv _ (List.getElem_mem hlt)
    have hp := a07 true p.views[i].off
    have hd := a21 p.views[i].shape p.views[i].wide
    simp (disch := omega) [go_sem, a58, h, hlt, eP]
    refine a0o (a7z b p.views[i].off (by omega)) rfl rfl rfl (c6i _) ?_
    simp (disch := omega) [go_sem, h, eP]
    refine a0o (e4y (b ++ a45 true p.views[i].off) p.views[i].shape p.views[i].wide (by simp only [List.length_append]; omega) (by omega)) rfl rfl rfl (c6i _) ?_
    simp (disch := omega) [go_sem, h, eP]
    exact hK (i + 1, b ++ vB p.views[i]) _ ⟨by simp only; omega, hm, by simp only [List.length_append, vB]; omega, by simp (disch := omega) [go_sem, h, eP, vB]⟩ (by simp only; omega)
  · obtain rfl : i = p.views.length := by omega
    rw [List.drop_length] at hm
    simp only [List.flatMap_nil, List.append_nil] at hm
    simp (disch := omega) [go_sem, a58, h]
    exact hex _ _ hm (by simp (disch := omega) [go_sem, h])
theorem g8v (hS : Sent3 G bk) {p : Pl} {b0 : List Int} (hb : b0.length < 2 ^ 20) (h1 : p.consts.length ≤ 64) (hv : ∀ t ∈ p.consts, a5k t.shape t.wide t.data = .nil) (h : st.s 1 = .var (eP p) ∧ st.s 5 = .var [owU b0] ∧ st.s 54 = slT p.consts ∧ st.s 55 = li p.consts.length ∧ st.s 56 = li 0)
    (hex : ∀ s b, b = b0 ++ p.consts.flatMap cB → s.s 1 = .var (eP p) ∧ s.s 5 = .var [owU b] → Q (.exit 2) s) : AW pg G 115 (.loop a50) Q st := by
  refine a0u (Nat × List Int) (fun q st => q.1 ≤ p.consts.length ∧ q.2 ++ (p.consts.drop q.1).flatMap cB = b0 ++ p.consts.flatMap cB ∧ q.2.length ≤ b0.length + 70000 * q.1 ∧ st.s 1 = .var (eP p) ∧ st.s 5 = .var [owU q.2] ∧ st.s 54 = slT p.consts ∧ st.s 55 = li p.consts.length ∧ st.s 56 = li q.1) (fun q => p.consts.length - q.1) (0, b0) ⟨by simp, rfl, by simp, h⟩ ?_
  clear h
  rintro ⟨i, b⟩ st K ⟨hi, hm, hl, h⟩ hK
  simp only at hi hm hl h
  by_cases hlt : i < p.consts.length
  · rw [List.drop_eq_getElem_cons hlt, List.flatMap_cons, ← List.append_assoc] at hm
    have hs := hv _ (List.getElem_mem hlt)
    have hd := a21 p.consts[i].shape p.consts[i].wide
    have hr := c0n p.consts[i].wide p.consts[i].data
    have hlen := c0h hs
    have htb : (cB p.consts[i]).length ≤ 70000 := by
      unfold cB a3a
      rw [List.length_append]
      omega
    have ct := e6s (G := G) hS p.consts[i].shape p.consts[i].wide p.consts[i].data (by omega) hs
    have ec : a3a p.consts[i].shape p.consts[i].wide p.consts[i].data = cB p.consts[i] := rfl
    rw [ec] at ct
    generalize cB p.consts[i] = tb at *
    simp (disch := omega) [go_sem, a50, h, hlt, eP]
    refine a7w [(5, st.ep 5)] (by simp) (by simp (disch := omega) [go_sem, h]) ?_
    simp (disch := omega) [go_sem, h, hlt]
    refine a16 ct rfl (b3i _) (by simp) [66, 65] (by simp) (by simp (disch := omega) [go_sem, h]) ?_
    simp (disch := omega) [go_sem, h]
    refine a1q (by decide) fun s2 hs2 hep => ?_
    simp (disch := omega) [go_sem, hs2, hep, h]
    exact hK (i + 1, b ++ tb) _ ⟨by simp only; omega, hm, by simp only [List.length_append]; omega, by simp (disch := omega) [go_sem, hs2, hep, h, eP]⟩ (by simp only; omega)
  · obtain rfl : i = p.consts.length := by omega
    rw [List.drop_length] at hm
    simp only [List.flatMap_nil, List.append_nil] at hm
    simp (disch := omega) [go_sem, a50, h]
    exact hex _ _ hm (by simp (disch := omega) [go_sem, h])
theorem h00 {p : Pl} {b0 : List Int} (hb : b0.length < 2 ^ 25) (h1 : p.weights.length ≤ 8) (hv : ∀ v ∈ p.weights, v.shape.length ≤ 7) (h : st.s 1 = .var (eP p) ∧ st.s 5 = .var [owU b0] ∧ st.s 77 = slD p.weights ∧ st.s 78 = li p.weights.length ∧ st.s 79 = li 0)
    (hex : ∀ s b, b = b0 ++ p.weights.flatMap dB → s.s 1 = .var (eP p) ∧ s.s 5 = .var [owU b] → Q (.exit 4) s) : AW pg G 115 (.loop a5z) Q st := by
  refine a0u (Nat × List Int) (fun q st => q.1 ≤ p.weights.length ∧ q.2 ++ (p.weights.drop q.1).flatMap dB = b0 ++ p.weights.flatMap dB ∧ q.2.length ≤ b0.length + 20 * q.1 ∧ st.s 1 = .var (eP p) ∧ st.s 5 = .var [owU q.2] ∧ st.s 77 = slD p.weights ∧ st.s 78 = li p.weights.length ∧ st.s 79 = li q.1) (fun q => p.weights.length - q.1) (0, b0) ⟨by simp, rfl, by simp, h⟩ ?_
  clear h
  rintro ⟨i, b⟩ st K ⟨hi, hm, hl, h⟩ hK
  simp only at hi hm hl h
  by_cases hlt : i < p.weights.length
  · rw [List.drop_eq_getElem_cons hlt, List.flatMap_cons, ← List.append_assoc] at hm
    have hs := hv _ (List.getElem_mem hlt)
    have hd := a21 p.weights[i].shape p.weights[i].wide
    simp (disch := omega) [go_sem, a5z, h, hlt, eP]
    refine a0o (e4y b p.weights[i].shape p.weights[i].wide (by omega) (by omega)) rfl rfl rfl (c6i _) ?_
    simp (disch := omega) [go_sem, h, eP]
    exact hK (i + 1, b ++ dB p.weights[i]) _ ⟨by simp only; omega, hm, by simp only [List.length_append, dB]; omega, by simp (disch := omega) [go_sem, h, eP, dB]⟩ (by simp only; omega)
  · obtain rfl : i = p.weights.length := by omega
    rw [List.drop_length] at hm
    simp only [List.flatMap_nil, List.append_nil] at hm
    simp (disch := omega) [go_sem, a5z, h]
    exact hex _ _ hm (by simp (disch := omega) [go_sem, h])
theorem h0a {p : Pl} {b0 : List Int} (hb : b0.length < 2 ^ 26) (h1 : p.code.length ≤ 2048) (hv : ∀ v ∈ p.code, e30 v) (h : st.s 1 = .var (eP p) ∧ st.s 5 = .var [owU b0] ∧ st.s 93 = slJ p.code ∧ st.s 94 = li p.code.length ∧ st.s 95 = li 0)
    (hex : ∀ s b, b = b0 ++ p.code.flatMap a03 → s.s 1 = .var (eP p) ∧ s.s 5 = .var [owU b] → Q (.exit 6) s) : AW pg G 115 (.loop a54) Q st := by
  refine a0u (Nat × List Int) (fun q st => q.1 ≤ p.code.length ∧ q.2 ++ (p.code.drop q.1).flatMap a03 = b0 ++ p.code.flatMap a03 ∧ q.2.length ≤ b0.length + 100 * q.1 ∧ st.s 1 = .var (eP p) ∧ st.s 5 = .var [owU q.2] ∧ st.s 93 = slJ p.code ∧ st.s 94 = li p.code.length ∧ st.s 95 = li q.1) (fun q => p.code.length - q.1) (0, b0) ⟨by simp, rfl, by simp, h⟩ ?_
  clear h
  rintro ⟨i, b⟩ st K ⟨hi, hm, hl, h⟩ hK
  simp only at hi hm hl h
  by_cases hlt : i < p.code.length
  · rw [List.drop_eq_getElem_cons hlt, List.flatMap_cons, ← List.append_assoc] at hm
    obtain ⟨o1, o2, o3, o4, o5, o6⟩ := hv _ (List.getElem_mem hlt)
    have q1 := a04 p.code[i].ins
    have q2 := a04 p.code[i].args
    have q3 := a07 true p.code[i].dst
    have q4 := a07 true p.code[i].frm
    have q5 := a07 true p.code[i].to
    have hil : (a03 p.code[i]).length ≤ 100 := by
      unfold a03
      simp only [List.length_append, List.length_cons, List.length_nil]
      omega
    have cw := e1b (G := G) b p.code[i] (by omega) o3.1 o4.1 o1
    simp (disch := omega) [go_sem, a54, h, hlt, eP]
    refine a0o cw rfl rfl rfl (c6i _) ?_
    simp (disch := omega) [go_sem, h, eP]
    exact hK (i + 1, b ++ a03 p.code[i]) _ ⟨by simp only; omega, hm, by simp only [List.length_append]; omega, by simp (disch := omega) [go_sem, h, eP]⟩ (by simp only; omega)
  · obtain rfl : i = p.code.length := by omega
    rw [List.drop_length] at hm
    simp only [List.flatMap_nil, List.append_nil] at hm
    simp (disch := omega) [go_sem, a54, h]
    exact hex _ _ hm (by simp (disch := omega) [go_sem, h])
end
end Go.Ideal.Tryz
end
section
set_option linter.unusedVariables false
set_option linter.unusedSimpArgs false
set_option maxRecDepth 10000
namespace Go.Ideal.Tryz
section
variable {G : Nat → Option Value} {bk : Nat → Nat × Nat} {Q : Exit → St → Prop} {st : St}
theorem c4z (p : Pl) : a4c p = [76, 80] ++ a45 true p.size ++ le2 p.views.length ++ p.views.flatMap vB ++ le2 p.consts.length ++ p.consts.flatMap cB ++ le2 p.weights.length ++ p.weights.flatMap dB ++ le2 p.code.length ++ p.code.flatMap a03 ++ a45 true p.input ++ a45 true p.output := by
  unfold a4c g4u
  simp only [List.append_assoc]
  rfl
theorem e0x (hS : Sent3 G bk) (p : Pl) (hp : p.fin) (hsh : ∀ x ∈ p.code, x.ins.length < 2 ^ 37 ∧ x.args.length < 2 ^ 37) (he : b71 p = .nil) : ACalls pg G c2m [.agg (eP p)] (.tup [slU (a4c p), .lit .nilIface]) := by
  refine b3j rfl ?_
  have hf := e45 (G := G) hS p hp hsh
  rw [he] at hf
  simp only [a1j] at hf
  obtain ⟨-, ⟨v1, v2⟩, ⟨c1, c2⟩, ⟨w1, w2⟩, ⟨i1, i2⟩, -⟩ := (b4m p).1 he
  have lv : (p.views.flatMap vB).length ≤ 20 * p.views.length := a23 fun v hv => by
    have h1 := a07 true v.off
    have h2 := a21 v.shape v.wide
    have h3 : v.shape.length ≤ 7 := (v2 v hv).2.1
    simp only [vB, List.length_append]; omega
  have lc : (p.consts.flatMap cB).length ≤ 70000 * p.consts.length := a23 fun t ht => by
    have h1 := c0h (c2 t ht)
    have h2 := a21 t.shape t.wide
    have h3 := c0n t.wide t.data
    unfold cB a3a
    rw [List.length_append]; omega
  have lw : (p.weights.flatMap dB).length ≤ 20 * p.weights.length := a23 fun v hv => by
    have h2 := a21 v.shape v.wide
    have h3 : v.shape.length ≤ 7 := (w2 v hv).1
    simp only [dB]; omega
  have li' : (p.code.flatMap a03).length ≤ 100 * p.code.length := a23 fun v hv => by
    obtain ⟨o1, o2, o3, o4, o5, o6⟩ := i2 v hv
    have q1 := a04 v.ins
    have q2 := a04 v.args
    have q3 := a07 true v.dst
    have q4 := a07 true v.frm
    have q5 := a07 true v.to
    unfold a03
    simp only [List.length_append, List.length_cons, List.length_nil]
    omega
  have z1 := a07 true p.size
  have z2 := a07 true p.input
  have hle : ∀ k : Int, (le2 k).length = 2 := fun k => rfl
  have hvs : ∀ v ∈ p.views, v.shape.length ≤ 7 := fun v hv => (v2 v hv).2.1
  have hws : ∀ v ∈ p.weights, v.shape.length ≤ 7 := fun v hv => (w2 v hv).1
  obtain ⟨T, hT⟩ : ∃ T, T = a4c p := ⟨_, rfl⟩
  have hT2 := hT.trans (c4z p)
  rw [← hT]
  clear hT
  simp (disch := omega) [go_sem, b3x, eP]
  refine a0g hf rfl rfl ?_
  simp (disch := omega) [go_sem]
  refine a0o (a7z [76, 80] p.size (by simp)) rfl rfl rfl (c6i _) ?_
  simp (disch := omega) [go_sem]
  refine a0o (c4x ([76, 80] ++ a45 true p.size) p.views.length (by simp only [List.length_append, List.length_cons, List.length_nil]; omega)) rfl rfl rfl (c6i _) ?_
  simp (disch := omega) [go_sem]
  refine h2d (p := p) (b0 := [76, 80] ++ a45 true p.size ++ le2 p.views.length) (by simp only [List.length_append, List.length_cons, List.length_nil, hle]; omega) v1 hvs (by simp (disch := omega) [go_sem, eP, le2]) fun s b hb h => ?_
  have hbl : b.length ≤ 2600 := by rw [hb]; simp only [List.length_append, List.length_cons, List.length_nil, hle]; omega
  rw [← hb] at hT2
  clear hb
  simp (disch := omega) [go_sem, h, eP]
  refine a0o (c4x b p.consts.length (by omega)) rfl rfl rfl (c6i _) ?_
  simp (disch := omega) [go_sem, h, eP]
  refine g8v hS (p := p) (b0 := b ++ le2 p.consts.length) (by simp only [List.length_append, hle]; omega) c1 c2 (by simp (disch := omega) [go_sem, h, eP, le2]) fun s b1 hb h => ?_
  have hbl1 : b1.length ≤ 5000000 := by rw [hb]; simp only [List.length_append, hle]; omega
  rw [← hb] at hT2
  clear hb
  simp (disch := omega) [go_sem, h, eP]
  refine a0o (c4x b1 p.weights.length (by omega)) rfl rfl rfl (c6i _) ?_
  simp (disch := omega) [go_sem, h, eP]
  refine h00 (p := p) (b0 := b1 ++ le2 p.weights.length) (by simp only [List.length_append, hle]; omega) w1 hws (by simp (disch := omega) [go_sem, h, eP, le2]) fun s b2 hb h => ?_
  have hbl2 : b2.length ≤ 6000000 := by rw [hb]; simp only [List.length_append, hle]; omega
  rw [← hb] at hT2
  clear hb
  simp (disch := omega) [go_sem, h, eP]
  refine a0o (c4x b2 p.code.length (by omega)) rfl rfl rfl (c6i _) ?_
  simp (disch := omega) [go_sem, h, eP]
  refine h0a (p := p) (b0 := b2 ++ le2 p.code.length) (by simp only [List.length_append, hle]; omega) i1 i2 (by simp (disch := omega) [go_sem, h, eP, le2]) fun s b3 hb h => ?_
  have hbl3 : b3.length ≤ 7000000 := by rw [hb]; simp only [List.length_append, hle]; omega
  rw [← hb] at hT2
  clear hb
  simp (disch := omega) [go_sem, h, eP]
  refine a0o (a7z b3 p.input (by omega)) rfl rfl rfl (c6i _) ?_
  simp (disch := omega) [go_sem, h, eP]
  have cl := a7z (G := G) (b3 ++ a45 true p.input) p.output (by simp only [List.length_append]; omega)
  rw [← hT2] at cl
  refine a0o cl rfl rfl rfl (c6i _) ?_
  simp (disch := omega) [go_sem, h, eP]
theorem e51 (hS : Sent3 G bk) (p : Pl) (hp : p.fin) (hsh : ∀ x ∈ p.code, x.ins.length < 2 ^ 37 ∧ x.args.length < 2 ^ 37) (he : b71 p ≠ .nil) : ACalls pg G c2m [.agg (eP p)] (.tup [owU [], a1j bk (b71 p)]) := by
  refine b3j rfl ?_
  have hf := e45 (G := G) hS p hp hsh
  have hn : (b71 p).isNil = false := by
    cases h : (b71 p).isNil
    · rfl
    · exact absurd (a2x.1 h) he
  generalize b71 p = e at *
  simp (disch := omega) [go_sem, b3x, eP]
  refine a3b hf (c1p _) (by simp (disch := omega) [go_sem]) ?_
  simp (disch := omega) [go_sem, hn]
end
end Go.Ideal.Tryz
end
section
set_option linter.unusedVariables false
set_option linter.unusedSimpArgs false
set_option maxRecDepth 10000
namespace Go.Ideal.Tryz
def p0 : Pl := ⟨0, [], [], [], [], 0, 0⟩
theorem e7m {p : Pl} (h : e8p p) : p.fin ∧ ∀ x ∈ p.code, x.ins.length < 2 ^ 37 ∧ x.args.length < 2 ^ 37 := by
  obtain ⟨-, ⟨v1, v2⟩, ⟨c1, c2⟩, ⟨w1, w2⟩, ⟨i1, i2⟩, -⟩ := h
  refine ⟨⟨by omega, by omega, by omega, by omega, fun x hx => ?_, fun x hx => ?_, fun x hx => ?_, fun x hx => ?_⟩, fun x hx => ?_⟩
  · have := (v2 x hx).2.1; simp only at this; omega
  · have := c0h (c2 x hx); omega
  · have := (w2 x hx).1; omega
  · obtain ⟨-, -, a, b, -⟩ := i2 x hx; have := a.1; have := b.1; omega
  · obtain ⟨-, -, a, b, -⟩ := i2 x hx; have := a.1; have := b.1; omega
theorem g2j : e8p p0 := by
  refine ⟨by simp [r32, p0], by simp [p0], by simp [p0], by simp [p0], by simp [p0], by simp [r32, p0], by simp [r32, p0]⟩
theorem d42 {p : Pl} (h : e8p p) : a1l (a4c p) := by
  rw [c4z]
  have hd : ∀ (sh : List Int) (w : Bool), a1l (a3e sh w) := fun sh w => by
    unfold a3e
    exact a0t (a := [_]) (b4n _) (a12 fun k _ => a9h k)
  refine a0t (a0t (a0t (a0t (a0t (a0t (a0t (a0t (a0t (a0t (a0t ?_ (a1h _ _)) (a9h _)) (a12 fun v _ => a0t (a1h _ _) (hd _ _))) (a9h _)) (a12 fun t _ => d6u _ _ _)) (a9h _)) (a12 fun d _ => hd _ _)) (a9h _)) (a12 fun i hi => ?_)) (a1h _ _)) (a1h _ _)
  · intro x hx
    simp only [List.mem_cons, List.not_mem_nil, or_false] at hx
    rcases hx with rfl | rfl <;> omega
  · have ho := (h.2.2.2.2.1.2 i hi).1
    unfold a03
    refine a0t (fun x hx => ?_) (a0t (a1h _ _) (a0t (a0t (a := [_]) (b4n _) (a12 fun k _ => a1h _ k)) (a0t (a0t (a := [_]) (b4n _) (a12 fun k _ => a1h _ k)) (a0t (a1h _ _) (a1h _ _)))))
    simp only [List.mem_singleton] at hx
    rw [hx]; exact ho
section
variable {G : Nat → Option Value} {bk : Nat → Nat × Nat} {Q : Exit → St → Prop} {st : St}
theorem f0m (hS : Sent3 G bk) : ACalls pg G b9c [] (lb true) := by
  refine b3e rfl ?_
  have hf := e7m g2j
  have hb := e0x (G := G) hS p0 hf.1 hf.2 ((b4m p0).2 g2j)
  have e : AV.agg (eP p0) = .agg [.lit (.int .i64 0), .sl 0 [], .sl 0 [], .sl 0 [], .sl 0 [], .lit (.int .i64 0), .lit (.int .i64 0)] := rfl
  have hl : (a4c p0).length = 22 := by rfl
  rw [e] at hb
  generalize a4c p0 = b at *
  simp (disch := omega) [go_sem, a7o]
  refine a3b hb rfl (by simp (disch := omega) [go_sem]) ?_
  simp (disch := omega) [go_sem, hl]
end
end Go.Ideal.Tryz
end
section
set_option linter.unusedVariables false
set_option linter.unusedSimpArgs false
set_option maxRecDepth 10000
namespace Go.Ideal.Tryz
structure Bnd (p : Pl) (m most : Nat) : Prop where
  ok : m ≤ most → e8p p
  bad : most < m → b71 p = .s 2
  fin : p.fin
  sh : ∀ x ∈ p.code, x.ins.length < 2 ^ 37 ∧ x.args.length < 2 ^ 37
theorem r0 : r32 0 := by simp [r32]
theorem d45 {p : Pl} (h : e8p p) : (a4c p).length < 2 ^ 39 := by
  obtain ⟨-, ⟨v1, v2⟩, ⟨c1, c2⟩, ⟨w1, w2⟩, ⟨i1, i2⟩, -⟩ := h
  have lv : (p.views.flatMap vB).length ≤ 20 * p.views.length := a23 fun v hv => by
    have h1 := a07 true v.off
    have h2 := a21 v.shape v.wide
    have h3 : v.shape.length ≤ 7 := (v2 v hv).2.1
    simp only [vB, List.length_append]; omega
  have lc : (p.consts.flatMap cB).length ≤ 70000 * p.consts.length := a23 fun t ht => by
    have h1 := c0h (c2 t ht)
    have h2 := a21 t.shape t.wide
    have h3 := c0n t.wide t.data
    unfold cB a3a
    rw [List.length_append]; omega
  have lw : (p.weights.flatMap dB).length ≤ 20 * p.weights.length := a23 fun v hv => by
    have h2 := a21 v.shape v.wide
    have h3 : v.shape.length ≤ 7 := (w2 v hv).1
    simp only [dB]; omega
  have li' : (p.code.flatMap a03).length ≤ 100 * p.code.length := a23 fun v hv => by
    obtain ⟨o1, o2, o3, o4, o5, o6⟩ := i2 v hv
    have q1 := a04 v.ins
    have q2 := a04 v.args
    have q3 := a07 true v.dst
    have q4 := a07 true v.frm
    have q5 := a07 true v.to
    unfold a03
    simp only [List.length_append, List.length_cons, List.length_nil]
    omega
  have z1 := a07 true p.size
  have z2 := a07 true p.input
  have z3 := a07 true p.output
  have hle : ∀ k : Int, (le2 k).length = 2 := fun k => rfl
  rw [c4z]
  simp only [List.length_append, List.length_cons, List.length_nil, hle]
  omega
section
variable {G : Nat → Option Value} {bk : Nat → Nat × Nat} {Q : Exit → St → Prop} {st : St}
end
end Go.Ideal.Tryz
end
section
set_option linter.unusedVariables false
set_option linter.unusedSimpArgs false
set_option maxRecDepth 10000
namespace Go.Ideal.Tryz
def c5a (m : Nat) (t : Tn) : Bool := decide (t.shape.length ≤ 8) && decide (t.data.length ≤ m)
def d9u (k m : Nat) (ts : List Tn) : Bool := decide (ts.length ≤ k) && ts.all (c5a m)
def b6r (v : Vw) : Bool := decide (v.shape.length ≤ 8)
def b6o (v : Ds) : Bool := decide (v.shape.length ≤ 8)
def a6f (v : In) : Bool := decide (v.ins.length ≤ 10) && decide (v.args.length ≤ 10)
def c38 (p : Pl) : Bool := decide (p.views.length ≤ 140) && decide (p.weights.length ≤ 10) && decide (p.code.length ≤ 300) && d9u 70 300 p.consts && p.views.all b6r && p.weights.all b6o && p.code.all a6f
@[go_sem] theorem h2t {xs : List Vw} {i : Nat} (h : i < xs.length) : ((fm eV xs).drop (i * 3 + 1)).take 2 = [slI xs[i].shape, lb xs[i].wide] := by
  have := congrArg (List.drop 1) (g2q h)
  rw [List.drop_take, List.drop_drop] at this
  exact this
@[go_sem] theorem h9d {xs : List In} {i : Nat} (h : i < xs.length) : (fm eI xs)[i * 6]? = some (li xs[i].op) := e26 (f := eI) (k := 6) (j := 0) (fun _ => rfl) h (by omega)
@[go_sem] theorem h9g {xs : List In} {i : Nat} (h : i < xs.length) : (fm eI xs)[i * 6 + 2]? = some (slI xs[i].ins) := e26 (f := eI) (k := 6) (fun _ => rfl) h (by omega)
@[go_sem] theorem h9o {xs : List In} {i : Nat} (h : i < xs.length) : (fm eI xs)[i * 6 + 3]? = some (slI xs[i].args) := e26 (f := eI) (k := 6) (fun _ => rfl) h (by omega)
section
variable {G : Nat → Option Value} {bk : Nat → Nat × Nat} {Q : Exit → St → Prop} {st : St}
theorem e2i (ts : List Tn) (k m : Nat) (hn : ts.length < 2 ^ 62) (hf : ∀ x ∈ ts, x.shape.length < 2 ^ 62 ∧ x.data.length < 2 ^ 62) : ACalls pg G b5s [slT ts, li k, li m] (lb (d9u k m ts)) := by
  refine b0s rfl ?_
  by_cases h70 : ts.length ≤ k
  · have h70' : ¬ (k : Int) < ts.length := by omega
    simp (disch := omega) [go_sem, a3v, h70']
    refine a0u Nat (fun i st => i ≤ ts.length ∧ (ts.drop i).all (c5a m) = ts.all (c5a m) ∧ st.s 0 = slT ts ∧ st.s 1 = li k ∧ st.s 2 = li m ∧ st.s 7 = li i) (fun i => ts.length - i) 0 ⟨by simp, rfl, by simp (disch := omega) [go_sem]⟩ ?_
    rintro i st K ⟨hi, hm, h⟩ hK
    by_cases hlt : i < ts.length
    · rw [List.drop_eq_getElem_cons hlt, List.all_cons] at hm
      have hfi := hf _ (List.getElem_mem hlt)
      have c := f1s (G := G) ts[i].shape ts[i].wide ts[i].data m hfi.1
      simp (disch := omega) [go_sem, a3g, h, hlt]
      refine a0g c rfl rfl ?_
      cases hb : (decide (ts[i].shape.length ≤ 8) && decide (ts[i].data.length ≤ m)) with
      | true =>
        rw [show c5a m ts[i] = true from hb] at hm
        simp (disch := omega) [go_sem, h]
        exact hK (i + 1) _ ⟨by omega, hm, by simp (disch := omega) [go_sem, h]⟩ (by omega)
      | false =>
        rw [show c5a m ts[i] = false from hb] at hm
        have hm' : ts.all (c5a m) = false := hm.symm
        simp (disch := omega) [go_sem, h, d9u, hm']
    · obtain rfl : i = ts.length := by omega
      rw [List.drop_length] at hm
      have hm' : ts.all (c5a m) = true := hm.symm
      simp (disch := omega) [go_sem, a3g, h, d9u, h70, hm']
  · have h70' : (k : Int) < ts.length := by omega
    simp (disch := omega) [go_sem, a3v, h70', d9u, h70]
theorem e7w {p : Pl} (hf : p.fin) (h : st.s 1 = .var (eP p) ∧ st.s 3 = li 0) (hbad : p.views.all b6r = false → ∀ s, s.s 2 = lb false → Q .ret s) (hex : p.views.all b6r = true → ∀ s, s.s 1 = .var (eP p) → Q (.exit 0) s) : AW pg G 82 (.loop a17) Q st := by
  refine a0u Nat (fun i st => i ≤ p.views.length ∧ (p.views.drop i).all b6r = p.views.all b6r ∧ st.s 1 = .var (eP p) ∧ st.s 3 = li i) (fun i => p.views.length - i) 0 ⟨by simp, rfl, by simp (disch := omega) [go_sem, h]⟩ ?_
  clear h
  rintro i st K ⟨hi, hm, h⟩ hK
  have hl := hf.vl
  by_cases hlt : i < p.views.length
  · rw [List.drop_eq_getElem_cons hlt, List.all_cons] at hm
    have c := e0k (G := G) p.views[i].shape p.views[i].wide (hf.vs _ (List.getElem_mem hlt))
    simp (disch := omega) [go_sem, a17, h, hlt, eP]
    refine a0g c rfl rfl ?_
    cases hb : decide (p.views[i].shape.length ≤ 8) with
    | true =>
      rw [show b6r p.views[i] = true from hb] at hm
      simp (disch := omega) [go_sem, h]
      exact hK (i + 1) _ ⟨by omega, hm, by simp (disch := omega) [go_sem, h, eP]⟩ (by omega)
    | false =>
      rw [show b6r p.views[i] = false from hb] at hm
      simp (disch := omega) [go_sem, h]
      exact hbad hm.symm _ (by simp (disch := omega) [go_sem, h])
  · obtain rfl : i = p.views.length := by omega
    rw [List.drop_length] at hm
    simp (disch := omega) [go_sem, a17, h, eP]
    exact hex hm.symm _ (by simp (disch := omega) [go_sem, h, eP])
theorem e6j {p : Pl} (hf : p.fin) (h : st.s 1 = .var (eP p) ∧ st.s 4 = li 0) (hbad : p.weights.all b6o = false → ∀ s, s.s 2 = lb false → Q .ret s) (hex : p.weights.all b6o = true → ∀ s, s.s 1 = .var (eP p) → Q (.exit 2) s) : AW pg G 82 (.loop a14) Q st := by
  refine a0u Nat (fun i st => i ≤ p.weights.length ∧ (p.weights.drop i).all b6o = p.weights.all b6o ∧ st.s 1 = .var (eP p) ∧ st.s 4 = li i) (fun i => p.weights.length - i) 0 ⟨by simp, rfl, by simp (disch := omega) [go_sem, h]⟩ ?_
  clear h
  rintro i st K ⟨hi, hm, h⟩ hK
  have hl := hf.wl
  by_cases hlt : i < p.weights.length
  · rw [List.drop_eq_getElem_cons hlt, List.all_cons] at hm
    have c := e0k (G := G) p.weights[i].shape p.weights[i].wide (hf.ws _ (List.getElem_mem hlt))
    simp (disch := omega) [go_sem, a14, h, hlt, eP]
    refine a0g c rfl rfl ?_
    cases hb : decide (p.weights[i].shape.length ≤ 8) with
    | true =>
      rw [show b6o p.weights[i] = true from hb] at hm
      simp (disch := omega) [go_sem, h]
      exact hK (i + 1) _ ⟨by omega, hm, by simp (disch := omega) [go_sem, h, eP]⟩ (by omega)
    | false =>
      rw [show b6o p.weights[i] = false from hb] at hm
      simp (disch := omega) [go_sem, h]
      exact hbad hm.symm _ (by simp (disch := omega) [go_sem, h])
  · obtain rfl : i = p.weights.length := by omega
    rw [List.drop_length] at hm
    simp (disch := omega) [go_sem, a14, h, eP]
    exact hex hm.symm _ (by simp (disch := omega) [go_sem, h, eP])
theorem e71 {p : Pl} (hf : p.fin) (h : st.s 1 = .var (eP p) ∧ st.s 5 = li 0) (hbad : p.code.all a6f = false → ∀ s, s.s 2 = lb false → Q .ret s) (hex : p.code.all a6f = true → ∀ s, Q (.exit 4) s) : AW pg G 82 (.loop a1a) Q st := by
  refine a0u Nat (fun i st => i ≤ p.code.length ∧ (p.code.drop i).all a6f = p.code.all a6f ∧ st.s 1 = .var (eP p) ∧ st.s 5 = li i) (fun i => p.code.length - i) 0 ⟨by simp, rfl, by simp (disch := omega) [go_sem, h]⟩ ?_
  clear h
  rintro i st K ⟨hi, hm, h⟩ hK
  have hl := hf.il
  by_cases hlt : i < p.code.length
  · rw [List.drop_eq_getElem_cons hlt, List.all_cons] at hm
    obtain ⟨f1, f2⟩ := hf.is _ (List.getElem_mem hlt)
    by_cases k1 : p.code[i].ins.length ≤ 10
    · have k1' : ¬ (10 : Int) < p.code[i].ins.length := by omega
      by_cases k2 : p.code[i].args.length ≤ 10
      · have k2' : ¬ (10 : Int) < p.code[i].args.length := by omega
        rw [show a6f p.code[i] = true by simp [a6f, k1, k2]] at hm
        simp (disch := omega) [go_sem, a1a, h, hlt, eP, k1', k2']
        exact hK (i + 1) _ ⟨by omega, hm, by simp (disch := omega) [go_sem, h, eP]⟩ (by omega)
      · have k2' : (10 : Int) < p.code[i].args.length := by omega
        rw [show a6f p.code[i] = false by simp [a6f, k2]] at hm
        simp (disch := omega) [go_sem, a1a, h, hlt, eP, k1', k2']
        exact hbad hm.symm _ (by simp (disch := omega) [go_sem, h])
    · have k1' : (10 : Int) < p.code[i].ins.length := by omega
      rw [show a6f p.code[i] = false by simp [a6f, k1]] at hm
      simp (disch := omega) [go_sem, a1a, h, hlt, eP, k1']
      exact hbad hm.symm _ (by simp (disch := omega) [go_sem, h])
  · obtain rfl : i = p.code.length := by omega
    rw [List.drop_length] at hm
    simp (disch := omega) [go_sem, a1a, h, eP]
    exact hex hm.symm _
theorem g26 {p : Pl} (k1 : p.views.length ≤ 140) (k2 : p.weights.length ≤ 10) (k3 : p.code.length ≤ 300) (hb : d9u 70 300 p.consts = true) : c38 p = (p.views.all b6r && p.weights.all b6o && p.code.all a6f) := by
  unfold c38
  rw [decide_eq_true k1, decide_eq_true k2, decide_eq_true k3, hb]
  rfl
theorem e93 (p : Pl) (hf : p.fin) : ACalls pg G c16 [.agg (eP p)] (lb (c38 p)) := by
  refine b48 rfl ?_
  obtain ⟨hl1, hl2, hl3, hl4, -⟩ := id hf
  have cT := e2i (G := G) p.consts 70 300 hf.cl hf.cs
  have rest : ∀ {Q : Exit → St → Prop} {st : St}, st.s 1 = .var (eP p) → ((p.views.all b6r && p.weights.all b6o && p.code.all a6f) = true → ∀ s, s.s 2 = lb true → Q .ret s) → ((p.views.all b6r && p.weights.all b6o && p.code.all a6f) = false → ∀ s, s.s 2 = lb false → Q .ret s) → AW pg G 82 (.seq (.seq (.reg a7n) (.block 0 (.loop a17))) (.seq (.seq (.reg a7m) (.block 2 (.loop a14))) (.seq (.seq (.reg a6e) (.block 4 (.loop a1a))) (.seq (.reg a6s) .ret)))) Q st := by
    intro Q st h ht hfal
    simp (disch := omega) [go_sem, h]
    refine e7w hf (by simp (disch := omega) [go_sem, h]) (fun e s h => ?_) fun e s h => ?_
    · exact hfal (by rw [e]; rfl) _ (by simp (disch := omega) [go_sem, h])
    · simp (disch := omega) [go_sem, h]
      refine e6j hf (by simp (disch := omega) [go_sem, h]) (fun e2 s h => ?_) fun e2 s h => ?_
      · exact hfal (by rw [e, e2]; rfl) _ (by simp (disch := omega) [go_sem, h])
      · simp (disch := omega) [go_sem, h]
        refine e71 hf (by simp (disch := omega) [go_sem, h]) (fun e3 s h => ?_) fun e3 s => ?_
        · exact hfal (by rw [e, e2, e3]; rfl) _ (by simp (disch := omega) [go_sem, h])
        · simp (disch := omega) [go_sem]
          exact ht (by rw [e, e2, e3]; rfl) _ (by simp (disch := omega) [go_sem])
  by_cases k1 : p.views.length ≤ 140
  · have k1' : ¬ (140 : Int) < p.views.length := by omega
    by_cases k2 : p.weights.length ≤ 10
    · have k2' : ¬ (10 : Int) < p.weights.length := by omega
      by_cases k3 : p.code.length ≤ 300
      · have k3' : ¬ (300 : Int) < p.code.length := by omega
        cases hb : d9u 70 300 p.consts with
        | true =>
          rw [hb] at cT
          simp (disch := omega) [go_sem, a1p, eP, k1', k2', k3']
          refine a0g cT rfl rfl ?_
          simp (disch := omega) [go_sem]
          refine rest (by simp (disch := omega) [go_sem, eP]) (fun e s h => ?_) fun e s h => ?_
          · have ew : c38 p = true := by rw [g26 k1 k2 k3 hb]; exact e
            simp (disch := omega) [go_sem, h, ew]
          · have ew : c38 p = false := by rw [g26 k1 k2 k3 hb]; exact e
            simp (disch := omega) [go_sem, h, ew]
        | false =>
          rw [hb] at cT
          simp (disch := omega) [go_sem, a1p, eP, k1', k2', k3']
          refine a0g cT rfl rfl ?_
          simp (disch := omega) [go_sem, c38, hb]
      · have k3' : (300 : Int) < p.code.length := by omega
        simp (disch := omega) [go_sem, a1p, eP, k1', k2', k3', c38, k3]
    · have k2' : (10 : Int) < p.weights.length := by omega
      simp (disch := omega) [go_sem, a1p, eP, k1', k2', c38, k2]
  · have k1' : (140 : Int) < p.views.length := by omega
    simp (disch := omega) [go_sem, a1p, eP, k1', c38, k1]
theorem e40 (a b : In) (ha : a.ins.length < 2 ^ 62) (ha2 : a.args.length < 2 ^ 62) : ACalls pg G b6a [.agg (eI a), .agg (eI b)] (lb (decide (a = b))) := by
  refine b0m rfl ?_
  obtain ⟨o1, d1, i1, a1, f1, t1⟩ := a
  obtain ⟨o2, d2, i2, a2, f2, t2⟩ := b
  simp only at ha ha2
  simp (disch := omega) [go_sem, a5s, eI]
  refine a0g (c9n ha) rfl rfl ?_
  simp (disch := omega) [go_sem]
  refine a0g (c9n ha2) rfl rfl ?_
  by_cases k3 : i1 = i2
  · subst k3
    by_cases k4 : a1 = a2
    · subst k4
      by_cases k1 : o1 = o2
      · subst k1
        by_cases k2 : d1 = d2
        · subst k2
          by_cases k5 : f1 = f2
          · subst k5
            by_cases k6 : t1 = t2 <;> simp (disch := omega) [go_sem, k6, In.mk.injEq]
          · simp (disch := omega) [go_sem, k5, In.mk.injEq]
        · simp (disch := omega) [go_sem, k2, In.mk.injEq]
      · simp (disch := omega) [go_sem, k1, In.mk.injEq]
    · simp (disch := omega) [go_sem, k4, In.mk.injEq]
  · simp (disch := omega) [go_sem, k3, In.mk.injEq]
end
end Go.Ideal.Tryz
end
