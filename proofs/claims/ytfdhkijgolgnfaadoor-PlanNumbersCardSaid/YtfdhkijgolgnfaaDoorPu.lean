/- Part Pu of the proof: a machine with trees for values, its soundness, and walks on it. -/
import Derived.Test.YtfdhkijgolgnfaaDoorPt
import Derived.Test.YtfdhkijgolgnfaaDoorPo

section
set_option linter.unusedVariables false
set_option linter.unusedSimpArgs false
set_option maxRecDepth 10000
namespace Go.Ideal.Tryd
/-! ### plan.Bytes -/
theorem flatMap_le {α : Type} {f : α → List Int} {m : Nat} : ∀ {l : List α}, (∀ x ∈ l, (f x).length ≤ m) → (l.flatMap f).length ≤ m * l.length
  | [], _ => by simp
  | x :: l, h => by
    have h1 := h x (by simp)
    have h2 := flatMap_le (l := l) fun y hy => h y (by simp [hy])
    simp only [List.flatMap_cons, List.length_append, List.length_cons, Nat.mul_succ]
    omega
def vB (v : Vw) : List Int := put1 true v.off ++ dBytes v.shape v.wide
def cB (t : Tn) : List Int := tBytes t.shape t.wide t.data
def dB (d : Ds) : List Int := dBytes d.shape d.wide
section
variable {G : Nat → Option Value} {bk : Nat → Nat × Nat} {Q : Exit → St → Prop} {st : St}
theorem pb_l0 {p : Pl} {b0 : List Int} (hb : b0.length < 2 ^ 20) (h1 : p.views.length ≤ 128) (hv : ∀ v ∈ p.views, v.shape.length ≤ 7) (h : st.s 1 = .var (eP p) ∧ st.s 5 = .var [owU b0] ∧ st.s 33 = slV p.views ∧ st.s 34 = li p.views.length ∧ st.s 35 = li 0)
    (hex : ∀ s b, b = b0 ++ p.views.flatMap vB → s.s 1 = .var (eP p) ∧ s.s 5 = .var [owU b] → Q (.exit 0) s) : AW pg G 115 (.loop plan_Bytes_l0) Q st := by
  refine aw_loop (Nat × List Int) (fun q st => q.1 ≤ p.views.length ∧ q.2 ++ (p.views.drop q.1).flatMap vB = b0 ++ p.views.flatMap vB ∧ q.2.length ≤ b0.length + 20 * q.1 ∧ st.s 1 = .var (eP p) ∧ st.s 5 = .var [owU q.2] ∧ st.s 33 = slV p.views ∧ st.s 34 = li p.views.length ∧ st.s 35 = li q.1) (fun q => p.views.length - q.1) (0, b0) ⟨by simp, rfl, by simp, h⟩ ?_
  clear h
  rintro ⟨i, b⟩ st K ⟨hi, hm, hl, h⟩ hK
  simp only at hi hm hl h
  by_cases hlt : i < p.views.length
  · rw [List.drop_eq_getElem_cons hlt, List.flatMap_cons, ← List.append_assoc] at hm
    have hs := hv _ (List.getElem_mem hlt)
    have hp := put1_len true p.views[i].off
    have hd := dBytes_len p.views[i].shape p.views[i].wide
    simp (disch := omega) [go_sem, plan_Bytes_l0, h, hlt, eP]
    refine clx_pure (number55 b p.views[i].off (by omega)) rfl rfl rfl (ni_w _) ?_
    simp (disch := omega) [go_sem, h, eP]
    refine clx_pure (wdesc95 (b ++ put1 true p.views[i].off) p.views[i].shape p.views[i].wide (by simp only [List.length_append]; omega) (by omega)) rfl rfl rfl (ni_w _) ?_
    simp (disch := omega) [go_sem, h, eP]
    exact hK (i + 1, b ++ vB p.views[i]) _ ⟨by simp only; omega, hm, by simp only [List.length_append, vB]; omega, by simp (disch := omega) [go_sem, h, eP, vB]⟩ (by simp only; omega)
  · obtain rfl : i = p.views.length := by omega
    rw [List.drop_length] at hm
    simp only [List.flatMap_nil, List.append_nil] at hm
    simp (disch := omega) [go_sem, plan_Bytes_l0, h]
    exact hex _ _ hm (by simp (disch := omega) [go_sem, h])
theorem pb_l1 (hS : Sent G bk) {p : Pl} {b0 : List Int} (hb : b0.length < 2 ^ 20) (h1 : p.consts.length ≤ 64) (hv : ∀ t ∈ p.consts, tvErr t.shape t.wide t.data = .nil) (h : st.s 1 = .var (eP p) ∧ st.s 5 = .var [owU b0] ∧ st.s 54 = slT p.consts ∧ st.s 55 = li p.consts.length ∧ st.s 56 = li 0)
    (hex : ∀ s b, b = b0 ++ p.consts.flatMap cB → s.s 1 = .var (eP p) ∧ s.s 5 = .var [owU b] → Q (.exit 2) s) : AW pg G 115 (.loop plan_Bytes_l1) Q st := by
  refine aw_loop (Nat × List Int) (fun q st => q.1 ≤ p.consts.length ∧ q.2 ++ (p.consts.drop q.1).flatMap cB = b0 ++ p.consts.flatMap cB ∧ q.2.length ≤ b0.length + 70000 * q.1 ∧ st.s 1 = .var (eP p) ∧ st.s 5 = .var [owU q.2] ∧ st.s 54 = slT p.consts ∧ st.s 55 = li p.consts.length ∧ st.s 56 = li q.1) (fun q => p.consts.length - q.1) (0, b0) ⟨by simp, rfl, by simp, h⟩ ?_
  clear h
  rintro ⟨i, b⟩ st K ⟨hi, hm, hl, h⟩ hK
  simp only at hi hm hl h
  by_cases hlt : i < p.consts.length
  · rw [List.drop_eq_getElem_cons hlt, List.flatMap_cons, ← List.append_assoc] at hm
    have hs := hv _ (List.getElem_mem hlt)
    have hd := dBytes_len p.consts[i].shape p.consts[i].wide
    have hr := rawB_len p.consts[i].wide p.consts[i].data
    have hlen := tvErr_len hs
    have htb : (cB p.consts[i]).length ≤ 70000 := by
      unfold cB tBytes
      rw [List.length_append]
      omega
    have ct := tbytes56 (G := G) hS p.consts[i].shape p.consts[i].wide p.consts[i].data (by omega) hs
    have ec : tBytes p.consts[i].shape p.consts[i].wide p.consts[i].data = cB p.consts[i] := rfl
    rw [ec] at ct
    generalize cB p.consts[i] = tb at *
    simp (disch := omega) [go_sem, plan_Bytes_l1, h, hlt, eP]
    refine aw_drawV [(5, st.ep 5)] (by simp) (by simp (disch := omega) [go_sem, h]) ?_
    simp (disch := omega) [go_sem, h, hlt]
    refine dCal_pure ct rfl (noImm_owU _) (by simp) [66, 65] (by simp) (by simp (disch := omega) [go_sem, h]) ?_
    simp (disch := omega) [go_sem, h]
    refine dFin_i (by decide) fun s2 hs2 hep => ?_
    simp (disch := omega) [go_sem, hs2, hep, h]
    exact hK (i + 1, b ++ tb) _ ⟨by simp only; omega, hm, by simp only [List.length_append]; omega, by simp (disch := omega) [go_sem, hs2, hep, h, eP]⟩ (by simp only; omega)
  · obtain rfl : i = p.consts.length := by omega
    rw [List.drop_length] at hm
    simp only [List.flatMap_nil, List.append_nil] at hm
    simp (disch := omega) [go_sem, plan_Bytes_l1, h]
    exact hex _ _ hm (by simp (disch := omega) [go_sem, h])
theorem pb_l2 {p : Pl} {b0 : List Int} (hb : b0.length < 2 ^ 25) (h1 : p.weights.length ≤ 8) (hv : ∀ v ∈ p.weights, v.shape.length ≤ 7) (h : st.s 1 = .var (eP p) ∧ st.s 5 = .var [owU b0] ∧ st.s 77 = slD p.weights ∧ st.s 78 = li p.weights.length ∧ st.s 79 = li 0)
    (hex : ∀ s b, b = b0 ++ p.weights.flatMap dB → s.s 1 = .var (eP p) ∧ s.s 5 = .var [owU b] → Q (.exit 4) s) : AW pg G 115 (.loop plan_Bytes_l2) Q st := by
  refine aw_loop (Nat × List Int) (fun q st => q.1 ≤ p.weights.length ∧ q.2 ++ (p.weights.drop q.1).flatMap dB = b0 ++ p.weights.flatMap dB ∧ q.2.length ≤ b0.length + 20 * q.1 ∧ st.s 1 = .var (eP p) ∧ st.s 5 = .var [owU q.2] ∧ st.s 77 = slD p.weights ∧ st.s 78 = li p.weights.length ∧ st.s 79 = li q.1) (fun q => p.weights.length - q.1) (0, b0) ⟨by simp, rfl, by simp, h⟩ ?_
  clear h
  rintro ⟨i, b⟩ st K ⟨hi, hm, hl, h⟩ hK
  simp only at hi hm hl h
  by_cases hlt : i < p.weights.length
  · rw [List.drop_eq_getElem_cons hlt, List.flatMap_cons, ← List.append_assoc] at hm
    have hs := hv _ (List.getElem_mem hlt)
    have hd := dBytes_len p.weights[i].shape p.weights[i].wide
    simp (disch := omega) [go_sem, plan_Bytes_l2, h, hlt, eP]
    refine clx_pure (wdesc95 b p.weights[i].shape p.weights[i].wide (by omega) (by omega)) rfl rfl rfl (ni_w _) ?_
    simp (disch := omega) [go_sem, h, eP]
    exact hK (i + 1, b ++ dB p.weights[i]) _ ⟨by simp only; omega, hm, by simp only [List.length_append, dB]; omega, by simp (disch := omega) [go_sem, h, eP, dB]⟩ (by simp only; omega)
  · obtain rfl : i = p.weights.length := by omega
    rw [List.drop_length] at hm
    simp only [List.flatMap_nil, List.append_nil] at hm
    simp (disch := omega) [go_sem, plan_Bytes_l2, h]
    exact hex _ _ hm (by simp (disch := omega) [go_sem, h])
theorem pb_l3 {p : Pl} {b0 : List Int} (hb : b0.length < 2 ^ 26) (h1 : p.code.length ≤ 2048) (hv : ∀ v ∈ p.code, inOk v) (h : st.s 1 = .var (eP p) ∧ st.s 5 = .var [owU b0] ∧ st.s 93 = slJ p.code ∧ st.s 94 = li p.code.length ∧ st.s 95 = li 0)
    (hex : ∀ s b, b = b0 ++ p.code.flatMap iBytes → s.s 1 = .var (eP p) ∧ s.s 5 = .var [owU b] → Q (.exit 6) s) : AW pg G 115 (.loop plan_Bytes_l3) Q st := by
  refine aw_loop (Nat × List Int) (fun q st => q.1 ≤ p.code.length ∧ q.2 ++ (p.code.drop q.1).flatMap iBytes = b0 ++ p.code.flatMap iBytes ∧ q.2.length ≤ b0.length + 100 * q.1 ∧ st.s 1 = .var (eP p) ∧ st.s 5 = .var [owU q.2] ∧ st.s 93 = slJ p.code ∧ st.s 94 = li p.code.length ∧ st.s 95 = li q.1) (fun q => p.code.length - q.1) (0, b0) ⟨by simp, rfl, by simp, h⟩ ?_
  clear h
  rintro ⟨i, b⟩ st K ⟨hi, hm, hl, h⟩ hK
  simp only at hi hm hl h
  by_cases hlt : i < p.code.length
  · rw [List.drop_eq_getElem_cons hlt, List.flatMap_cons, ← List.append_assoc] at hm
    obtain ⟨o1, o2, o3, o4, o5, o6⟩ := hv _ (List.getElem_mem hlt)
    have q1 := put1_true_len p.code[i].ins
    have q2 := put1_true_len p.code[i].args
    have q3 := put1_len true p.code[i].dst
    have q4 := put1_len true p.code[i].frm
    have q5 := put1_len true p.code[i].to
    have hil : (iBytes p.code[i]).length ≤ 100 := by
      unfold iBytes
      simp only [List.length_append, List.length_cons, List.length_nil]
      omega
    have cw := winstr96 (G := G) b p.code[i] (by omega) o3.1 o4.1 o1
    simp (disch := omega) [go_sem, plan_Bytes_l3, h, hlt, eP]
    refine clx_pure cw rfl rfl rfl (ni_w _) ?_
    simp (disch := omega) [go_sem, h, eP]
    exact hK (i + 1, b ++ iBytes p.code[i]) _ ⟨by simp only; omega, hm, by simp only [List.length_append]; omega, by simp (disch := omega) [go_sem, h, eP]⟩ (by simp only; omega)
  · obtain rfl : i = p.code.length := by omega
    rw [List.drop_length] at hm
    simp only [List.flatMap_nil, List.append_nil] at hm
    simp (disch := omega) [go_sem, plan_Bytes_l3, h]
    exact hex _ _ hm (by simp (disch := omega) [go_sem, h])
end
end Go.Ideal.Tryd
end

section
set_option linter.unusedVariables false
set_option linter.unusedSimpArgs false
set_option maxRecDepth 10000
namespace Go.Ideal.Tryd
section
variable {G : Nat → Option Value} {bk : Nat → Nat × Nat} {Q : Exit → St → Prop} {st : St}
theorem pbytes_eq (p : Pl) : pBytes p = [76, 80] ++ put1 true p.size ++ le2 p.views.length ++ p.views.flatMap vB ++ le2 p.consts.length ++ p.consts.flatMap cB ++ le2 p.weights.length ++ p.weights.flatMap dB ++ le2 p.code.length ++ p.code.flatMap iBytes ++ put1 true p.input ++ put1 true p.output := by
  unfold pBytes pEnc
  simp only [List.append_assoc]
  rfl
theorem pbytes43 (hS : Sent G bk) (p : Pl) (hp : p.fin) (hsh : ∀ x ∈ p.code, x.ins.length < 2 ^ 37 ∧ x.args.length < 2 ^ 37) (he : pErr p = .nil) : ACalls pg G F_plan_Bytes [.agg (eP p)] (.tup [slU (pBytes p), .lit .nilIface]) := by
  refine plan_Bytes_call rfl ?_
  have hf := pfair94 (G := G) hS p hp hsh
  rw [he] at hf
  simp only [encE] at hf
  obtain ⟨-, ⟨v1, v2⟩, ⟨c1, c2⟩, ⟨w1, w2⟩, ⟨i1, i2⟩, -⟩ := (pErr_iff p).1 he
  have lv : (p.views.flatMap vB).length ≤ 20 * p.views.length := flatMap_le fun v hv => by
    have h1 := put1_len true v.off
    have h2 := dBytes_len v.shape v.wide
    have h3 : v.shape.length ≤ 7 := (v2 v hv).2.1
    simp only [vB, List.length_append]; omega
  have lc : (p.consts.flatMap cB).length ≤ 70000 * p.consts.length := flatMap_le fun t ht => by
    have h1 := tvErr_len (c2 t ht)
    have h2 := dBytes_len t.shape t.wide
    have h3 := rawB_len t.wide t.data
    unfold cB tBytes
    rw [List.length_append]; omega
  have lw : (p.weights.flatMap dB).length ≤ 20 * p.weights.length := flatMap_le fun v hv => by
    have h2 := dBytes_len v.shape v.wide
    have h3 : v.shape.length ≤ 7 := (w2 v hv).1
    simp only [dB]; omega
  have li' : (p.code.flatMap iBytes).length ≤ 100 * p.code.length := flatMap_le fun v hv => by
    obtain ⟨o1, o2, o3, o4, o5, o6⟩ := i2 v hv
    have q1 := put1_true_len v.ins
    have q2 := put1_true_len v.args
    have q3 := put1_len true v.dst
    have q4 := put1_len true v.frm
    have q5 := put1_len true v.to
    unfold iBytes
    simp only [List.length_append, List.length_cons, List.length_nil]
    omega
  have z1 := put1_len true p.size
  have z2 := put1_len true p.input
  have hle : ∀ k : Int, (le2 k).length = 2 := fun k => rfl
  have hvs : ∀ v ∈ p.views, v.shape.length ≤ 7 := fun v hv => (v2 v hv).2.1
  have hws : ∀ v ∈ p.weights, v.shape.length ≤ 7 := fun v hv => (w2 v hv).1
  obtain ⟨T, hT⟩ : ∃ T, T = pBytes p := ⟨_, rfl⟩
  have hT2 := hT.trans (pbytes_eq p)
  rw [← hT]
  clear hT
  simp (disch := omega) [go_sem, plan_Bytes_c, eP]
  refine cal_pure hf rfl rfl ?_
  simp (disch := omega) [go_sem]
  refine clx_pure (number55 [76, 80] p.size (by simp)) rfl rfl rfl (ni_w _) ?_
  simp (disch := omega) [go_sem]
  refine clx_pure (count53 ([76, 80] ++ put1 true p.size) p.views.length (by simp only [List.length_append, List.length_cons, List.length_nil]; omega)) rfl rfl rfl (ni_w _) ?_
  simp (disch := omega) [go_sem]
  refine pb_l0 (p := p) (b0 := [76, 80] ++ put1 true p.size ++ le2 p.views.length) (by simp only [List.length_append, List.length_cons, List.length_nil, hle]; omega) v1 hvs (by simp (disch := omega) [go_sem, eP, le2]) fun s b hb h => ?_
  have hbl : b.length ≤ 2600 := by rw [hb]; simp only [List.length_append, List.length_cons, List.length_nil, hle]; omega
  rw [← hb] at hT2
  clear hb
  simp (disch := omega) [go_sem, h, eP]
  refine clx_pure (count53 b p.consts.length (by omega)) rfl rfl rfl (ni_w _) ?_
  simp (disch := omega) [go_sem, h, eP]
  refine pb_l1 hS (p := p) (b0 := b ++ le2 p.consts.length) (by simp only [List.length_append, hle]; omega) c1 c2 (by simp (disch := omega) [go_sem, h, eP, le2]) fun s b1 hb h => ?_
  have hbl1 : b1.length ≤ 5000000 := by rw [hb]; simp only [List.length_append, hle]; omega
  rw [← hb] at hT2
  clear hb
  simp (disch := omega) [go_sem, h, eP]
  refine clx_pure (count53 b1 p.weights.length (by omega)) rfl rfl rfl (ni_w _) ?_
  simp (disch := omega) [go_sem, h, eP]
  refine pb_l2 (p := p) (b0 := b1 ++ le2 p.weights.length) (by simp only [List.length_append, hle]; omega) w1 hws (by simp (disch := omega) [go_sem, h, eP, le2]) fun s b2 hb h => ?_
  have hbl2 : b2.length ≤ 6000000 := by rw [hb]; simp only [List.length_append, hle]; omega
  rw [← hb] at hT2
  clear hb
  simp (disch := omega) [go_sem, h, eP]
  refine clx_pure (count53 b2 p.code.length (by omega)) rfl rfl rfl (ni_w _) ?_
  simp (disch := omega) [go_sem, h, eP]
  refine pb_l3 (p := p) (b0 := b2 ++ le2 p.code.length) (by simp only [List.length_append, hle]; omega) i1 i2 (by simp (disch := omega) [go_sem, h, eP, le2]) fun s b3 hb h => ?_
  have hbl3 : b3.length ≤ 7000000 := by rw [hb]; simp only [List.length_append, hle]; omega
  rw [← hb] at hT2
  clear hb
  simp (disch := omega) [go_sem, h, eP]
  refine clx_pure (number55 b3 p.input (by omega)) rfl rfl rfl (ni_w _) ?_
  simp (disch := omega) [go_sem, h, eP]
  have cl := number55 (G := G) (b3 ++ put1 true p.input) p.output (by simp only [List.length_append]; omega)
  rw [← hT2] at cl
  refine clx_pure cl rfl rfl rfl (ni_w _) ?_
  simp (disch := omega) [go_sem, h, eP]
theorem pbytes43e (hS : Sent G bk) (p : Pl) (hp : p.fin) (hsh : ∀ x ∈ p.code, x.ins.length < 2 ^ 37 ∧ x.args.length < 2 ^ 37) (he : pErr p ≠ .nil) : ACalls pg G F_plan_Bytes [.agg (eP p)] (.tup [owU [], encE bk (pErr p)]) := by
  refine plan_Bytes_call rfl ?_
  have hf := pfair94 (G := G) hS p hp hsh
  have hn : (pErr p).isNil = false := by
    cases h : (pErr p).isNil
    · rfl
    · exact absurd (isNil_iff.1 h) he
  generalize pErr p = e at *
  simp (disch := omega) [go_sem, plan_Bytes_c, eP]
  refine cal_same hf (encE_noRef _) (by simp (disch := omega) [go_sem]) ?_
  simp (disch := omega) [go_sem, hn]
end
end Go.Ideal.Tryd
end

section
set_option linter.unusedVariables false
set_option linter.unusedSimpArgs false
set_option maxRecDepth 10000
namespace Go.Ideal.Tryd
/-! ### the laws of chapter 14 -/
def p0 : Pl := ⟨0, [], [], [], [], 0, 0⟩
theorem plOk_fin {p : Pl} (h : plOk p) : p.fin ∧ ∀ x ∈ p.code, x.ins.length < 2 ^ 37 ∧ x.args.length < 2 ^ 37 := by
  obtain ⟨-, ⟨v1, v2⟩, ⟨c1, c2⟩, ⟨w1, w2⟩, ⟨i1, i2⟩, -⟩ := h
  refine ⟨⟨by omega, by omega, by omega, by omega, fun x hx => ?_, fun x hx => ?_, fun x hx => ?_, fun x hx => ?_⟩, fun x hx => ?_⟩
  · have := (v2 x hx).2.1; simp only at this; omega
  · have := tvErr_len (c2 x hx); omega
  · have := (w2 x hx).1; omega
  · obtain ⟨-, -, a, b, -⟩ := i2 x hx; have := a.1; have := b.1; omega
  · obtain ⟨-, -, a, b, -⟩ := i2 x hx; have := a.1; have := b.1; omega
theorem p0_ok : plOk p0 := by
  refine ⟨by simp [r32, p0], by simp [p0], by simp [p0], by simp [p0], by simp [p0], by simp [r32, p0], by simp [r32, p0]⟩
theorem byteL_pBytes {p : Pl} (h : plOk p) : byteL (pBytes p) := by
  rw [pbytes_eq]
  have hd : ∀ (sh : List Int) (w : Bool), byteL (dBytes sh w) := fun sh w => by
    unfold dBytes
    exact byteL_app (a := [_]) (byteL_u8 _) (byteL_flat fun k _ => byteL_le2 k)
  refine byteL_app (byteL_app (byteL_app (byteL_app (byteL_app (byteL_app (byteL_app (byteL_app (byteL_app (byteL_app (byteL_app ?_ (byteL_put1 _ _)) (byteL_le2 _)) (byteL_flat fun v _ => byteL_app (byteL_put1 _ _) (hd _ _))) (byteL_le2 _)) (byteL_flat fun t _ => byteL_tBytes _ _ _)) (byteL_le2 _)) (byteL_flat fun d _ => hd _ _)) (byteL_le2 _)) (byteL_flat fun i hi => ?_)) (byteL_put1 _ _)) (byteL_put1 _ _)
  · intro x hx
    simp only [List.mem_cons, List.not_mem_nil, or_false] at hx
    rcases hx with rfl | rfl <;> omega
  · have ho := (h.2.2.2.2.1.2 i hi).1
    unfold iBytes
    refine byteL_app (fun x hx => ?_) (byteL_app (byteL_put1 _ _) (byteL_app (byteL_app (a := [_]) (byteL_u8 _) (byteL_flat fun k _ => byteL_put1 _ k)) (byteL_app (byteL_app (a := [_]) (byteL_u8 _) (byteL_flat fun k _ => byteL_put1 _ k)) (byteL_app (byteL_put1 _ _) (byteL_put1 _ _)))))
    simp only [List.mem_singleton] at hx
    rw [hx]; exact ho
section
variable {G : Nat → Option Value} {bk : Nat → Nat × Nat} {Q : Exit → St → Prop} {st : St}
theorem first32 (hS : Sent G bk) : ACalls pg G F_lodgelaw14_first [] (lb true) := by
  refine lodgelaw14_first_call rfl ?_
  have hf := plOk_fin p0_ok
  have hb := pbytes43 (G := G) hS p0 hf.1 hf.2 ((pErr_iff p0).2 p0_ok)
  have e : AV.agg (eP p0) = .agg [.lit (.int .i64 0), .sl 0 [], .sl 0 [], .sl 0 [], .sl 0 [], .lit (.int .i64 0), .lit (.int .i64 0)] := rfl
  have hl : (pBytes p0).length = 22 := by rfl
  rw [e] at hb
  generalize pBytes p0 = b at *
  simp (disch := omega) [go_sem, lodgelaw14_first_c]
  refine cal_same hb rfl (by simp (disch := omega) [go_sem]) ?_
  simp (disch := omega) [go_sem, hl]
end
end Go.Ideal.Tryd
end

section
set_option linter.unusedVariables false
set_option linter.unusedSimpArgs false
set_option maxRecDepth 10000
namespace Go.Ideal.Tryd
/-! ### PlanBounds -/
def pV (m : Nat) : Pl := ⟨0, List.replicate m ⟨0, [], false⟩, [], [], [], 0, 0⟩
def pI (m : Nat) : Pl := ⟨0, [], [], [], [⟨24, 0, List.replicate m 0, [], 0, 0⟩], 0, 0⟩
def pA (m : Nat) : Pl := ⟨0, [], [], [], [⟨24, 0, [], List.replicate m 0, 0, 0⟩], 0, 0⟩
def pW (m : Nat) : Pl := ⟨0, [], [], List.replicate m ⟨[], false⟩, [], 0, 0⟩
theorem frz_vws (m : Nat) : frzL (repl m [AV.lit (Value.int IntKind.i64 0), AV.own 1 0 [], AV.lit (Value.bool false)]) = fm eV (List.replicate m ⟨0, [], false⟩) := by
  have e : repl m [AV.lit (Value.int IntKind.i64 0), AV.own 1 0 [], AV.lit (Value.bool false)] = fm oV (List.replicate m ⟨0, [], false⟩) := by
    induction m with
    | zero => rfl
    | succ m ih =>
      unfold repl at ih ⊢
      rw [List.replicate_succ, List.flatten_cons, ih, List.replicate_succ]
      rfl
  rw [e, oV_frz]
theorem frz_dss (m : Nat) : frzL (repl m [AV.own 1 0 [], AV.lit (Value.bool false)]) = fm eD (List.replicate m ⟨[], false⟩) := by
  have e : repl m [AV.own 1 0 [], AV.lit (Value.bool false)] = fm oD (List.replicate m ⟨[], false⟩) := by
    induction m with
    | zero => rfl
    | succ m ih =>
      unfold repl at ih ⊢
      rw [List.replicate_succ, List.flatten_cons, ih, List.replicate_succ]
      rfl
  rw [e, oD_frz]
/-- What PlanBounds asks of a plan. -/
structure Bnd (p : Pl) (m most : Nat) : Prop where
  ok : m ≤ most → plOk p
  bad : most < m → pErr p = .s 2
  fin : p.fin
  sh : ∀ x ∈ p.code, x.ins.length < 2 ^ 37 ∧ x.args.length < 2 ^ 37
theorem r0 : r32 0 := by simp [r32]
theorem many_err {p : Pl} (h : manyP p = true) : pErr p = .s 2 := by unfold pErr; rw [if_pos h]
theorem pV_facts {m : Nat} (h : m < 200) : Bnd (pV m) m 128 where
  ok := fun hm => ⟨r0, ⟨by simpa [pV] using hm, fun v hv => by
    have := List.eq_of_mem_replicate hv
    subst this
    exact ⟨r0, by simp [dsOk]⟩⟩, by simp [pV], by simp [pV], by simp [pV], r0, r0⟩
  bad := fun hm => many_err (by simp [manyP, pV, hm])
  fin := ⟨by simp [pV]; omega, by simp [pV], by simp [pV], by simp [pV], fun x hx => by
    have := List.eq_of_mem_replicate hx
    subst this; simp, by simp [pV], by simp [pV], by simp [pV]⟩
  sh := by simp [pV]
theorem pW_facts {m : Nat} (h : m < 14) : Bnd (pW m) m 8 where
  ok := fun hm => ⟨r0, by simp [pW], by simp [pW], ⟨by simpa [pW] using hm, fun v hv => by
    have := List.eq_of_mem_replicate hv
    subst this
    simp [dsOk]⟩, by simp [pW], r0, r0⟩
  bad := fun hm => many_err (by simp [manyP, pW, hm])
  fin := ⟨by simp [pW], by simp [pW], by simp [pW]; omega, by simp [pW], by simp [pW], by simp [pW], fun x hx => by
    have := List.eq_of_mem_replicate hx
    subst this; simp, by simp [pW]⟩
  sh := by simp [pW]
theorem zeros_r32 {m : Nat} : ∀ x ∈ List.replicate m (0 : Int), r32 x := fun x hx => by
  rw [List.eq_of_mem_replicate hx]; exact r0
theorem pI_facts {m : Nat} (h : m < 14) : Bnd (pI m) m 8 where
  ok := fun hm => ⟨r0, by simp [pI], by simp [pI], by simp [pI], ⟨by simp [pI], fun v hv => by
    simp only [pI, List.mem_singleton] at hv
    subst hv
    exact ⟨by simp, r0, ⟨by simpa using hm, zeros_r32⟩, by simp, r0, r0⟩⟩, r0, r0⟩
  bad := fun hm => many_err (by simp [manyP, pI, manyI, hm])
  fin := ⟨by simp [pI], by simp [pI], by simp [pI], by simp [pI], by simp [pI], by simp [pI], by simp [pI], by simp [pI]; omega⟩
  sh := by simp [pI]; omega
theorem pA_facts {m : Nat} (h : m < 14) : Bnd (pA m) m 8 where
  ok := fun hm => ⟨r0, by simp [pA], by simp [pA], by simp [pA], ⟨by simp [pA], fun v hv => by
    simp only [pA, List.mem_singleton] at hv
    subst hv
    exact ⟨by simp, r0, by simp, ⟨by simpa using hm, zeros_r32⟩, r0, r0⟩⟩, r0, r0⟩
  bad := fun hm => many_err (by simp [manyP, pA, manyI, hm])
  fin := ⟨by simp [pA], by simp [pA], by simp [pA], by simp [pA], by simp [pA], by simp [pA], by simp [pA], by simp [pA]; omega⟩
  sh := by simp [pA]; omega
theorem pBytes_small {p : Pl} (h : plOk p) : (pBytes p).length < 2 ^ 39 := by
  obtain ⟨-, ⟨v1, v2⟩, ⟨c1, c2⟩, ⟨w1, w2⟩, ⟨i1, i2⟩, -⟩ := h
  have lv : (p.views.flatMap vB).length ≤ 20 * p.views.length := flatMap_le fun v hv => by
    have h1 := put1_len true v.off
    have h2 := dBytes_len v.shape v.wide
    have h3 : v.shape.length ≤ 7 := (v2 v hv).2.1
    simp only [vB, List.length_append]; omega
  have lc : (p.consts.flatMap cB).length ≤ 70000 * p.consts.length := flatMap_le fun t ht => by
    have h1 := tvErr_len (c2 t ht)
    have h2 := dBytes_len t.shape t.wide
    have h3 := rawB_len t.wide t.data
    unfold cB tBytes
    rw [List.length_append]; omega
  have lw : (p.weights.flatMap dB).length ≤ 20 * p.weights.length := flatMap_le fun v hv => by
    have h2 := dBytes_len v.shape v.wide
    have h3 : v.shape.length ≤ 7 := (w2 v hv).1
    simp only [dB]; omega
  have li' : (p.code.flatMap iBytes).length ≤ 100 * p.code.length := flatMap_le fun v hv => by
    obtain ⟨o1, o2, o3, o4, o5, o6⟩ := i2 v hv
    have q1 := put1_true_len v.ins
    have q2 := put1_true_len v.args
    have q3 := put1_len true v.dst
    have q4 := put1_len true v.frm
    have q5 := put1_len true v.to
    unfold iBytes
    simp only [List.length_append, List.length_cons, List.length_nil]
    omega
  have z1 := put1_len true p.size
  have z2 := put1_len true p.input
  have z3 := put1_len true p.output
  have hle : ∀ k : Int, (le2 k).length = 2 := fun k => rfl
  rw [pbytes_eq]
  simp only [List.length_append, List.length_cons, List.length_nil, hle]
  omega
section
variable {G : Nat → Option Value} {bk : Nat → Nat × Nat} {Q : Exit → St → Prop} {st : St}
theorem planBounds11 (hS : Sent G bk) (w n : Int) : ACalls pg G F_lodgelaw14_PlanBounds [li w, li n] (lb true) := by
  refine lodgelaw14_PlanBounds_call rfl ?_
  have r1 := numb_rng (n := w) (m := 4) (by omega)
  have r2 := numb_rng (n := n) (m := 200) (by omega)
  have r3 := numb_rng (n := n) (m := 14) (by omega)
  simp (disch := omega) [go_sem, lodgelaw14_PlanBounds_c]
  refine cal_pure (first32 hS) rfl rfl ?_
  simp (disch := omega) [go_sem]
  refine cal_pure (number19 w 4 (by omega) (by omega)) rfl rfl ?_
  rcases (show numb w 4 = 0 ∨ numb w 4 = 1 ∨ numb w 4 = 2 ∨ numb w 4 = 3 by omega) with k0 | k0 | k0 | k0
  · simp (disch := omega) [go_sem, k0]
    refine cal_pure (number19 n 200 (by omega) (by omega)) rfl rfl ?_
    obtain ⟨m, hm⟩ := Int.eq_ofNat_of_zero_le r2.1
    rw [hm]
    simp (disch := omega) [go_sem, frz_vws]
    have e : AV.agg [AV.lit (Value.int IntKind.i64 0), AV.sl m (fm eV (List.replicate m ⟨0, [], false⟩)), AV.sl 0 [], AV.sl 0 [], AV.sl 0 [], AV.lit (Value.int IntKind.i64 0), AV.lit (Value.int IntKind.i64 0)] = .agg (eP (pV m)) := by simp [eP, pV, fm]
    have f := pV_facts (m := m) (by omega)
    clear r1 r2 r3
    generalize pV m = p at *
    obtain ⟨f1, f2, f3, f4⟩ := f
    by_cases hmm : m ≤ 128
    · have hok := f1 hmm
      have he := (pErr_iff p).2 hok
      have hmm' : ¬ (128 : Int) < m := by omega
      have hA := pbytes43 (G := G) hS p f3 f4 he
      have hbl := pBytes_small hok
      have hr := pread42 (G := G) hS (byteL_pBytes hok) (by omega)
      rw [preadBack he] at hr
      have hs := pSame35 (G := G) p p f3 f3
      generalize pBytes p = b at *
      rw [← e] at hA hs
      rw [← e] at hr
      refine cal_same hA rfl (by simp (disch := omega) [go_sem]) ?_
      simp (disch := omega) [go_sem, hmm']
      refine cal_same hr (by simp [go_sem]) (by simp (disch := omega) [go_sem]) ?_
      simp (disch := omega) [go_sem, encE]
      refine cal_pure hs rfl rfl ?_
      simp (disch := omega) [go_sem]
    · have he := f2 (by omega)
      have hmm' : (128 : Int) < m := by omega
      have hA := pbytes43e (G := G) hS p f3 f4 (by rw [he]; simp)
      rw [← e, he] at hA
      refine cal_same hA (by simp [go_sem]) (by simp (disch := omega) [go_sem]) ?_
      simp (disch := omega) [go_sem, hmm']
      refine cal_same (is37 hS (e := .s 2) (.s (by decide)) 104) rfl (by simp (disch := omega) [go_sem]) ?_
      simp (disch := omega) [go_sem, Er.flt, show codeOf 2 = 104 from rfl]
  · simp (disch := omega) [go_sem, k0]
    refine cal_pure (number19 n 14 (by omega) (by omega)) rfl rfl ?_
    obtain ⟨m, hm⟩ := Int.eq_ofNat_of_zero_le r3.1
    rw [hm]
    simp (disch := omega) [go_sem, frz_lits]
    have e : AV.agg [AV.lit (Value.int IntKind.i64 0), AV.sl 0 [], AV.sl 0 [], AV.sl 0 [], AV.sl 1 [AV.lit (Value.int IntKind.i64 24), AV.lit (Value.int IntKind.i64 0), AV.sl m (List.replicate m (AV.lit (Value.int IntKind.i64 0))), AV.sl 0 [], AV.lit (Value.int IntKind.i64 0), AV.lit (Value.int IntKind.i64 0)], AV.lit (Value.int IntKind.i64 0), AV.lit (Value.int IntKind.i64 0)] = .agg (eP (pI m)) := by simp [eP, pI, fm, eI]
    have f := pI_facts (m := m) (by omega)
    clear r1 r2 r3
    generalize pI m = p at *
    obtain ⟨f1, f2, f3, f4⟩ := f
    by_cases hmm : m ≤ 8
    · have hok := f1 hmm
      have he := (pErr_iff p).2 hok
      have hmm' : ¬ (8 : Int) < m := by omega
      have hA := pbytes43 (G := G) hS p f3 f4 he
      have hbl := pBytes_small hok
      have hr := pread42 (G := G) hS (byteL_pBytes hok) (by omega)
      rw [preadBack he] at hr
      have hs := pSame35 (G := G) p p f3 f3
      generalize pBytes p = b at *
      rw [← e] at hA hs
      rw [← e] at hr
      refine cal_same hA rfl (by simp (disch := omega) [go_sem]) ?_
      simp (disch := omega) [go_sem, hmm']
      refine cal_same hr (by simp [go_sem]) (by simp (disch := omega) [go_sem]) ?_
      simp (disch := omega) [go_sem, encE]
      refine cal_pure hs rfl rfl ?_
      simp (disch := omega) [go_sem]
    · have he := f2 (by omega)
      have hmm' : (8 : Int) < m := by omega
      have hA := pbytes43e (G := G) hS p f3 f4 (by rw [he]; simp)
      rw [← e, he] at hA
      refine cal_same hA (by simp [go_sem]) (by simp (disch := omega) [go_sem]) ?_
      simp (disch := omega) [go_sem, hmm']
      refine cal_same (is37 hS (e := .s 2) (.s (by decide)) 104) rfl (by simp (disch := omega) [go_sem]) ?_
      simp (disch := omega) [go_sem, Er.flt, show codeOf 2 = 104 from rfl]
  · simp (disch := omega) [go_sem, k0]
    refine cal_pure (number19 n 14 (by omega) (by omega)) rfl rfl ?_
    obtain ⟨m, hm⟩ := Int.eq_ofNat_of_zero_le r3.1
    rw [hm]
    simp (disch := omega) [go_sem, frz_lits]
    have e : AV.agg [AV.lit (Value.int IntKind.i64 0), AV.sl 0 [], AV.sl 0 [], AV.sl 0 [], AV.sl 1 [AV.lit (Value.int IntKind.i64 24), AV.lit (Value.int IntKind.i64 0), AV.sl 0 [], AV.sl m (List.replicate m (AV.lit (Value.int IntKind.i64 0))), AV.lit (Value.int IntKind.i64 0), AV.lit (Value.int IntKind.i64 0)], AV.lit (Value.int IntKind.i64 0), AV.lit (Value.int IntKind.i64 0)] = .agg (eP (pA m)) := by simp [eP, pA, fm, eI]
    have f := pA_facts (m := m) (by omega)
    clear r1 r2 r3
    generalize pA m = p at *
    obtain ⟨f1, f2, f3, f4⟩ := f
    by_cases hmm : m ≤ 8
    · have hok := f1 hmm
      have he := (pErr_iff p).2 hok
      have hmm' : ¬ (8 : Int) < m := by omega
      have hA := pbytes43 (G := G) hS p f3 f4 he
      have hbl := pBytes_small hok
      have hr := pread42 (G := G) hS (byteL_pBytes hok) (by omega)
      rw [preadBack he] at hr
      have hs := pSame35 (G := G) p p f3 f3
      generalize pBytes p = b at *
      rw [← e] at hA hs
      rw [← e] at hr
      refine cal_same hA rfl (by simp (disch := omega) [go_sem]) ?_
      simp (disch := omega) [go_sem, hmm']
      refine cal_same hr (by simp [go_sem]) (by simp (disch := omega) [go_sem]) ?_
      simp (disch := omega) [go_sem, encE]
      refine cal_pure hs rfl rfl ?_
      simp (disch := omega) [go_sem]
    · have he := f2 (by omega)
      have hmm' : (8 : Int) < m := by omega
      have hA := pbytes43e (G := G) hS p f3 f4 (by rw [he]; simp)
      rw [← e, he] at hA
      refine cal_same hA (by simp [go_sem]) (by simp (disch := omega) [go_sem]) ?_
      simp (disch := omega) [go_sem, hmm']
      refine cal_same (is37 hS (e := .s 2) (.s (by decide)) 104) rfl (by simp (disch := omega) [go_sem]) ?_
      simp (disch := omega) [go_sem, Er.flt, show codeOf 2 = 104 from rfl]
  · simp (disch := omega) [go_sem, k0]
    refine cal_pure (number19 n 14 (by omega) (by omega)) rfl rfl ?_
    obtain ⟨m, hm⟩ := Int.eq_ofNat_of_zero_le r3.1
    rw [hm]
    simp (disch := omega) [go_sem, frz_dss]
    have e : AV.agg [AV.lit (Value.int IntKind.i64 0), AV.sl 0 [], AV.sl 0 [], AV.sl m (fm eD (List.replicate m ⟨[], false⟩)), AV.sl 0 [], AV.lit (Value.int IntKind.i64 0), AV.lit (Value.int IntKind.i64 0)] = .agg (eP (pW m)) := by simp [eP, pW, fm]
    have f := pW_facts (m := m) (by omega)
    clear r1 r2 r3
    generalize pW m = p at *
    obtain ⟨f1, f2, f3, f4⟩ := f
    by_cases hmm : m ≤ 8
    · have hok := f1 hmm
      have he := (pErr_iff p).2 hok
      have hmm' : ¬ (8 : Int) < m := by omega
      have hA := pbytes43 (G := G) hS p f3 f4 he
      have hbl := pBytes_small hok
      have hr := pread42 (G := G) hS (byteL_pBytes hok) (by omega)
      rw [preadBack he] at hr
      have hs := pSame35 (G := G) p p f3 f3
      generalize pBytes p = b at *
      rw [← e] at hA hs
      rw [← e] at hr
      refine cal_same hA rfl (by simp (disch := omega) [go_sem]) ?_
      simp (disch := omega) [go_sem, hmm']
      refine cal_same hr (by simp [go_sem]) (by simp (disch := omega) [go_sem]) ?_
      simp (disch := omega) [go_sem, encE]
      refine cal_pure hs rfl rfl ?_
      simp (disch := omega) [go_sem]
    · have he := f2 (by omega)
      have hmm' : (8 : Int) < m := by omega
      have hA := pbytes43e (G := G) hS p f3 f4 (by rw [he]; simp)
      rw [← e, he] at hA
      refine cal_same hA (by simp [go_sem]) (by simp (disch := omega) [go_sem]) ?_
      simp (disch := omega) [go_sem, hmm']
      refine cal_same (is37 hS (e := .s 2) (.s (by decide)) 104) rfl (by simp (disch := omega) [go_sem]) ?_
      simp (disch := omega) [go_sem, Er.flt, show codeOf 2 = 104 from rfl]
end
end Go.Ideal.Tryd
end
