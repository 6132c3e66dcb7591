/- Copies, SamePlan, Check, Total. -/
import Derived.Test.YtfncabcldhemkaaGreatDoorQbg
import Derived.Test.YtfncabcldhemkaaGreatDoorQan
set_option linter.unusedVariables false
set_option linter.unusedSimpArgs false
set_option maxHeartbeats 8000000
set_option maxRecDepth 200000
section
namespace Go.Ideal.Tryz
attribute [local go_sem] eD eT eV eI eP
section
variable {G : GG} {bk : Nat -> Nat × Nat} {Q : Exit -> St -> Prop} {st : St}
theorem d51 (v : Vw) (h : v.shape.length < 2 ^ 40) : ACalls pg G b74 [.agg (eV v)] (.agg (eV v)) := by
 refine b41 rfl ?_
 simp (disch := omega) [go_sem, b1u]
 refine a0c ?_
 simp (disch := omega) [go_sem]
 refine a1j (b08 v.shape v.wide h) (by simp [go_sem, a0k]) (by simp (disch := omega) [go_sem]) (by simp (disch := omega) [go_sem]) [7] (by simp) (by simp (disch := omega) [go_sem]) ?_
 simp (disch := omega) [go_sem]
 refine a0d (by decide) fun s2 hs2 he2 => ?_
 simp (disch := omega) [go_sem, hs2]
theorem d2l (i : In) (h : i.ins.length < 2 ^ 40) (h2 : i.args.length < 2 ^ 40) : ACalls pg G b67 [.agg (eI i)] (.agg (eI i)) := by
 refine b3n rfl ?_
 simp (disch := omega) [go_sem, b0h]
 refine a0c ?_
 simp (disch := omega) [go_sem]
 refine a1j (d8n i.ins h) (by simp [go_sem, a0k]) (by simp (disch := omega) [go_sem]) (by simp (disch := omega) [go_sem]) [9] (by simp) (by simp (disch := omega) [go_sem]) ?_
 simp (disch := omega) [go_sem]
 refine a1j (d8n i.args h2) (by simp [go_sem, a0k]) (by simp (disch := omega) [go_sem]) (by simp (disch := omega) [go_sem]) [12] (by simp) (by simp (disch := omega) [go_sem]) ?_
 simp (disch := omega) [go_sem]
 refine a0d (by decide) fun s2 hs2 he2 => ?_
 simp (disch := omega) [go_sem, hs2]
theorem e44 (x : Tn) (h : x.shape.length < 2 ^ 40) (h2 : x.data.length < 2 ^ 40) : ACalls pg G a8x [.agg (eT x)] (.agg (eT x)) :=
 ACalls.shown (d38 x.shape x.wide x.data h h2) (by simp [go_sem, frz, a2g])
theorem e4w (x : Ds) (h : x.shape.length < 2 ^ 40) : ACalls pg G a7h [.agg (eD x)] (.agg (eD x)) := b08 x.shape x.wide h
theorem d9f (xs : List Vw) (hn : xs.length < 2 ^ 30) (hf : ∀ x ∈ xs, x.shape.length < 2 ^ 40) : ACalls pg G b68 [slV xs] (slV xs) := by
 refine ACalls.shown (res := .own 3 xs.length (fm eV xs)) ?_ (by simp [go_sem])
 refine b3o rfl ?_
 simp (disch := omega) [go_sem, b0i]
 refine a08 (Nat × List Vw) (fun p st => p.1 <= xs.length /\ p.2 ++ xs.drop p.1 = xs /\ p.2.length = p.1 /\ st.s 0 = slV xs /\ st.s 3 = .own 3 p.2.length (fm eV p.2) /\ st.s 4 = li p.1) (fun p => xs.length - p.1) (0, []) ⟨by simp, rfl, rfl, by simp (disch := omega) [go_sem, fm]⟩ ?_
 rintro ⟨i, ys⟩ st K ⟨hi, hm, hl, h⟩ hK
 simp only at hi hm hl h
 by_cases hlt : i < xs.length
 ·rw [List.drop_eq_getElem_cons hlt, List.append_cons] at hm
  simp (disch := omega) [go_sem, a5x, h, hlt]
  refine a0e (d51 xs[i] (hf _ (List.getElem_mem hlt))) (by simp [go_sem, a0k]) (by simp (disch := omega) [go_sem, h]) ?_
  simp (disch := omega) [go_sem, h]
  exact hK (i + 1, ys ++ [xs[i]]) _ ⟨by simp only; omega, hm, by simp [hl], by simp (disch := omega) [go_sem, h, b95, c7h]⟩ (by simp only; omega)
 ·obtain rfl : i = xs.length := by omega
  rw [List.drop_length, List.append_nil] at hm
  subst hm
  simp (disch := omega) [go_sem, a5x, h]
theorem d2a (xs : List Tn) (hn : xs.length < 2 ^ 30) (hf : ∀ x ∈ xs, x.shape.length < 2 ^ 40 /\ x.data.length < 2 ^ 40) : ACalls pg G b34 [slT xs] (slT xs) := by
 refine ACalls.shown (res := .own 3 xs.length (fm eT xs)) ?_ (by simp [go_sem])
 refine b1t rfl ?_
 simp (disch := omega) [go_sem, a8d]
 refine a08 (Nat × List Tn) (fun p st => p.1 <= xs.length /\ p.2 ++ xs.drop p.1 = xs /\ p.2.length = p.1 /\ st.s 0 = slT xs /\ st.s 3 = .own 3 p.2.length (fm eT p.2) /\ st.s 4 = li p.1) (fun p => xs.length - p.1) (0, []) ⟨by simp, rfl, rfl, by simp (disch := omega) [go_sem, fm]⟩ ?_
 rintro ⟨i, ys⟩ st K ⟨hi, hm, hl, h⟩ hK
 simp only at hi hm hl h
 by_cases hlt : i < xs.length
 ·rw [List.drop_eq_getElem_cons hlt, List.append_cons] at hm
  simp (disch := omega) [go_sem, a4y, h, hlt]
  refine a0e (e44 xs[i] (hf _ (List.getElem_mem hlt)).1 (hf _ (List.getElem_mem hlt)).2) (by simp [go_sem, a0k]) (by simp (disch := omega) [go_sem, h]) ?_
  simp (disch := omega) [go_sem, h]
  exact hK (i + 1, ys ++ [xs[i]]) _ ⟨by simp only; omega, hm, by simp [hl], by simp (disch := omega) [go_sem, h, b95, c7h]⟩ (by simp only; omega)
 ·obtain rfl : i = xs.length := by omega
  rw [List.drop_length, List.append_nil] at hm
  subst hm
  simp (disch := omega) [go_sem, a4y, h]
theorem d9e (xs : List Ds) (hn : xs.length < 2 ^ 30) (hf : ∀ x ∈ xs, x.shape.length < 2 ^ 40) : ACalls pg G b66 [slD xs] (slD xs) := by
 refine ACalls.shown (res := .own 2 xs.length (fm eD xs)) ?_ (by simp [go_sem])
 refine b3m rfl ?_
 simp (disch := omega) [go_sem, b0g]
 refine a08 (Nat × List Ds) (fun p st => p.1 <= xs.length /\ p.2 ++ xs.drop p.1 = xs /\ p.2.length = p.1 /\ st.s 0 = slD xs /\ st.s 3 = .own 2 p.2.length (fm eD p.2) /\ st.s 4 = li p.1) (fun p => xs.length - p.1) (0, []) ⟨by simp, rfl, rfl, by simp (disch := omega) [go_sem, fm]⟩ ?_
 rintro ⟨i, ys⟩ st K ⟨hi, hm, hl, h⟩ hK
 simp only at hi hm hl h
 by_cases hlt : i < xs.length
 ·rw [List.drop_eq_getElem_cons hlt, List.append_cons] at hm
  simp (disch := omega) [go_sem, a5w, h, hlt]
  refine a0e (e4w xs[i] (hf _ (List.getElem_mem hlt))) (by simp [go_sem, a0k]) (by simp (disch := omega) [go_sem, h]) ?_
  simp (disch := omega) [go_sem, h]
  exact hK (i + 1, ys ++ [xs[i]]) _ ⟨by simp only; omega, hm, by simp [hl], by simp (disch := omega) [go_sem, h, b95, c7h]⟩ (by simp only; omega)
 ·obtain rfl : i = xs.length := by omega
  rw [List.drop_length, List.append_nil] at hm
  subst hm
  simp (disch := omega) [go_sem, a5w, h]
theorem d5o (xs : List In) (hn : xs.length < 2 ^ 30) (hf : ∀ x ∈ xs, x.ins.length < 2 ^ 40 /\ x.args.length < 2 ^ 40) : ACalls pg G b5v [slJ xs] (slJ xs) := by
 refine ACalls.shown (res := .own 6 xs.length (fm eI xs)) ?_ (by simp [go_sem])
 refine b2u rfl ?_
 simp (disch := omega) [go_sem, a9f]
 refine a08 (Nat × List In) (fun p st => p.1 <= xs.length /\ p.2 ++ xs.drop p.1 = xs /\ p.2.length = p.1 /\ st.s 0 = slJ xs /\ st.s 3 = .own 6 p.2.length (fm eI p.2) /\ st.s 4 = li p.1) (fun p => xs.length - p.1) (0, []) ⟨by simp, rfl, rfl, by simp (disch := omega) [go_sem, fm]⟩ ?_
 rintro ⟨i, ys⟩ st K ⟨hi, hm, hl, h⟩ hK
 simp only at hi hm hl h
 by_cases hlt : i < xs.length
 ·rw [List.drop_eq_getElem_cons hlt, List.append_cons] at hm
  simp (disch := omega) [go_sem, a5e, h, hlt]
  refine a0e (d2l xs[i] (hf _ (List.getElem_mem hlt)).1 (hf _ (List.getElem_mem hlt)).2) (by simp [go_sem, a0k]) (by simp (disch := omega) [go_sem, h]) ?_
  simp (disch := omega) [go_sem, h]
  exact hK (i + 1, ys ++ [xs[i]]) _ ⟨by simp only; omega, hm, by simp [hl], by simp (disch := omega) [go_sem, h, b95, c7h]⟩ (by simp only; omega)
 ·obtain rfl : i = xs.length := by omega
  rw [List.drop_length, List.append_nil] at hm
  subst hm
  simp (disch := omega) [go_sem, a5e, h]
theorem d9n {p : Pl} (hp : PlL p) (hi : ∀ i ∈ p.code, InB p i) : ACalls pg G b73 [.agg (eP p)] (.agg (eP p)) := by
 have c1 := d9f (G := G) p.views hp.views (fun x hx => by have := hp.v x hx; omega)
 have c2 := d2a (G := G) p.consts hp.consts (fun x hx => by have := hp.c x hx; omega)
 have c3 := d9e (G := G) p.weights hp.weights (fun x hx => by have := hp.w x hx; omega)
 have c4 := d5o (G := G) p.code hp.code (fun x hx => by have h1 := (hi x hx).ins; have h2 := (hi x hx).args; omega)
 refine b40 rfl ?_
 simp (disch := omega) [go_sem, b1s]
 refine a0c ?_
 simp (disch := omega) [go_sem]
 refine a1j c1 (by simp [go_sem, a0k]) (by simp (disch := omega) [go_sem]) (by simp (disch := omega) [go_sem]) [7] (by simp) (by simp (disch := omega) [go_sem]) ?_
 simp (disch := omega) [go_sem]
 refine a1j c2 (by simp [go_sem, a0k]) (by simp (disch := omega) [go_sem]) (by simp (disch := omega) [go_sem]) [10] (by simp) (by simp (disch := omega) [go_sem]) ?_
 simp (disch := omega) [go_sem]
 refine a1j c3 (by simp [go_sem, a0k]) (by simp (disch := omega) [go_sem]) (by simp (disch := omega) [go_sem]) [13] (by simp) (by simp (disch := omega) [go_sem]) ?_
 simp (disch := omega) [go_sem]
 refine a1j c4 (by simp [go_sem, a0k]) (by simp (disch := omega) [go_sem]) (by simp (disch := omega) [go_sem]) [16] (by simp) (by simp (disch := omega) [go_sem]) ?_
 simp (disch := omega) [go_sem]
 refine a0d (by decide) fun s2 hs2 he2 => ?_
 simp (disch := omega) [go_sem, hs2]
theorem d53 (v : Vw) (h : v.shape.length < 2 ^ 62) : ACalls pg G b3a [.agg (eV v), .agg (eV v)] (lb true) := by
 refine b0u rfl ?_
 simp (disch := omega) [go_sem, a7r]
 refine a0b (c6z v.shape v.wide h) rfl rfl ?_
 simp (disch := omega) [go_sem]
theorem d2z (i : In) (h : i.ins.length < 2 ^ 62) (h2 : i.args.length < 2 ^ 62) : ACalls pg G a6z [.agg (eI i), .agg (eI i)] (lb true) := by
 have := d2r (G := G) i i h h2
 simpa using this
theorem f0n (x : Tn) (h : x.shape.length < 2 ^ 62) (h2 : x.data.length < 2 ^ 62) : ACalls pg G a6i [.agg (eT x), .agg (eT x)] (lb true) := d52 x.shape x.wide x.data h h2
theorem e94 (x : Ds) (h : x.shape.length < 2 ^ 62) : ACalls pg G a4u [.agg (eD x), .agg (eD x)] (lb true) := c6z x.shape x.wide h
theorem c6x (xs : List Vw) (hn : xs.length < 2 ^ 30) (hf : ∀ x ∈ xs, x.shape.length < 2 ^ 62) : ACalls pg G b2h [slV xs, slV xs] (lb true) := by
 refine a9z rfl ?_
 simp (disch := omega) [go_sem, a64]
 refine a08 Nat (fun i st => i <= xs.length /\ st.s 0 = slV xs /\ st.s 1 = slV xs /\ st.s 5 = li i) (fun i => xs.length - i) 0 ⟨by simp, by simp (disch := omega) [go_sem]⟩ ?_
 rintro i st K ⟨hi, h⟩ hK
 by_cases hlt : i < xs.length
 ·simp (disch := omega) [go_sem, a36, h, hlt]
  refine a0c ?_
  simp (disch := omega) [go_sem, h, hlt]
  refine a0i (d53 xs[i] (hf _ (List.getElem_mem hlt))) rfl rfl (by simp (disch := omega) [go_sem]) [26] (by simp) (by simp (disch := omega) [go_sem, h]) ?_
  simp (disch := omega) [go_sem, h]
  refine a0d (by decide) fun s2 hs2 he2 => ?_
  simp (disch := omega) [go_sem, hs2, h]
  exact hK (i + 1) _ ⟨by omega, by simp (disch := omega) [go_sem, hs2, h]⟩ (by omega)
 ·obtain rfl : i = xs.length := by omega
  simp (disch := omega) [go_sem, a36, h]
theorem c1y (xs : List Tn) (hn : xs.length < 2 ^ 30) (hf : ∀ x ∈ xs, x.shape.length < 2 ^ 62 /\ x.data.length < 2 ^ 62) : ACalls pg G b0q [slT xs, slT xs] (lb true) := by
 refine a8q rfl ?_
 simp (disch := omega) [go_sem, a5s]
 refine a08 Nat (fun i st => i <= xs.length /\ st.s 0 = slT xs /\ st.s 1 = slT xs /\ st.s 5 = li i) (fun i => xs.length - i) 0 ⟨by simp, by simp (disch := omega) [go_sem]⟩ ?_
 rintro i st K ⟨hi, h⟩ hK
 by_cases hlt : i < xs.length
 ·simp (disch := omega) [go_sem, a3o, h, hlt]
  refine a0c ?_
  simp (disch := omega) [go_sem, h, hlt]
  refine a0i (f0n xs[i] (hf _ (List.getElem_mem hlt)).1 (hf _ (List.getElem_mem hlt)).2) rfl rfl (by simp (disch := omega) [go_sem]) [26] (by simp) (by simp (disch := omega) [go_sem, h]) ?_
  simp (disch := omega) [go_sem, h]
  refine a0d (by decide) fun s2 hs2 he2 => ?_
  simp (disch := omega) [go_sem, hs2, h]
  exact hK (i + 1) _ ⟨by omega, by simp (disch := omega) [go_sem, hs2, h]⟩ (by omega)
 ·obtain rfl : i = xs.length := by omega
  simp (disch := omega) [go_sem, a3o, h]
theorem c6w (xs : List Ds) (hn : xs.length < 2 ^ 30) (hf : ∀ x ∈ xs, x.shape.length < 2 ^ 62) : ACalls pg G b2f [slD xs, slD xs] (lb true) := by
 refine a9w rfl ?_
 simp (disch := omega) [go_sem, a61]
 refine a08 Nat (fun i st => i <= xs.length /\ st.s 0 = slD xs /\ st.s 1 = slD xs /\ st.s 5 = li i) (fun i => xs.length - i) 0 ⟨by simp, by simp (disch := omega) [go_sem]⟩ ?_
 rintro i st K ⟨hi, h⟩ hK
 by_cases hlt : i < xs.length
 ·simp (disch := omega) [go_sem, a35, h, hlt]
  refine a0c ?_
  simp (disch := omega) [go_sem, h, hlt]
  refine a0i (e94 xs[i] (hf _ (List.getElem_mem hlt))) rfl rfl (by simp (disch := omega) [go_sem]) [26] (by simp) (by simp (disch := omega) [go_sem, h]) ?_
  simp (disch := omega) [go_sem, h]
  refine a0d (by decide) fun s2 hs2 he2 => ?_
  simp (disch := omega) [go_sem, hs2, h]
  exact hK (i + 1) _ ⟨by omega, by simp (disch := omega) [go_sem, hs2, h]⟩ (by omega)
 ·obtain rfl : i = xs.length := by omega
  simp (disch := omega) [go_sem, a35, h]
theorem c4a (xs : List In) (hn : xs.length < 2 ^ 30) (hf : ∀ x ∈ xs, x.ins.length < 2 ^ 62 /\ x.args.length < 2 ^ 62) : ACalls pg G b02 [slJ xs, slJ xs] (lb true) := by
 refine a9h rfl ?_
 simp (disch := omega) [go_sem, a6o]
 refine a08 Nat (fun i st => i <= xs.length /\ st.s 0 = slJ xs /\ st.s 1 = slJ xs /\ st.s 5 = li i) (fun i => xs.length - i) 0 ⟨by simp, by simp (disch := omega) [go_sem]⟩ ?_
 rintro i st K ⟨hi, h⟩ hK
 by_cases hlt : i < xs.length
 ·simp (disch := omega) [go_sem, a3v, h, hlt]
  refine a0c ?_
  simp (disch := omega) [go_sem, h, hlt]
  refine a0i (d2z xs[i] (hf _ (List.getElem_mem hlt)).1 (hf _ (List.getElem_mem hlt)).2) rfl rfl (by simp (disch := omega) [go_sem]) [26] (by simp) (by simp (disch := omega) [go_sem, h]) ?_
  simp (disch := omega) [go_sem, h]
  refine a0d (by decide) fun s2 hs2 he2 => ?_
  simp (disch := omega) [go_sem, hs2, h]
  exact hK (i + 1) _ ⟨by omega, by simp (disch := omega) [go_sem, hs2, h]⟩ (by omega)
 ·obtain rfl : i = xs.length := by omega
  simp (disch := omega) [go_sem, a3v, h]
theorem d5w {p : Pl} (hp : PlL p) (hi : ∀ i ∈ p.code, InB p i) : ACalls pg G b29 [.agg (eP p), .agg (eP p)] (lb true) := by
 have c1 := c6x (G := G) p.views hp.views (fun x hx => by have := hp.v x hx; omega)
 have c2 := c1y (G := G) p.consts hp.consts (fun x hx => by have := hp.c x hx; omega)
 have c3 := c6w (G := G) p.weights hp.weights (fun x hx => by have := hp.w x hx; omega)
 have c4 := c4a (G := G) p.code hp.code (fun x hx => by have h1 := (hi x hx).ins; have h2 := (hi x hx).args; omega)
 refine b0t rfl ?_
 simp (disch := omega) [go_sem, a7q]
 refine a0b c1 rfl rfl ?_
 simp (disch := omega) [go_sem]
 refine a0b c2 rfl rfl ?_
 simp (disch := omega) [go_sem]
 refine a0b c3 rfl rfl ?_
 simp (disch := omega) [go_sem]
 refine a0b c4 rfl rfl ?_
 simp (disch := omega) [go_sem]
end
end Go.Ideal.Tryz
end
section
namespace Go.Ideal.Tryz
attribute [local go_sem] eD eT eV eI eP
section
variable {G : GG} {bk : Nat -> Nat × Nat} {Q : Exit -> St -> Prop} {st : St}
theorem g2l {e : Er} (h : e.wb) : e.ok := by
 rcases h with rfl | ⟨g, hg, rfl⟩ | ⟨q, g, hg, rfl⟩
 ·exact .nil
 ·exact .s hg
 ·exact .at hg
theorem c78 {p : Pl} : (a5t p).wb := c70 b7w (b1d (fun i => (a9v (p := p) (i := i)).1.wb) _ _)
theorem d2b {p : Pl} (hp : PlB p) (hi : ∀ i ∈ p.code, InB p i) (h : st.s 1 = .var (eP p) /\ st.s 4 = li 0) (h2 : st.s 2 = .var [li 0, lb false, li 0])
  (hbad : (a04 (fun i => (a1v p i).2) p.code 0).isNil = false -> ∀ s, s.s 2 = .var [li (a04 (fun i => (a1v p i).2) p.code 0).flt.1, lb (a04 (fun i => (a1v p i).2) p.code 0).flt.2.1, li (a04 (fun i => (a1v p i).2) p.code 0).flt.2.2] -> Q .ret s)
  (hex : (a04 (fun i => (a1v p i).2) p.code 0).isNil = true -> ∀ s, s.s 2 = .var [li 0, lb false, li 0] -> Q (.exit 0) s) : AW pg G 28 (.loop a3m) Q st := by
 have hlc := hp.code
 refine a08 Nat (fun j st => j <= p.code.length /\ a04 (fun i => (a1v p i).2) p.code 0 = a04 (fun i => (a1v p i).2) (p.code.drop j) j /\ st.s 1 = .var (eP p) /\ st.s 4 = li j /\ st.s 2 = .var [li 0, lb false, li 0]) (fun j => p.code.length - j) 0 ⟨by omega, rfl, h.1, h.2, h2⟩ ?_
 clear h h2
 rintro j st K ⟨hj, hm, h⟩ hK
 by_cases hlt : j < p.code.length
 ·rw [List.drop_eq_getElem_cons hlt, a04] at hm
  have c := c74 (G := G) hp j hlt (hi _ (List.getElem_mem hlt))
  have hwb := (a9v (p := p) (i := p.code[j])).1.wb
  generalize (a1v p p.code[j]).2 = e at *
  simp (disch := omega) [go_sem, a3m, h, hlt]
  refine a0b c rfl rfl ?_
  cases he : e.isNil
  ·have h0 : ¬ eC e = 0 := fun k => by rw [(b7j hwb).1 k] at he; cases he
   rw [he, if_neg (by simp)] at hm
   have hP := b10 (G := G) (k := (j : Int)) hwb he
   simp (disch := omega) [go_sem, h, h0]
   refine a0b hP rfl rfl ?_
   rw [<- hm]
   simp (disch := omega) [go_sem, h]
   refine hbad (by rw [hm, b07, he]) _ ?_
   simp (disch := omega) [go_sem, h]
  ·have h0 : eC e = 0 := (b7j hwb).2 he
   rw [he, if_pos rfl] at hm
   simp (disch := omega) [go_sem, h, h0]
   refine hK (j + 1) _ ⟨by omega, by rw [hm]; rfl, by simp (disch := omega) [go_sem, h]⟩ (by omega)
 ·obtain rfl : j = p.code.length := by omega
  rw [List.drop_length, a04] at hm
  simp (disch := omega) [go_sem, a3m, h]
  exact hex (by rw [hm]; rfl) _ (by simp (disch := omega) [go_sem, h])
theorem d5p {p : Pl} (hl : PlL p) (hi : ∀ i ∈ p.code, InB p i) : ACalls pg G b3z [.agg (eP p)] (fE (a5t p)) := by
 have hP := d2m (G := G) hl
 have hwb := b7w (p := p)
 generalize hr : a5t p = r
 unfold a5t at hr
 refine b1j rfl ?_
 simp (disch := omega) [go_sem, a79]
 refine a0b hP rfl rfl ?_
 cases he : (a2o p).isNil
 ·have h0 : ¬ (a2o p).flt.1 = 0 := fun k => by rw [(b7j hwb).1 k] at he; cases he
  rw [orE, if_neg (by rw [he]; simp)] at hr
  subst hr
  simp (disch := omega) [go_sem, h0]
 ·have h0 : (a2o p).flt.1 = 0 := (b7j hwb).2 he
  rw [orE, if_pos he] at hr
  simp (disch := omega) [go_sem, h0]
  refine d2b (hl.b he) hi (by simp (disch := omega) [go_sem]) (by simp (disch := omega) [go_sem]) (fun hb s h => ?_) (fun hb s h => ?_)
  ·rw [hr] at h
   simp (disch := omega) [go_sem, h]
  ·rw [a48.1 hb] at hr
   subst hr
   simp (disch := omega) [go_sem, h]
   refine a0b (c31 G) rfl rfl ?_
   simp (disch := omega) [go_sem, h]
   exact ⟨rfl, rfl, rfl⟩
theorem d5x {p : Pl} (hp : PlB p) (hi : ∀ i ∈ p.code, InB p i) (hok : ∀ i ∈ p.code, (a1v p i).2.isNil = true) : ACalls pg G b30 [.agg (eP p)] (li (b61 p)) := by
 have hlc := hp.code
 refine b1k rfl ?_
 simp (disch := omega) [go_sem, a8a]
 refine a08 (Nat × Int) (fun q st => q.1 <= p.code.length /\ (0 <= q.2 /\ q.2 <= q.1 * 1024) /\ b61 p = q.2 + ((p.code.drop q.1).map fun i => (a1v p i).1).sum /\ st.s 1 = .var (eP p) /\ st.s 3 = li q.2 /\ st.s 4 = li q.1) (fun q => p.code.length - q.1) (0, 0) ⟨by simp, by simp, by simp [b61], by simp (disch := omega) [go_sem]⟩ ?_
 rintro ⟨j, u⟩ st K ⟨hj, hu, hm, h⟩ hK
 simp only at hj hu hm h
 by_cases hlt : j < p.code.length
 ·rw [List.drop_eq_getElem_cons hlt, List.map_cons, List.sum_cons] at hm
  have hr := (a9v (p := p) (i := p.code[j])).2
  have c := d2c (G := G) hp j hlt (hi _ (List.getElem_mem hlt)) (hok _ (List.getElem_mem hlt))
  generalize (a1v p p.code[j]).1 = e at *
  simp (disch := omega) [go_sem, a4v, h, hlt]
  refine a0b c rfl rfl ?_
  simp (disch := omega) [go_sem, h]
  refine hK (j + 1, u + e) _ ⟨by simp only; omega, by simp only; omega, by simp only; omega, by simp (disch := omega) [go_sem, h]⟩ (by simp only; omega)
 ·obtain rfl : j = p.code.length := by omega
  rw [List.drop_length, List.map_nil, List.sum_nil, Int.add_zero] at hm
  simp (disch := omega) [go_sem, a4v, h, hm]
theorem g1n (hS : Sent G bk) {e : Er} (h : e.wb) : ACalls pg G b03 [a0s bk e, fE e] (lb true) := by
 have := d2s hS (g2l h) e.flt
 simpa using this
theorem c8i (hS : Sent G bk) (hA : Around G bk) (p : Pl) (hf : p.fin) : ACalls pg G b0n [.agg (eP p)] (lb true) := by
 refine a8m rfl ?_
 simp (disch := omega) [go_sem, a5o]
 refine a0b (d1a hS hA) rfl rfl ?_
 simp (disch := omega) [go_sem]
 refine a0b (d3e p hf) rfl rfl ?_
 cases hw : b6e p
 ·simp (disch := omega) [go_sem]
 obtain ⟨hl, hi⟩ := d3f hw
 have hV := b70 hS hA hl hi
 have hT := d55 hS hA hl hi
 have hC := d5p (G := G) hl hi
 have hSm := g1n (G := G) hS (c78 (p := p))
 have hwb := c78 (p := p)
 simp (disch := omega) [go_sem]
 refine a0e (d9n hl hi) (by simp [go_sem, a0k]) (by simp (disch := omega) [go_sem]) ?_
 simp (disch := omega) [go_sem]
 refine a0b hC rfl rfl ?_
 simp (disch := omega) [go_sem]
 refine a0e hT (by simp [go_sem, a0k]) (by simp (disch := omega) [go_sem]) ?_
 simp (disch := omega) [go_sem]
 refine a0c ?_
 simp (disch := omega) [go_sem]
 refine a1j hV (a0m _) (by simp (disch := omega) [go_sem]) (by simp (disch := omega) [go_sem]) [29] (by simp) (by simp (disch := omega) [go_sem]) ?_
 simp (disch := omega) [go_sem]
 refine a1j hSm rfl (by simp (disch := omega) [go_sem]) (by simp (disch := omega) [go_sem]) [31] (by simp) (by simp (disch := omega) [go_sem]) ?_
 simp (disch := omega) [go_sem]
 refine a1j hSm rfl (by simp (disch := omega) [go_sem]) (by simp (disch := omega) [go_sem]) [36] (by simp) (by simp (disch := omega) [go_sem]) ?_
 simp (disch := omega) [go_sem]
 refine a1j (d5w hl hi) rfl (by simp (disch := omega) [go_sem]) (by simp (disch := omega) [go_sem]) [42] (by simp) (by simp (disch := omega) [go_sem]) ?_
 simp (disch := omega) [go_sem]
 refine a0d (by decide) fun s2 hs2 he2 => ?_
 simp (disch := omega) [go_sem, hs2]
 cases he : (a5t p).isNil
 ·have h0 : ¬ (a5t p).flt.1 = 0 := fun k => by rw [(b7j hwb).1 k] at he; cases he
  simp (disch := omega) [go_sem, hs2, h0, he]
 ·have h0 : (a5t p).flt.1 = 0 := (b7j hwb).2 he
  obtain ⟨h1, h2⟩ := c6q he
  have hRT := d5x (G := G) (hl.b h1) hi (b50 h2)
  simp (disch := omega) [go_sem, hs2, h0, he]
  refine a0b hRT rfl rfl ?_
  simp (disch := omega) [go_sem, hs2, h0, he]
end
end Go.Ideal.Tryz
end
