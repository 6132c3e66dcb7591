/- Part Qbh of the proof: a machine with trees for values, its soundness, and walks on it. -/
import Derived.Test.YtfncabcldhemkaaGreatDoorQbg
import Derived.Test.YtfncabcldhemkaaGreatDoorQan
set_option linter.unusedVariables false
set_option linter.unusedSimpArgs false
set_option maxHeartbeats 8000000
set_option maxRecDepth 200000
section
namespace Go.Ideal.Tryz
attribute [local go_sem] eD eT eV eI eP
section
variable {G : GG} {bk : Nat -> Nat × Nat} {Q : Exit -> St -> Prop} {st : St}
theorem e7b (hS : Sent G bk) {p : Pl} (hp : PlB p) (hi : ∀ i ∈ p.code, InB p i) {at_ : Int}
  (h : st.s 1 = li at_ /\ st.s 2 = .var (eP p) /\ st.s 6 = li 0)
  (hex : ∀ s, s.s 1 = li at_ /\ s.s 2 = .var (eP p) -> Q (.exit 0) s) : AW pg G 85 (.loop a2c) Q st := by
 have hlc := hp.code
 refine a08 Nat (fun j st => j <= p.code.length /\ st.s 1 = li at_ /\ st.s 2 = .var (eP p) /\ st.s 6 = li j) (fun j => p.code.length - j) 0 ⟨by omega, h⟩ ?_
 clear h
 rintro j st K ⟨hj, h⟩ hK
 by_cases hlt : j < p.code.length
 ·have hi0 := hi _ (List.getElem_mem hlt)
  have hCk := c74 (G := G) hp j hlt hi0
  have hCo := d0t hS hp hi j hlt
  have hIn := d1i hS hp hi j hlt
  have hRC := d2c (G := G) hp j hlt hi0
  have hsn := (a9v (p := p) (i := p.code[j])).1
  have hb0 := c8q (p := p) (i := p.code[j])
  have hrg := (a9v (p := p) (i := p.code[j])).2
  have hIs := isE (G := G) hS hsn
  generalize a1v p p.code[j] = r at *
  obtain ⟨c, e⟩ := r
  simp only at hCk hCo hIn hRC hsn hb0 hrg hIs
  simp (disch := omega) [go_sem, a2c, h, hlt]
  refine a0b hCk rfl rfl ?_
  simp (disch := omega) [go_sem, h]
  refine a0e hCo (by simp [go_sem, a0k]) (by simp (disch := omega) [go_sem, h]) ?_
  simp (disch := omega) [go_sem, h]
  refine a0e hIn (a0m _) (by simp (disch := omega) [go_sem, h]) ?_
  simp (disch := omega) [go_sem, h]
  refine a0e hIs rfl (by simp (disch := omega) [go_sem, h]) ?_
  simp (disch := omega) [go_sem, h]
  refine a0e hIs rfl (by simp (disch := omega) [go_sem, h]) ?_
  simp (disch := omega) [go_sem, h]
  cases he : e.isNil
  ·have h0 : ¬ eC e = 0 := fun k => by rw [(c7g hsn).1 k] at he; cases he
   have hc0 := hb0 he
   subst hc0
   simp (disch := omega) [go_sem, h, h0]
   exact hK (j + 1) _ ⟨by omega, by simp (disch := omega) [go_sem, h]⟩ (by omega)
  ·have h0 : eC e = 0 := (c7g hsn).2 he
   simp (disch := omega) [go_sem, h, h0]
   refine a0b (hRC he) rfl rfl ?_
   simp (disch := omega) [go_sem, h, h0]
   exact hK (j + 1) _ ⟨by omega, by simp (disch := omega) [go_sem, h]⟩ (by omega)
 ·obtain rfl : j = p.code.length := by omega
  simp (disch := omega) [go_sem, a2c, h]
  exact hex _ (by simp (disch := omega) [go_sem, h])
theorem c27 (hS : Sent G bk) (hA : Around G bk) (p : Pl) (hf : p.fin) (at_ : Int) : ACalls pg G a8v [.agg (eP p), li at_] (lb true) := by
 refine a7o rfl ?_
 simp (disch := omega) [go_sem, a44]
 refine a0b (d1a hS hA) rfl rfl ?_
 simp (disch := omega) [go_sem]
 refine a0b (d3e p hf) rfl rfl ?_
 cases hw : b6e p
 ·simp (disch := omega) [go_sem]
 obtain ⟨hl, hi⟩ := d3f hw
 have hlc := hl.code
 simp (disch := omega) [go_sem]
 refine a0b (d2m hl) rfl rfl ?_
 have hwb : eC (a2o p) = 0 -> (a2o p).isNil = true := fun k => by
  cases hn : a2o p with
  | nil => rfl
  | s g =>
   exfalso
   rw [hn] at k
   have : (a2o p).wb := b7w
   rw [hn] at this
   rcases this with h | ⟨g', hg, h⟩ | ⟨_, g', hg, h⟩
   ·cases h
   ·injection h with h; subst h; exact a6k g hg k
   ·cases h
  | «at» q e =>
   exfalso
   have : (a2o p).wb := b7w
   rw [hn] at this k
   rcases this with h | ⟨g', hg, h⟩ | ⟨_, g', hg, h⟩
   ·cases h
   ·cases h
   ·injection h with h1 h2; subst h1 h2; exact a6k g' hg k
 by_cases h0 : (a2o p).flt.1 = 0
 rotate_left
 ·simp (disch := omega) [go_sem, h0]
 have hP := hwb h0
 have hp := hl.b hP
 simp (disch := omega) [go_sem, h0]
 refine e7b hS hp hi (at_ := at_) (by simp (disch := omega) [go_sem]) (fun s h => ?_)
 by_cases a1 : at_ < 0
 ·have hIn := c7k hS hp at_ (.inl a1)
  simp (disch := omega) [go_sem, h, a1]
  refine a0e hIn (a0m _) (by simp (disch := omega) [go_sem, h]) ?_
  simp (disch := omega) [go_sem, h]
  have hIs := isE (G := G) hS (b5i (g := 0) (by decide))
  rw [eC0] at hIs
  refine a0e hIs rfl (by simp (disch := omega) [go_sem, h]) ?_
  simp (disch := omega) [go_sem, h]
 by_cases a2 : (p.code.length : Int) <= at_
 ·have hIn := c7k hS hp at_ (.inr a2)
  simp (disch := omega) [go_sem, h, a1, a2]
  refine a0e hIn (a0m _) (by simp (disch := omega) [go_sem, h]) ?_
  simp (disch := omega) [go_sem, h]
  have hIs := isE (G := G) hS (b5i (g := 0) (by decide))
  rw [eC0] at hIs
  refine a0e hIs rfl (by simp (disch := omega) [go_sem, h]) ?_
  simp (disch := omega) [go_sem, h]
 ·simp (disch := omega) [go_sem, h, a1, a2]
end
end Go.Ideal.Tryz
end
