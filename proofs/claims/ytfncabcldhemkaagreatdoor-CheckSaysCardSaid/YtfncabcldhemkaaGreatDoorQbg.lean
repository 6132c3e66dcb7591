/- Part Qbg of the proof: a machine with trees for values, its soundness, and walks on it. -/
import Derived.Test.YtfncabcldhemkaaGreatDoorQbf
import Derived.Test.YtfncabcldhemkaaGreatDoorQaj
import Derived.Test.YtfncabcldhemkaaGreatDoorQan
import Derived.Test.YtfncabcldhemkaaGreatDoorQay
import Derived.Test.YtfncabcldhemkaaGreatDoorQbe
set_option linter.unusedVariables false
set_option linter.unusedSimpArgs false
set_option maxHeartbeats 16000000
set_option maxRecDepth 200000
section
namespace Go.Ideal.Tryz
attribute [local go_sem] eD eT eV eI eP
section
variable {G : GG} {bk : Nat -> Nat × Nat} {Q : Exit -> St -> Prop} {st : St}
theorem d20 (sh : List Int) (w : Bool) (h : sh.length < 2 ^ 62) : ACalls pg G b63 [.agg [slI sh, lb w]] (li (a32 sh w)) := by
 have hr := a7c sh
 refine b3j rfl ?_
 simp (disch := omega) [go_sem, b0d]
 refine a0b (a7v sh h) rfl rfl ?_
 cases w
 ·simp (disch := omega) [go_sem, a32]
 ·simp (disch := omega) [go_sem, a32, Int.mul_comm]
def b4a (d : Int) : Pl := ⟨8, [⟨0, [2], false⟩, ⟨4, [2], false⟩], [], [], [⟨4, d, [0, 0], [], 0, 2⟩], 0, 1⟩
theorem d6h (d : Int) : ACalls pg G b5o [li d] (.agg (eP (b4a d))) := by
 refine ACalls.shown (res := .agg [li 8, .own 3 2 [li 0, .sl 1 [li 2], lb false, li 4, .sl 1 [li 2], lb false], .own 3 0 [], .own 2 0 [], .own 6 1 [li 4, li d, .own 1 2 [li 0, li 0], .own 1 0 [], li 0, li 2], li 0, li 1]) ?_ (by rfl)
 refine b2m rfl ?_
 simp (disch := omega) [go_sem, a85, a7a, a0r]
theorem d6i (d : Int) : PlB (b4a d) := ⟨by simp [b4a], by simp [b4a], by simp [b4a], by simp [b4a], by simp [b4a], by simp [b4a], by simp [b4a]⟩
theorem d6j (d : Int) : ∀ i ∈ (b4a d).code, InB (b4a d) i := by
 intro i h
 simp only [b4a, List.mem_singleton] at h
 subst h
 exact ⟨by simp, by simp⟩
theorem b70 (hS : Sent G bk) (hA : Around G bk) {p : Pl} (hp : PlL p) (hi : ∀ i ∈ p.code, InB p i) : ACalls pg G a9r [.agg (eP p)] (a0s bk (a5t p)) := e0d hS hA hp hi (d9b hS hA hp)
theorem d55 (hS : Sent G bk) (hA : Around G bk) {p : Pl} (hp : PlL p) (hi : ∀ i ∈ p.code, InB p i) : ACalls pg G b3v [.agg (eP p)] (.tup [li (if (a5t p).isNil = true then b61 p else 0), a0s bk (a5t p)]) := e0a hS hp hi (b70 hS hA hp hi)
theorem d1a (hS : Sent G bk) (hA : Around G bk) : ACalls pg G b3x [] (lb true) := by
 have v1 : a5t (b4a 1) = .nil := by rfl
 have v0 : a5t (b4a 0) = .at 0 (.s 8) := by rfl
 have c1 := b70 hS hA (d6i 1).l (d6j 1)
 have c0 := b70 hS hA (d6i 0).l (d6j 0)
 rw [v1] at c1
 rw [v0] at c0
 refine b1h rfl ?_
 simp (disch := omega) [go_sem, a77]
 refine a0e (d6h 1) (by simp [go_sem, a0k]) (by simp (disch := omega) [go_sem]) ?_
 simp (disch := omega) [go_sem]
 refine a0e c1 (a0m _) (by simp (disch := omega) [go_sem]) ?_
 simp (disch := omega) [go_sem, Er.isNil]
 refine a0e (d6h 0) (by simp [go_sem, a0k]) (by simp (disch := omega) [go_sem]) ?_
 simp (disch := omega) [go_sem]
 refine a0e c0 (a0m _) (by simp (disch := omega) [go_sem]) ?_
 simp (disch := omega) [go_sem]
 have hp := b7x G 108 0
 rw [if_neg (by decide)] at hp
 refine a0b hp rfl rfl ?_
 simp (disch := omega) [go_sem]
 refine a0e (d2s hS (e := .at 0 (.s 8)) (by constructor; decide) (108, true, 0)) rfl (by simp (disch := omega) [go_sem]) ?_
 simp (disch := omega) [go_sem]
 rfl
end
end Go.Ideal.Tryz
end
section
namespace Go.Ideal.Tryz
attribute [local go_sem] eD eT eV eI eP
section
variable {G : GG} {bk : Nat -> Nat × Nat} {Q : Exit -> St -> Prop} {st : St}
theorem c11 (p : Pl) (k : Int) (hp : p.views.length < 2 ^ 62) : ACalls pg G b5r [.agg (eP p), li k] (lb (a14 p k)) := by
 refine b2p rfl ?_
 by_cases h : 0 <= k <;> simp (disch := omega) [go_sem, a88, h, a14]
def a9k (op : Int) : Bool := decide (op = 2) || (decide (op = 3) || a0x op)
theorem c8j (i : In) : b9o i = a9k i.op := rfl
theorem a6f (op : Int) : ACalls pg G b32 [li op] (lb (a9k op)) := by
 refine b1m rfl ?_
 by_cases h2 : op = 2
 ·subst h2; simp (disch := omega) [go_sem, a3y, a9k]
 by_cases h3 : op = 3
 ·subst h3; simp (disch := omega) [go_sem, a3y, a9k]
 simp (disch := omega) [go_sem, a3y, a9k, h2, h3]
 refine a0b (a17 op) rfl rfl ?_
 simp (disch := omega) [go_sem, h2, h3]
theorem d5n (a b : Vw) (ha : a.shape.length < 2 ^ 62) (hb : b.shape.length < 2 ^ 62) (ao : -4611686018427387904 <= a.off /\ a.off < 4611686018427387904) (bo : -4611686018427387904 <= b.off /\ b.off < 4611686018427387904) : ACalls pg G b3y [.agg (eV a), .agg (eV b)] (lb (a5n a b)) := by
 have ra := a5v a.shape a.wide
 have rb := a5v b.shape b.wide
 refine b1i rfl ?_
 simp (disch := omega) [go_sem, a78]
 refine a0c ?_
 simp (disch := omega) [go_sem]
 refine a0i (d20 a.shape a.wide ha) rfl rfl (by simp (disch := omega) [go_sem, a0f, a1a]) [9] (by simp) (by simp (disch := omega) [go_sem]) ?_
 by_cases c : a.off + a32 a.shape a.wide <= b.off
 ·simp (disch := omega) [go_sem, a0f, a1a, c]
  refine a0d (by decide) fun s2 hs2 he2 => ?_
  simp (disch := omega) [go_sem, hs2, a5n, c]
 ·simp (disch := omega) [go_sem, a0f, a1a, c]
  refine a0i (d20 b.shape b.wide hb) rfl rfl (by simp (disch := omega) [go_sem, a0f, a1a]) [19] (by simp) (by simp (disch := omega) [go_sem, c]) ?_
  simp (disch := omega) [go_sem, a0f, a1a, c]
  refine a0d (by decide) fun s2 hs2 he2 => ?_
  simp (disch := omega) [go_sem, hs2, a5n, c]
theorem d2d {p : Pl} {i : In} (hn : i.ins.length < 2 ^ 30) (hv : p.views.length < 2 ^ 40) (hk : ∀ k ∈ i.ins, 0 <= k /\ k < (p.views.length : Int))
  (h : st.s 2 = .var (eP p) /\ st.s 3 = .var (eI i) /\ st.s 5 = .own 2 0 [] /\ st.s 6 = li 0)
  (hex : ∀ s, s.s 5 = dsO (a83 p i) -> Q (.exit 0) s) : AW pg G 28 (.loop a3n) Q st := by
 refine a08 (Nat × List Ds) (fun q st => q.1 <= i.ins.length /\ q.2.length = q.1 /\ q.2 ++ (i.ins.drop q.1).map (fun k => (p.views[k.toNat]!).ds) = a83 p i /\ st.s 2 = .var (eP p) /\ st.s 3 = .var (eI i) /\ st.s 5 = dsO q.2 /\ st.s 6 = li q.1) (fun q => i.ins.length - q.1) (0, []) ⟨by simp, rfl, by simp [a83], by simpa [dsO, fm] using h⟩ ?_
 clear h
 rintro ⟨n, l⟩ st K ⟨hi, hlen, hm, h⟩ hK
 simp only at hi hlen hm h
 by_cases hlt : n < i.ins.length
 ·rw [List.drop_eq_getElem_cons hlt, List.map_cons, List.append_cons] at hm
  obtain ⟨k1, k2⟩ := hk _ (List.getElem_mem hlt)
  obtain ⟨m, hkm⟩ := Int.eq_ofNat_of_zero_le k1
  rw [hkm] at hm k2
  have hm2 : m < p.views.length := by omega
  simp (disch := omega) [go_sem, a3n, h, hlt]
  refine a0c ?_
  simp (disch := omega) [go_sem, h, hlt, hkm, hm2]
  refine a0d (by decide) fun s2 hs2 he2 => ?_
  simp (disch := omega) [go_sem, hs2, h]
  refine hK (n + 1, l ++ [(p.views[m]).ds]) _ ⟨by simp only; omega, by simp [hlen], by simpa [hm2] using hm, by simp (disch := omega) [go_sem, hs2, h, b95, Vw.ds, hlen, fm]⟩ (by simp only; omega)
 ·obtain rfl : n = i.ins.length := by omega
  rw [List.drop_length, List.map_nil, List.append_nil] at hm
  subst hm
  simp (disch := omega) [go_sem, a3n, h]
  exact hex _ (by simp (disch := omega) [go_sem, h])
theorem c76 (p : Pl) (i : In) (hn : i.ins.length < 2 ^ 30) (hv : p.views.length < 2 ^ 40) (hk : ∀ k ∈ i.ins, 0 <= k /\ k < (p.views.length : Int)) : ACalls pg G b31 [.agg (eP p), .agg (eI i)] (slD (a83 p i)) := by
 refine ACalls.shown (res := dsO (a83 p i)) ?_ (by simp [go_sem])
 refine b1l rfl ?_
 simp (disch := omega) [go_sem, a8b]
 refine d2d (p := p) (i := i) hn hv hk (by simp (disch := omega) [go_sem]) (fun s h => ?_)
 simp (disch := omega) [go_sem, h]
def b5m (p : Pl) (i : In) : Int := if a0x i.op = true then opU i.op i.args (a83 p i) else 1
theorem c10 {p : Pl} (hp : PlB p) {i : In} (hi : InB p i) (hins : ∀ k ∈ i.ins, a14 p k = true) (hok : a0x i.op = true -> (opR i.op i.args (a83 p i)).2.isNil = true) : ACalls pg G b5q [.agg (eP p), .agg (eI i)] (li (b5m p i)) := by
 have hlv := hp.views
 have hli := hi.ins
 have hla := hi.args
 have hk : ∀ k ∈ i.ins, 0 <= k /\ k < (p.views.length : Int) := fun k h => by
  have := hins k h
  simpa [a14] using this
 have hD := c76 (G := G) p i hli (by omega) hk
 have hl : (a83 p i).length < 2 ^ 40 := by simp [a83]; omega
 have hsh : ∀ d ∈ a83 p i, d.shape.length < 2 ^ 40 := by
  intro d hd
  simp only [a83, List.mem_map] at hd
  obtain ⟨k, hk1, rfl⟩ := hd
  obtain ⟨n, hn, hnl⟩ := a97 (hins k hk1)
  have := hp.v _ (List.getElem_mem hnl)
  simp [hn, hnl, Vw.ds]
  omega
 have hK := a17 (G := G) i.op
 refine b2o rfl ?_
 simp (disch := omega) [go_sem, a87]
 refine a0b hK rfl rfl ?_
 unfold b5m
 cases k : a0x i.op
 ·simp (disch := omega) [go_sem, k]
 ·have hU := d9z (G := G) i.op i.args (a83 p i) hsh hl (by omega) (hok k)
  simp (disch := omega) [go_sem, k]
  refine a0c ?_
  simp (disch := omega) [go_sem]
  refine a1j hD (by simp [go_sem, a0k]) (by simp (disch := omega) [go_sem]) (by simp (disch := omega) [go_sem, a0f, a1a]) [17] (by simp) (by simp (disch := omega) [go_sem]) ?_
  simp (disch := omega) [go_sem, a0f, a1a]
  refine a1j hU (by simp [go_sem, a0k]) (by simp (disch := omega) [go_sem]) (by simp (disch := omega) [go_sem, a0f, a1a]) [18] (by simp) (by simp (disch := omega) [go_sem]) ?_
  simp (disch := omega) [go_sem, a0f, a1a]
  refine a0d (by decide) fun s2 hs2 he2 => ?_
  simp (disch := omega) [go_sem, hs2]
end
end Go.Ideal.Tryz
end
section
namespace Go.Ideal.Tryz
theorem d3f {p : Pl} (h : b6e p = true) : PlL p /\ ∀ i ∈ p.code, InB p i := by
 simp only [b6e, c4m, Bool.and_eq_true, decide_eq_true_eq, List.all_eq_true] at h
 obtain ⟨⟨⟨⟨⟨⟨h1, h2⟩, h3⟩, h4, h5⟩, h6⟩, h7⟩, h8⟩ := h
 refine ⟨⟨by omega, by omega, by omega, by omega, fun v hv => ?_, fun v hv => ?_, fun v hv => ?_⟩, fun i hi => ?_⟩
 ·have := h6 v hv; simp [b17] at this; omega
 ·have := h5 v hv; simp [b6z] at this; omega
 ·have := h7 v hv; simp [b16] at this; omega
 ·have := h8 i hi; simp [a7w] at this; exact ⟨by omega, by omega⟩
end Go.Ideal.Tryz
end
section
namespace Go.Ideal.Tryz
attribute [local go_sem] eD eT eV eI eP
section
variable {G : GG} {bk : Nat -> Nat × Nat} {Q : Exit -> St -> Prop} {st : St}
theorem c7g {e : Er} (h : e.snt) : eC e = 0 ↔ e.isNil = true := by
 rcases h with rfl | ⟨g, hg, rfl⟩
 ·exact ⟨fun _ => rfl, fun _ => rfl⟩
 ·exact ⟨fun h => absurd h (a6k g hg), fun h => by cases h⟩
theorem d5r {p : Pl} (hp : PlB p) {i : In} (hli : i.ins.length < 2 ^ 30)
  (h : st.s 2 = .var (eP p) /\ st.s 5 = .var (eI i) /\ st.s 6 = li 0)
  (hbad : (i.ins.all (a14 p)) = false -> ∀ s, s.s 4 = li 107 -> Q .ret s)
  (hex : (i.ins.all (a14 p)) = true -> ∀ s, s.s 2 = .var (eP p) /\ s.s 5 = .var (eI i) -> Q (.exit 0) s) : AW pg G 282 (.loop a2h) Q st := by
 have hlv := hp.views
 refine a08 Nat (fun j st => j <= i.ins.length /\ (i.ins.all (a14 p)) = ((i.ins.drop j).all (a14 p)) /\ st.s 2 = .var (eP p) /\ st.s 5 = .var (eI i) /\ st.s 6 = li j) (fun j => i.ins.length - j) 0 ⟨by omega, rfl, h⟩ ?_
 clear h
 rintro j st K ⟨hi, hm, h⟩ hK
 by_cases hlt : j < i.ins.length
 ·rw [List.drop_eq_getElem_cons hlt, List.all_cons] at hm
  simp (disch := omega) [go_sem, a2h, h, hlt]
  refine a0c ?_
  simp (disch := omega) [go_sem, h, hlt]
  refine a0i (c11 p i.ins[j] (by omega)) rfl rfl (by simp (disch := omega) [go_sem, a0f, a1a]) [69] (by simp) (by simp (disch := omega) [go_sem, h]) ?_
  cases ha : a14 p i.ins[j]
  ·rw [ha, Bool.false_and] at hm
   simp (disch := omega) [go_sem, h, a0f, a1a]
   refine a0d (by decide) fun s2 hs2 he2 => ?_
   simp (disch := omega) [go_sem, hs2, h]
   exact hbad hm _ (by simp (disch := omega) [go_sem, hs2, h])
  ·rw [ha, Bool.true_and] at hm
   simp (disch := omega) [go_sem, h, a0f, a1a]
   refine a0d (by decide) fun s2 hs2 he2 => ?_
   simp (disch := omega) [go_sem, hs2, h]
   exact hK (j + 1) _ ⟨by omega, hm, by simp (disch := omega) [go_sem, hs2, h]⟩ (by omega)
 ·obtain rfl : j = i.ins.length := by omega
  rw [List.drop_length, List.all_nil] at hm
  simp (disch := omega) [go_sem, a2h, h]
  exact hex hm _ (by simp (disch := omega) [go_sem, h])
theorem g1f {p : Pl} (hp : PlB p) {i : In} {m : Nat} (hml : m < p.views.length) (hm0 : i.dst = (m : Int)) (hli : i.ins.length < 2 ^ 30) (hins : ∀ k ∈ i.ins, a14 p k = true)
  (h : st.s 2 = .var (eP p) /\ st.s 5 = .var (eI i) /\ st.s 11 = li 0)
  (hbad : (i.ins.all fun k => a5n p.views[m] p.views[k.toNat]!) = false -> ∀ s, s.s 4 = li 108 -> Q .ret s)
  (hex : (i.ins.all fun k => a5n p.views[m] p.views[k.toNat]!) = true -> ∀ s, s.s 2 = .var (eP p) /\ s.s 5 = .var (eI i) -> Q (.exit 3) s) : AW pg G 282 (.loop a2i) Q st := by
 have hlv := hp.views
 refine a08 Nat (fun j st => j <= i.ins.length /\ (i.ins.all fun k => a5n p.views[m] p.views[k.toNat]!) = ((i.ins.drop j).all fun k => a5n p.views[m] p.views[k.toNat]!) /\ st.s 2 = .var (eP p) /\ st.s 5 = .var (eI i) /\ st.s 11 = li j) (fun j => i.ins.length - j) 0 ⟨by omega, rfl, h⟩ ?_
 clear h
 rintro j st K ⟨hi, hm, h⟩ hK
 by_cases hlt : j < i.ins.length
 ·rw [List.drop_eq_getElem_cons hlt, List.all_cons] at hm
  obtain ⟨n, hn, hnl⟩ := a97 (hins _ (List.getElem_mem hlt))
  have hv := hp.v _ (List.getElem_mem hml)
  have hv2 := hp.v _ (List.getElem_mem hnl)
  rw [hn, show p.views[((n : Int)).toNat]! = p.views[n] by simp [hnl]] at hm
  simp (disch := omega) [go_sem, a2i, h, hlt, hn, hm0]
  refine a0c ?_
  simp (disch := omega) [go_sem, h, hlt, hn, hnl, hml, hm0]
  refine a0i (d5n p.views[m] p.views[n] (by omega) (by omega) hv.2 hv2.2) rfl rfl (by simp (disch := omega) [go_sem, a0f, a1a]) [215] (by simp) (by simp (disch := omega) [go_sem, h]) ?_
  cases ha : a5n p.views[m] p.views[n]
  ·rw [ha, Bool.false_and] at hm
   simp (disch := omega) [go_sem, h, a0f, a1a]
   refine a0d (by decide) fun s2 hs2 he2 => ?_
   simp (disch := omega) [go_sem, hs2, h]
   exact hbad hm _ (by simp (disch := omega) [go_sem, hs2, h])
  ·rw [ha, Bool.true_and] at hm
   simp (disch := omega) [go_sem, h, a0f, a1a]
   refine a0d (by decide) fun s2 hs2 he2 => ?_
   simp (disch := omega) [go_sem, hs2, h]
   exact hK (j + 1) _ ⟨by omega, hm, by simp (disch := omega) [go_sem, hs2, h]⟩ (by omega)
 ·obtain rfl : j = i.ins.length := by omega
  rw [List.drop_length, List.all_nil] at hm
  simp (disch := omega) [go_sem, a2i, h]
  exact hex hm _ (by simp (disch := omega) [go_sem, h])
end
end Go.Ideal.Tryz
end
section
namespace Go.Ideal.Tryz
attribute [local go_sem] eD eT eV eI eP
section
variable {G : GG} {bk : Nat -> Nat × Nat} {Q : Exit -> St -> Prop} {st : St}
theorem c74 {p : Pl} (hp : PlB p) (k : Nat) (hk : k < p.code.length) (hi0 : InB p p.code[k]) : ACalls pg G a9s [.agg (eP p), li k] (li (eC (a1v p p.code[k]).2)) := by
 have hlv := hp.views
 have hlc := hp.code
 have hlk := hp.consts
 have hlw := hp.weights
 obtain ⟨i, hik⟩ : ∃ i, p.code[k] = i := ⟨_, rfl⟩
 rw [hik] at hi0 ⊢
 have hli := hi0.ins
 have hla := hi0.args
 generalize hr : a1v p i = r
 rw [a1v] at hr
 simp only [c8j] at hr
 refine a7y rfl ?_
 simp (maxSteps := 999999) (disch := omega) [go_sem, hik, hk, a49]
 refine a0b (a6f i.op) rfl rfl ?_
 cases hd : a9k i.op
 ·simp only [hd, true_and, Bool.false_eq_true, false_and, if_false, if_true] at hr
  by_cases o : i.op = 22 \/ i.op = 23 \/ i.op = 24
  rotate_left
  ·simp only [not_or] at o
   obtain ⟨o1, o2, o3⟩ := o
   rw [if_pos (by omega)] at hr
   subst hr
   simp (maxSteps := 999999) (disch := omega) [go_sem, hik, hk, o1, o2, o3, eC5]
  rw [if_neg (by omega)] at hr
  rcases o with o | o | o
  ·simp (maxSteps := 999999) (disch := omega) [go_sem, hik, hk, o]
   have hM := a6f (G := G) 22
   rw [show a9k 22 = false from rfl] at hM
   refine a0b hM rfl rfl ?_
   simp (maxSteps := 999999) (disch := omega) [go_sem, hik, hk, o]
   refine d5r hp hli (by simp (maxSteps := 999999) (disch := omega) [go_sem, hik, hk, o]) (fun hb s h => ?_) (fun hb s h => ?_)
   ·rw [if_pos hb] at hr
    subst hr
    simp (maxSteps := 999999) (disch := omega) [go_sem, hik, hk, h, eC0]
   rw [if_neg (by simp [hb])] at hr
   simp (maxSteps := 999999) (disch := omega) [go_sem, hik, hk, h, o]
   refine a0b hM rfl rfl ?_
   simp (maxSteps := 999999) (disch := omega) [go_sem, hik, hk, h, o]
   have hje : a6m p i = (if i.args.length = 1 /\ i.ins.length = 0 then (if 0 < 1 /\ (i.args[0]! < 0 \/ (p.code.length : Int) < i.args[0]!) then .s 10 else .nil) else .s 6) := by
    unfold a6m
    rw [o]
    rfl
   by_cases a1 : i.args.length = 1
   rotate_left
   ·have hj : a6m p i = .s 6 := by rw [hje, if_neg (fun k => a1 k.1)]
    rw [hj, if_neg (by simp [Er.isNil])] at hr
    subst hr
    have a1' : ¬ (i.args.length : Int) = 1 := by omega
    skip
    simp (maxSteps := 999999) (disch := omega) [go_sem, hik, hk, h, o, a1', eC6]
   by_cases i0 : i.ins.length = 0
   rotate_left
   ·have hj : a6m p i = .s 6 := by rw [hje, if_neg (fun k => i0 k.2)]
    rw [hj, if_neg (by simp [Er.isNil])] at hr
    subst hr
    have i0' : ¬ (i.ins.length : Int) = 0 := by omega
    have i0n : i.ins ≠ [] := by intro e; rw [e] at i0; exact i0 rfl
    skip
    simp (maxSteps := 999999) (disch := omega) [go_sem, hik, hk, h, o, a1, i0', eC6, i0n]
   have i0e : i.ins = [] := List.eq_nil_of_length_eq_zero i0
   obtain ⟨a, hai⟩ := a7x a1
   rw [if_pos ⟨a1, i0⟩, hai] at hje
   simp only [List.getElem!_cons_zero] at hje
   simp (maxSteps := 999999) (disch := omega) [go_sem, hik, hk, h, o, a1, hai, i0e]
   by_cases b1 : a < 0
   ·have hj : a6m p i = .s 10 := hje.trans (if_pos ⟨by decide, .inl b1⟩)
    rw [hj, if_neg (by simp [Er.isNil])] at hr
    subst hr
    refine a0c ?_
    simp (maxSteps := 999999) (disch := omega) [go_sem, hik, hk, h, hai, b1]
    refine a0d (by decide) fun s7 hs7 he7 => ?_
    simp (maxSteps := 999999) (disch := omega) [go_sem, hik, hk, hs7, h, b1, f2a]
   by_cases b2 : (p.code.length : Int) < a
   ·have hj : a6m p i = .s 10 := hje.trans (if_pos ⟨by decide, .inr b2⟩)
    rw [hj, if_neg (by simp [Er.isNil])] at hr
    subst hr
    refine a0c ?_
    simp (maxSteps := 999999) (disch := omega) [go_sem, hik, hk, h, hai, b1, b2]
    refine a0d (by decide) fun s7 hs7 he7 => ?_
    simp (maxSteps := 999999) (disch := omega) [go_sem, hik, hk, hs7, h, b1, b2, f2a]
   have hj : a6m p i = .nil := hje.trans (if_neg (fun h => h.2.elim b1 b2))
   rw [hj, if_pos (by rfl)] at hr
   refine a0c ?_
   simp (maxSteps := 999999) (disch := omega) [go_sem, hik, hk, h, hai, b1, b2]
   refine a0d (by decide) fun s7 hs7 he7 => ?_
   simp (maxSteps := 999999) (disch := omega) [go_sem, hik, hk, hs7, h, o, b1, b2]
   refine a0b hM rfl rfl ?_
   simp (maxSteps := 999999) (disch := omega) [go_sem, hik, hk, hs7, h, o]
   by_cases d1 : i.dst = 0
   ·by_cases d2 : i.frm = 0
    ·by_cases d3 : i.to = 0
     ·rw [if_pos ⟨d1, d2, d3⟩] at hr
      subst hr
      simp (maxSteps := 999999) (disch := omega) [go_sem, hik, hk, hs7, h, o, d1, d2, d3, a3e]
     ·rw [if_neg (fun h => d3 h.2.2)] at hr
      subst hr
      simp (maxSteps := 999999) (disch := omega) [go_sem, hik, hk, hs7, h, o, d1, d2, d3, eC3]
    ·rw [if_neg (fun h => d2 h.2.1)] at hr
     subst hr
     simp (maxSteps := 999999) (disch := omega) [go_sem, hik, hk, hs7, h, o, d1, d2, eC3]
   ·rw [if_neg (fun h => d1 h.1)] at hr
    subst hr
    simp (maxSteps := 999999) (disch := omega) [go_sem, hik, hk, hs7, h, o, d1, eC3]
  ·simp (maxSteps := 999999) (disch := omega) [go_sem, hik, hk, o]
   have hM := a6f (G := G) 23
   rw [show a9k 23 = false from rfl] at hM
   refine a0b hM rfl rfl ?_
   simp (maxSteps := 999999) (disch := omega) [go_sem, hik, hk, o]
   refine d5r hp hli (by simp (maxSteps := 999999) (disch := omega) [go_sem, hik, hk, o]) (fun hb s h => ?_) (fun hb s h => ?_)
   ·rw [if_pos hb] at hr
    subst hr
    simp (maxSteps := 999999) (disch := omega) [go_sem, hik, hk, h, eC0]
   rw [if_neg (by simp [hb])] at hr
   simp (maxSteps := 999999) (disch := omega) [go_sem, hik, hk, h, o]
   refine a0b hM rfl rfl ?_
   simp (maxSteps := 999999) (disch := omega) [go_sem, hik, hk, h, o]
   have hje : a6m p i = (if i.args.length = 1 /\ i.ins.length = 1 then (if 0 < 1 /\ (i.args[0]! < 0 \/ (p.code.length : Int) < i.args[0]!) then .s 10 else .nil) else .s 6) := by
    unfold a6m
    rw [o]
    rfl
   by_cases a1 : i.args.length = 1
   rotate_left
   ·have hj : a6m p i = .s 6 := by rw [hje, if_neg (fun k => a1 k.1)]
    rw [hj, if_neg (by simp [Er.isNil])] at hr
    subst hr
    have a1' : ¬ (i.args.length : Int) = 1 := by omega
    skip
    simp (maxSteps := 999999) (disch := omega) [go_sem, hik, hk, h, o, a1', eC6]
   by_cases i0 : i.ins.length = 1
   rotate_left
   ·have hj : a6m p i = .s 6 := by rw [hje, if_neg (fun k => i0 k.2)]
    rw [hj, if_neg (by simp [Er.isNil])] at hr
    subst hr
    have i0' : ¬ (i.ins.length : Int) = 1 := by omega
    skip
    skip
    simp (maxSteps := 999999) (disch := omega) [go_sem, hik, hk, h, o, a1, i0', eC6]
   skip
   obtain ⟨a, hai⟩ := a7x a1
   rw [if_pos ⟨a1, i0⟩, hai] at hje
   simp only [List.getElem!_cons_zero] at hje
   simp (maxSteps := 999999) (disch := omega) [go_sem, hik, hk, h, o, a1, hai, i0]
   by_cases b1 : a < 0
   ·have hj : a6m p i = .s 10 := hje.trans (if_pos ⟨by decide, .inl b1⟩)
    rw [hj, if_neg (by simp [Er.isNil])] at hr
    subst hr
    refine a0c ?_
    simp (maxSteps := 999999) (disch := omega) [go_sem, hik, hk, h, hai, b1]
    refine a0d (by decide) fun s7 hs7 he7 => ?_
    simp (maxSteps := 999999) (disch := omega) [go_sem, hik, hk, hs7, h, b1, f2a]
   by_cases b2 : (p.code.length : Int) < a
   ·have hj : a6m p i = .s 10 := hje.trans (if_pos ⟨by decide, .inr b2⟩)
    rw [hj, if_neg (by simp [Er.isNil])] at hr
    subst hr
    refine a0c ?_
    simp (maxSteps := 999999) (disch := omega) [go_sem, hik, hk, h, hai, b1, b2]
    refine a0d (by decide) fun s7 hs7 he7 => ?_
    simp (maxSteps := 999999) (disch := omega) [go_sem, hik, hk, hs7, h, b1, b2, f2a]
   have hj : a6m p i = .nil := hje.trans (if_neg (fun h => h.2.elim b1 b2))
   rw [hj, if_pos (by rfl)] at hr
   refine a0c ?_
   simp (maxSteps := 999999) (disch := omega) [go_sem, hik, hk, h, hai, b1, b2]
   refine a0d (by decide) fun s7 hs7 he7 => ?_
   simp (maxSteps := 999999) (disch := omega) [go_sem, hik, hk, hs7, h, o, b1, b2]
   refine a0b hM rfl rfl ?_
   simp (maxSteps := 999999) (disch := omega) [go_sem, hik, hk, hs7, h, o]
   by_cases d1 : i.dst = 0
   ·by_cases d2 : i.frm = 0
    ·by_cases d3 : i.to = 0
     ·rw [if_pos ⟨d1, d2, d3⟩] at hr
      subst hr
      simp (maxSteps := 999999) (disch := omega) [go_sem, hik, hk, hs7, h, o, d1, d2, d3, a3e]
     ·rw [if_neg (fun h => d3 h.2.2)] at hr
      subst hr
      simp (maxSteps := 999999) (disch := omega) [go_sem, hik, hk, hs7, h, o, d1, d2, d3, eC3]
    ·rw [if_neg (fun h => d2 h.2.1)] at hr
     subst hr
     simp (maxSteps := 999999) (disch := omega) [go_sem, hik, hk, hs7, h, o, d1, d2, eC3]
   ·rw [if_neg (fun h => d1 h.1)] at hr
    subst hr
    simp (maxSteps := 999999) (disch := omega) [go_sem, hik, hk, hs7, h, o, d1, eC3]
  ·simp (maxSteps := 999999) (disch := omega) [go_sem, hik, hk, o]
   have hM := a6f (G := G) 24
   rw [show a9k 24 = false from rfl] at hM
   refine a0b hM rfl rfl ?_
   simp (maxSteps := 999999) (disch := omega) [go_sem, hik, hk, o]
   refine d5r hp hli (by simp (maxSteps := 999999) (disch := omega) [go_sem, hik, hk, o]) (fun hb s h => ?_) (fun hb s h => ?_)
   ·rw [if_pos hb] at hr
    subst hr
    simp (maxSteps := 999999) (disch := omega) [go_sem, hik, hk, h, eC0]
   rw [if_neg (by simp [hb])] at hr
   simp (maxSteps := 999999) (disch := omega) [go_sem, hik, hk, h, o]
   refine a0b hM rfl rfl ?_
   simp (maxSteps := 999999) (disch := omega) [go_sem, hik, hk, h, o]
   have hje : a6m p i = (if i.args.length = 0 /\ i.ins.length = 0 then (if 0 < 0 /\ (i.args[0]! < 0 \/ (p.code.length : Int) < i.args[0]!) then .s 10 else .nil) else .s 6) := by
    unfold a6m
    rw [o]
    rfl
   by_cases a1 : i.args.length = 0
   rotate_left
   ·have hj : a6m p i = .s 6 := by rw [hje, if_neg (fun k => a1 k.1)]
    rw [hj, if_neg (by simp [Er.isNil])] at hr
    subst hr
    have a1' : ¬ (i.args.length : Int) = 0 := by omega
    have a1n : i.args ≠ [] := by intro e; rw [e] at a1; exact a1 rfl
    simp (maxSteps := 999999) (disch := omega) [go_sem, hik, hk, h, o, a1', eC6, a1n]
   by_cases i0 : i.ins.length = 0
   rotate_left
   ·have hj : a6m p i = .s 6 := by rw [hje, if_neg (fun k => i0 k.2)]
    rw [hj, if_neg (by simp [Er.isNil])] at hr
    subst hr
    have i0' : ¬ (i.ins.length : Int) = 0 := by omega
    have i0n : i.ins ≠ [] := by intro e; rw [e] at i0; exact i0 rfl
    have a1e : i.args = [] := List.eq_nil_of_length_eq_zero a1
    simp (maxSteps := 999999) (disch := omega) [go_sem, hik, hk, h, o, a1, i0', eC6, i0n, a1e]
   have i0e : i.ins = [] := List.eq_nil_of_length_eq_zero i0
   have a1e : i.args = [] := List.eq_nil_of_length_eq_zero a1
   have hj : a6m p i = .nil := by rw [hje, if_pos ⟨a1, i0⟩, if_neg (by simp)]
   rw [hj, if_pos (by rfl)] at hr
   simp (maxSteps := 999999) (disch := omega) [go_sem, hik, hk, h, o, a1e, i0e]
   refine a0b hM rfl rfl ?_
   simp (maxSteps := 999999) (disch := omega) [go_sem, hik, hk, h, o]
   by_cases d1 : i.dst = 0
   ·by_cases d2 : i.frm = 0
    ·by_cases d3 : i.to = 0
     ·rw [if_pos ⟨d1, d2, d3⟩] at hr
      subst hr
      simp (maxSteps := 999999) (disch := omega) [go_sem, hik, hk, h, o, d1, d2, d3, a3e]
     ·rw [if_neg (fun h => d3 h.2.2)] at hr
      subst hr
      simp (maxSteps := 999999) (disch := omega) [go_sem, hik, hk, h, o, d1, d2, d3, eC3]
    ·rw [if_neg (fun h => d2 h.2.1)] at hr
     subst hr
     simp (maxSteps := 999999) (disch := omega) [go_sem, hik, hk, h, o, d1, d2, eC3]
   ·rw [if_neg (fun h => d1 h.1)] at hr
    subst hr
    simp (maxSteps := 999999) (disch := omega) [go_sem, hik, hk, h, o, d1, eC3]
 ·simp only [hd, Bool.true_eq_false, false_and, true_and, if_false] at hr
  simp (maxSteps := 999999) (disch := omega) [go_sem, hik, hk]
  refine a0b (a6f i.op) rfl rfl ?_
  simp (maxSteps := 999999) (disch := omega) [go_sem, hik, hk, hd]
  refine a0b (c11 p i.dst (by omega)) rfl rfl ?_
  cases hv : a14 p i.dst
  ·rw [if_pos hv] at hr
   subst hr
   simp (maxSteps := 999999) (disch := omega) [go_sem, hik, hk, hv, eC0]
  rw [if_neg (by simp [hv])] at hr
  simp (maxSteps := 999999) (disch := omega) [go_sem, hik, hk, hv]
  refine d5r hp hli (by simp (maxSteps := 999999) (disch := omega) [go_sem, hik, hk, hv]) (fun hb s h => ?_) (fun hb s h => ?_)
  ·rw [if_pos hb] at hr
   subst hr
   simp (maxSteps := 999999) (disch := omega) [go_sem, hik, hk, h, eC0]
  rw [if_neg (by simp [hb])] at hr
  obtain ⟨m, hm, hml⟩ := a97 hv
  have hdv : c3a p i = p.views[m] := by simp [c3a, hm, hml]
  have hvs := hp.v _ (List.getElem_mem hml)
  have hel := a7c p.views[m].shape
  have hins : ∀ k ∈ i.ins, a14 p k = true := List.all_eq_true.1 hb
  by_cases o : i.op = 2
  ·have hU := c10 (G := G) hp hi0 hins (fun k => by rw [o] at k; cases k)
   rw [show b5m p i = 1 by unfold b5m; rw [o]; rfl] at hU
   have hur : 0 <= (1 : Int) /\ (1 : Int) <= 16777216 := by decide
   have hae : i.args.length = 1 /\ i.ins.length = 0 -> ∃ a, i.args = [a] := fun h => a7x h.1
   have hm1 : a3f p i = (if i.args.length = 1 /\ i.ins.length = 0 then (match b23 p i with | none => ((0 : Int), Er.s 0) | some d => if d = (c3a p i).ds then (1, Er.nil) else (0, Er.s 6)) else ((0 : Int), Er.s 6)) := by
    unfold a3f
    rw [if_neg (by rw [o]; decide)]
    by_cases c : i.args.length = 1 /\ i.ins.length = 0
    ·rw [if_pos c, if_pos c]
     cases b23 p i <;> rfl
    ·rw [if_neg c, if_neg c]
   simp (maxSteps := 999999) (disch := omega) [go_sem, hik, hk, h, o]
   by_cases a1 : i.args.length = 1
   rotate_left
   ·have hmv : a3f p i = (0, Er.s 6) := by rw [hm1, if_neg (fun k => a1 k.1)]
    rw [hmv, if_neg (by simp [Er.isNil])] at hr
    subst hr
    have a1' : ¬ (i.args.length : Int) = 1 := by omega
    simp (maxSteps := 999999) (disch := omega) [go_sem, hik, hk, h, o, a1', eC6]
   by_cases i0 : i.ins.length = 0
   rotate_left
   ·have hmv : a3f p i = (0, Er.s 6) := by rw [hm1, if_neg (fun k => i0 k.2)]
    rw [hmv, if_neg (by simp [Er.isNil])] at hr
    subst hr
    have i0' : ¬ (i.ins.length : Int) = 0 := by omega
    simp (maxSteps := 999999) (disch := omega) [go_sem, hik, hk, h, o, a1, i0, i0', eC6]
   obtain ⟨a, hai⟩ := hae ⟨a1, i0⟩
   rw [if_pos ⟨a1, i0⟩] at hm1
   have hcd : b23 p i = (if (0 : Int) <= a /\ a < (p.consts.length : Int) then some ((p.consts[a.toNat]!).ds) else none) := by
    unfold b23
    rw [hai]
    simp [o]
   rw [hcd] at hm1
   simp (maxSteps := 999999) (disch := omega) [go_sem, hik, hk, h, o, a1, i0, hai]
   by_cases b1 : a < 0
   ·rw [if_neg (by omega)] at hm1
    have hmv : a3f p i = (0, Er.s 0) := hm1
    rw [hmv, if_neg (by simp [Er.isNil])] at hr
    subst hr
    simp (maxSteps := 999999) (disch := omega) [go_sem, hik, hk, h, o, hai, b1, eC0]
   by_cases b2 : (p.consts.length : Int) <= a
   ·rw [if_neg (by omega)] at hm1
    have hmv : a3f p i = (0, Er.s 0) := hm1
    rw [hmv, if_neg (by simp [Er.isNil])] at hr
    subst hr
    simp (maxSteps := 999999) (disch := omega) [go_sem, hik, hk, h, o, hai, b1, b2, eC0]
   rw [if_pos (by omega)] at hm1
   obtain ⟨n, hn⟩ := Int.eq_ofNat_of_zero_le (show 0 <= a by omega)
   have hnl : n < p.consts.length := by omega
   obtain ⟨D, hDe⟩ : ∃ D : Ds, D = ⟨p.consts[n].shape, p.consts[n].wide⟩ := ⟨_, rfl⟩
   have hcs := hp.c _ (List.getElem_mem hnl)
   have hL : (p.consts[a.toNat]!).ds = D := by simp only [hn]; simp [hnl, hDe, Tn.ds]
   rw [hL, hdv] at hm1
   clear hL
   subst hDe
   simp (maxSteps := 999999) (disch := omega) [go_sem, hik, hk, h, o, hai, b1, b2, hn, hnl]
   refine a0c ?_
   simp (maxSteps := 999999) (disch := omega) [go_sem, hik, hk, h, o, hai, hn, hnl, hm, hml]
   refine a0i (b11 (⟨p.consts[n].shape, p.consts[n].wide⟩ : Ds) p.views[m].ds (by show p.consts[n].shape.length < _; omega)) rfl rfl (by simp (disch := omega) [go_sem, a0f, a1a]) [163] (by simp) (by simp (maxSteps := 999999) (disch := omega) [go_sem, hik, hk, h]) ?_
   by_cases cs : (⟨p.consts[n].shape, p.consts[n].wide⟩ : Ds) = p.views[m].ds
   rotate_left
   ·have hmv : a3f p i = (0, Er.s 6) := hm1.trans (if_neg cs)
    rw [hmv, if_neg (by simp [Er.isNil])] at hr
    subst hr
    simp (maxSteps := 999999) (disch := omega) [go_sem, hik, hk, h, a0f, a1a, cs]
    refine a0d (by decide) fun s7 hs7 he7 => ?_
    simp (maxSteps := 999999) (disch := omega) [go_sem, hik, hk, hs7, h, cs, eC6]
   have hmv : a3f p i = (1, Er.nil) := hm1.trans (if_pos cs)
   rw [hmv, if_pos (by rfl)] at hr
   simp only at hr
   simp (maxSteps := 999999) (disch := omega) [go_sem, hik, hk, h, a0f, a1a, cs]
   refine a0d (by decide) fun s7 hs7 he7 => ?_
   simp (maxSteps := 999999) (disch := omega) [go_sem, hik, hk, hs7, h]
   refine a0b (a6f i.op) rfl rfl ?_
   simp (maxSteps := 999999) (disch := omega) [go_sem, hik, hk, hd, hs7, h]
   rw [c28, hdv] at hr
   by_cases f1 : i.frm < 0
   ·rw [if_neg (by omega)] at hr
    subst hr
    refine a0c ?_
    simp (maxSteps := 999999) (disch := omega) [go_sem, hik, hk, hs7, h, f1]
    refine a0d (by decide) fun s8 hs8 he8 => ?_
    simp (maxSteps := 999999) (disch := omega) [go_sem, hik, hk, hs8, hs7, h, f1, eC3]
   by_cases f2 : i.to < i.frm
   ·rw [if_neg (by omega)] at hr
    subst hr
    refine a0c ?_
    simp (maxSteps := 999999) (disch := omega) [go_sem, hik, hk, hs7, h, f1, f2]
    refine a0d (by decide) fun s8 hs8 he8 => ?_
    simp (maxSteps := 999999) (disch := omega) [go_sem, hik, hk, hs8, hs7, h, f1, f2, eC3]
   refine a0c ?_
   simp (maxSteps := 999999) (disch := omega) [go_sem, hik, hk, hs7, h, f1, f2, hm, hml]
   refine a0i (a7v p.views[m].shape (by omega)) rfl rfl (by simp (disch := omega) [go_sem, a0f, a1a]) [269] (by simp) (by simp (maxSteps := 999999) (disch := omega) [go_sem, hik, hk, hs7, h, f1, f2]) ?_
   by_cases f3 : a22 p.views[m].shape < i.to
   ·rw [if_neg (by omega)] at hr
    subst hr
    simp (maxSteps := 999999) (disch := omega) [go_sem, hik, hk, hs7, h, f1, f2, f3, a0f, a1a]
    refine a0d (by decide) fun s8 hs8 he8 => ?_
    simp (maxSteps := 999999) (disch := omega) [go_sem, hik, hk, hs8, hs7, h, f1, f2, f3, eC3]
   rw [if_pos (by omega)] at hr
   simp (maxSteps := 999999) (disch := omega) [go_sem, hik, hk, hs7, h, f1, f2, f3, a0f, a1a]
   refine a0d (by decide) fun s8 hs8 he8 => ?_
   simp (maxSteps := 999999) (disch := omega) [go_sem, hik, hk, hs8, hs7, h, f1, f2, f3]
   refine a0c ?_
   simp (maxSteps := 999999) (disch := omega) [go_sem, hik, hk, hs8, hs7, h]
   refine a0i hU rfl rfl (by simp (disch := omega) [go_sem, a0f, a1a]) [279] (by simp) (by simp (maxSteps := 999999) (disch := omega) [go_sem, hik, hk, hs8, hs7, h]) ?_
   have g1 : 0 <= i.to - i.frm /\ i.to - i.frm <= 16384 := by omega
   have g2 : 0 <= (i.to - i.frm) * 1 := Int.mul_nonneg g1.1 hur.1
   have g3 : (i.to - i.frm) * 1 <= 16384 * 16777216 := Int.mul_le_mul g1.2 hur.2 hur.1 (by omega)
   by_cases f4 : 1024 < (i.to - i.frm) * 1
   ·rw [if_neg (by omega)] at hr
    subst hr
    simp (maxSteps := 999999) (disch := omega) [go_sem, hik, hk, hs8, hs7, h, a0f, a1a, f4]
    refine a0d (by decide) fun s9 hs9 he9 => ?_
    simp (maxSteps := 999999) (disch := omega) [go_sem, hik, hk, hs9, hs8, hs7, h, f4, eC9]
   ·rw [if_pos (by omega)] at hr
    subst hr
    simp (maxSteps := 999999) (disch := omega) [go_sem, hik, hk, hs8, hs7, h, a0f, a1a, f4]
    refine a0d (by decide) fun s9 hs9 he9 => ?_
    simp (maxSteps := 999999) (disch := omega) [go_sem, hik, hk, hs9, hs8, hs7, h, f4, a3e]
  by_cases o3 : i.op = 3
  ·have o := o3
   have hU := c10 (G := G) hp hi0 hins (fun k => by rw [o] at k; cases k)
   rw [show b5m p i = 1 by unfold b5m; rw [o]; rfl] at hU
   have hur : 0 <= (1 : Int) /\ (1 : Int) <= 16777216 := by decide
   have hae : i.args.length = 1 /\ i.ins.length = 0 -> ∃ a, i.args = [a] := fun h => a7x h.1
   have hm1 : a3f p i = (if i.args.length = 1 /\ i.ins.length = 0 then (match b23 p i with | none => ((0 : Int), Er.s 0) | some d => if d = (c3a p i).ds then (1, Er.nil) else (0, Er.s 6)) else ((0 : Int), Er.s 6)) := by
    unfold a3f
    rw [if_neg (by rw [o]; decide)]
    by_cases c : i.args.length = 1 /\ i.ins.length = 0
    ·rw [if_pos c, if_pos c]
     cases b23 p i <;> rfl
    ·rw [if_neg c, if_neg c]
   simp (maxSteps := 999999) (disch := omega) [go_sem, hik, hk, h, o]
   by_cases a1 : i.args.length = 1
   rotate_left
   ·have hmv : a3f p i = (0, Er.s 6) := by rw [hm1, if_neg (fun k => a1 k.1)]
    rw [hmv, if_neg (by simp [Er.isNil])] at hr
    subst hr
    have a1' : ¬ (i.args.length : Int) = 1 := by omega
    simp (maxSteps := 999999) (disch := omega) [go_sem, hik, hk, h, o, a1', eC6]
   by_cases i0 : i.ins.length = 0
   rotate_left
   ·have hmv : a3f p i = (0, Er.s 6) := by rw [hm1, if_neg (fun k => i0 k.2)]
    rw [hmv, if_neg (by simp [Er.isNil])] at hr
    subst hr
    have i0' : ¬ (i.ins.length : Int) = 0 := by omega
    simp (maxSteps := 999999) (disch := omega) [go_sem, hik, hk, h, o, a1, i0, i0', eC6]
   obtain ⟨a, hai⟩ := hae ⟨a1, i0⟩
   rw [if_pos ⟨a1, i0⟩] at hm1
   have hcd : b23 p i = (if (0 : Int) <= a /\ a < (p.weights.length : Int) then some ((p.weights[a.toNat]!)) else none) := by
    unfold b23
    rw [hai]
    simp [o]
   rw [hcd] at hm1
   simp (maxSteps := 999999) (disch := omega) [go_sem, hik, hk, h, o, a1, i0, hai]
   by_cases b1 : a < 0
   ·rw [if_neg (by omega)] at hm1
    have hmv : a3f p i = (0, Er.s 0) := hm1
    rw [hmv, if_neg (by simp [Er.isNil])] at hr
    subst hr
    simp (maxSteps := 999999) (disch := omega) [go_sem, hik, hk, h, o, hai, b1, eC0]
   by_cases b2 : (p.weights.length : Int) <= a
   ·rw [if_neg (by omega)] at hm1
    have hmv : a3f p i = (0, Er.s 0) := hm1
    rw [hmv, if_neg (by simp [Er.isNil])] at hr
    subst hr
    simp (maxSteps := 999999) (disch := omega) [go_sem, hik, hk, h, o, hai, b1, b2, eC0]
   rw [if_pos (by omega)] at hm1
   obtain ⟨n, hn⟩ := Int.eq_ofNat_of_zero_le (show 0 <= a by omega)
   have hnl : n < p.weights.length := by omega
   obtain ⟨D, hDe⟩ : ∃ D : Ds, D = ⟨p.weights[n].shape, p.weights[n].wide⟩ := ⟨_, rfl⟩
   have hcs := hp.w _ (List.getElem_mem hnl)
   have hL : (p.weights[a.toNat]!) = D := by simp only [hn]; simp [hnl, hDe, Tn.ds]
   rw [hL, hdv] at hm1
   clear hL
   subst hDe
   simp (maxSteps := 999999) (disch := omega) [go_sem, hik, hk, h, o, hai, b1, b2, hn, hnl]
   refine a0c ?_
   simp (maxSteps := 999999) (disch := omega) [go_sem, hik, hk, h, o, hai, hn, hnl, hm, hml]
   refine a0i (b11 (⟨p.weights[n].shape, p.weights[n].wide⟩ : Ds) p.views[m].ds (by show p.weights[n].shape.length < _; omega)) rfl rfl (by simp (disch := omega) [go_sem, a0f, a1a]) [163] (by simp) (by simp (maxSteps := 999999) (disch := omega) [go_sem, hik, hk, h]) ?_
   by_cases cs : (⟨p.weights[n].shape, p.weights[n].wide⟩ : Ds) = p.views[m].ds
   rotate_left
   ·have hmv : a3f p i = (0, Er.s 6) := hm1.trans (if_neg cs)
    rw [hmv, if_neg (by simp [Er.isNil])] at hr
    subst hr
    simp (maxSteps := 999999) (disch := omega) [go_sem, hik, hk, h, a0f, a1a, cs]
    refine a0d (by decide) fun s7 hs7 he7 => ?_
    simp (maxSteps := 999999) (disch := omega) [go_sem, hik, hk, hs7, h, cs, eC6]
   have hmv : a3f p i = (1, Er.nil) := hm1.trans (if_pos cs)
   rw [hmv, if_pos (by rfl)] at hr
   simp only at hr
   simp (maxSteps := 999999) (disch := omega) [go_sem, hik, hk, h, a0f, a1a, cs]
   refine a0d (by decide) fun s7 hs7 he7 => ?_
   simp (maxSteps := 999999) (disch := omega) [go_sem, hik, hk, hs7, h]
   refine a0b (a6f i.op) rfl rfl ?_
   simp (maxSteps := 999999) (disch := omega) [go_sem, hik, hk, hd, hs7, h]
   rw [c28, hdv] at hr
   by_cases f1 : i.frm < 0
   ·rw [if_neg (by omega)] at hr
    subst hr
    refine a0c ?_
    simp (maxSteps := 999999) (disch := omega) [go_sem, hik, hk, hs7, h, f1]
    refine a0d (by decide) fun s8 hs8 he8 => ?_
    simp (maxSteps := 999999) (disch := omega) [go_sem, hik, hk, hs8, hs7, h, f1, eC3]
   by_cases f2 : i.to < i.frm
   ·rw [if_neg (by omega)] at hr
    subst hr
    refine a0c ?_
    simp (maxSteps := 999999) (disch := omega) [go_sem, hik, hk, hs7, h, f1, f2]
    refine a0d (by decide) fun s8 hs8 he8 => ?_
    simp (maxSteps := 999999) (disch := omega) [go_sem, hik, hk, hs8, hs7, h, f1, f2, eC3]
   refine a0c ?_
   simp (maxSteps := 999999) (disch := omega) [go_sem, hik, hk, hs7, h, f1, f2, hm, hml]
   refine a0i (a7v p.views[m].shape (by omega)) rfl rfl (by simp (disch := omega) [go_sem, a0f, a1a]) [269] (by simp) (by simp (maxSteps := 999999) (disch := omega) [go_sem, hik, hk, hs7, h, f1, f2]) ?_
   by_cases f3 : a22 p.views[m].shape < i.to
   ·rw [if_neg (by omega)] at hr
    subst hr
    simp (maxSteps := 999999) (disch := omega) [go_sem, hik, hk, hs7, h, f1, f2, f3, a0f, a1a]
    refine a0d (by decide) fun s8 hs8 he8 => ?_
    simp (maxSteps := 999999) (disch := omega) [go_sem, hik, hk, hs8, hs7, h, f1, f2, f3, eC3]
   rw [if_pos (by omega)] at hr
   simp (maxSteps := 999999) (disch := omega) [go_sem, hik, hk, hs7, h, f1, f2, f3, a0f, a1a]
   refine a0d (by decide) fun s8 hs8 he8 => ?_
   simp (maxSteps := 999999) (disch := omega) [go_sem, hik, hk, hs8, hs7, h, f1, f2, f3]
   refine a0c ?_
   simp (maxSteps := 999999) (disch := omega) [go_sem, hik, hk, hs8, hs7, h]
   refine a0i hU rfl rfl (by simp (disch := omega) [go_sem, a0f, a1a]) [279] (by simp) (by simp (maxSteps := 999999) (disch := omega) [go_sem, hik, hk, hs8, hs7, h]) ?_
   have g1 : 0 <= i.to - i.frm /\ i.to - i.frm <= 16384 := by omega
   have g2 : 0 <= (i.to - i.frm) * 1 := Int.mul_nonneg g1.1 hur.1
   have g3 : (i.to - i.frm) * 1 <= 16384 * 16777216 := Int.mul_le_mul g1.2 hur.2 hur.1 (by omega)
   by_cases f4 : 1024 < (i.to - i.frm) * 1
   ·rw [if_neg (by omega)] at hr
    subst hr
    simp (maxSteps := 999999) (disch := omega) [go_sem, hik, hk, hs8, hs7, h, a0f, a1a, f4]
    refine a0d (by decide) fun s9 hs9 he9 => ?_
    simp (maxSteps := 999999) (disch := omega) [go_sem, hik, hk, hs9, hs8, hs7, h, f4, eC9]
   ·rw [if_pos (by omega)] at hr
    subst hr
    simp (maxSteps := 999999) (disch := omega) [go_sem, hik, hk, hs8, hs7, h, a0f, a1a, f4]
    refine a0d (by decide) fun s9 hs9 he9 => ?_
    simp (maxSteps := 999999) (disch := omega) [go_sem, hik, hk, hs9, hs8, hs7, h, f4, a3e]
  have hkn : a0x i.op = true := by
   have := hd
   simpa [a9k, o, o3] using this
  have hl : (a83 p i).length < 2 ^ 40 := by simp [a83]; omega
  have hsh : ∀ d ∈ a83 p i, d.shape.length < 2 ^ 40 := by
   intro d hd
   simp only [a83, List.mem_map] at hd
   obtain ⟨k, hk1, rfl⟩ := hd
   obtain ⟨n, hn, hnl⟩ := a97 (hins k hk1)
   have := hp.v _ (List.getElem_mem hnl)
   simp [hn, hnl, Vw.ds]
   omega
  have hD := c76 (G := G) p i hli (by omega) (fun k h => by
   have := hins k h
   simpa [a14] using this)
  have hR := c39 (G := G) i.op i.args (a83 p i) hl (by omega) hsh
  have hsn := d17 (op := i.op) (args := i.args) (ins := a83 p i)
  have hRl := d15 (op := i.op) (args := i.args) (ins := a83 p i) hsh (by omega)
  have hU := fun hok => c10 (G := G) hp hi0 hins hok
  have hurr := fun h => c1s (p := p) (i := i) h
  simp (maxSteps := 999999) (disch := omega) [go_sem, hik, hk, h, o, o3]
  refine a0b (a6f i.op) rfl rfl ?_
  simp (maxSteps := 999999) (disch := omega) [go_sem, hik, hk, h, hd]
  refine a0c ?_
  simp (maxSteps := 999999) (disch := omega) [go_sem, hik, hk, h]
  refine a1j hD (by simp [go_sem, a0k]) (by simp (maxSteps := 999999) (disch := omega) [go_sem, hik, hk, h]) (by simp (disch := omega) [go_sem, a0f, a1a]) [176] (by simp) (by simp (maxSteps := 999999) (disch := omega) [go_sem, hik, hk, h]) ?_
  simp (maxSteps := 999999) (disch := omega) [go_sem, hik, hk, h, a0f, a1a]
  refine a1j hR (by simp [go_sem, a0k]) (by simp (maxSteps := 999999) (disch := omega) [go_sem, hik, hk, h]) (by simp (disch := omega) [go_sem, a0f, a1a]) [177] (by simp) (by simp (maxSteps := 999999) (disch := omega) [go_sem, hik, hk, h]) ?_
  simp (maxSteps := 999999) (disch := omega) [go_sem, hik, hk, h, a0f, a1a]
  refine a0d (by decide) fun s6 hs6 he6 => ?_
  simp (maxSteps := 999999) (disch := omega) [go_sem, hik, hk, hs6, h]
  have hmm : a3f p i = (if (opR i.op i.args (a83 p i)).2.isNil = true then
   (if (opR i.op i.args (a83 p i)).1 = (c3a p i).ds then
    (if (i.ins.all fun k => a5n (c3a p i) (p.views[k.toNat]!)) = true then (opU i.op i.args (a83 p i), Er.nil) else (0, Er.s 8))
   else (0, Er.s 6))
  else (0, (opR i.op i.args (a83 p i)).2)) := by
   unfold a3f
   rw [if_pos hkn]
  have hun : b5m p i = opU i.op i.args (a83 p i) := by unfold b5m; rw [if_pos hkn]
  rw [hun] at hU
  generalize opU i.op i.args (a83 p i) = u at *
  generalize opR i.op i.args (a83 p i) = W at *
  cases hw : W.2.isNil
  ·have hw0 : ¬ eC W.2 = 0 := fun k => by rw [(c7g hsn).1 k] at hw; cases hw
   have hmv : a3f p i = (0, W.2) := by rw [hmm, if_neg (by rw [hw]; simp)]
   rw [hmv, if_neg (by simp only [hw]; simp)] at hr
   subst hr
   simp (maxSteps := 999999) (disch := omega) [go_sem, hik, hk, hs6, h, hw0]
  have hw0 : eC W.2 = 0 := (c7g hsn).2 hw
  have hU1 := hU (fun _ => hw)
  rw [if_pos hw] at hmm
  simp (maxSteps := 999999) (disch := omega) [go_sem, hik, hk, hs6, h, hw0]
  refine a0c ?_
  simp (maxSteps := 999999) (disch := omega) [go_sem, hik, hk, hs6, h, hm, hml]
  refine a0i (b11 W.1 p.views[m].ds (by omega)) rfl rfl (by simp (disch := omega) [go_sem, a0f, a1a]) [191] (by simp) (by simp (maxSteps := 999999) (disch := omega) [go_sem, hik, hk, hs6, h]) ?_
  rw [hdv] at hmm
  by_cases cs : W.1 = p.views[m].ds
  rotate_left
  ·have hmv : a3f p i = (0, Er.s 6) := hmm.trans (if_neg cs)
   rw [hmv, if_neg (by simp [Er.isNil])] at hr
   subst hr
   simp (maxSteps := 999999) (disch := omega) [go_sem, hik, hk, hs6, h, a0f, a1a, cs]
   refine a0d (by decide) fun s7 hs7 he7 => ?_
   simp (maxSteps := 999999) (disch := omega) [go_sem, hik, hk, hs7, hs6, h, cs, eC6]
  rw [if_pos cs] at hmm
  simp (maxSteps := 999999) (disch := omega) [go_sem, hik, hk, hs6, h, a0f, a1a, cs]
  refine a0d (by decide) fun s7 hs7 he7 => ?_
  simp (maxSteps := 999999) (disch := omega) [go_sem, hik, hk, hs7, hs6, h]
  refine g1f hp hml hm hli hins (by simp (maxSteps := 999999) (disch := omega) [go_sem, hik, hk, hs7, hs6, h]) (fun hb2 s2 h2 => ?_) (fun hb2 s2 h2 => ?_)
  ·have hmv : a3f p i = (0, Er.s 8) := hmm.trans (if_neg (by rw [hb2]; simp))
   rw [hmv, if_neg (by simp [Er.isNil])] at hr
   subst hr
   simp (maxSteps := 999999) (disch := omega) [go_sem, hik, hk, h2, eC8]
  rw [if_pos hb2] at hmm
  have hur := hurr (by rw [hmm]; rfl)
  rw [hmm] at hur
  simp only at hur
  rw [hmm, if_pos (by rfl)] at hr
  simp only at hr
  have hU := hU1
  simp (maxSteps := 999999) (disch := omega) [go_sem, hik, hk, h2]
  refine a0b (a6f i.op) rfl rfl ?_
  simp (maxSteps := 999999) (disch := omega) [go_sem, hik, hk, hd, h2]
  rw [c28, hdv] at hr
  by_cases f1 : i.frm < 0
  ·rw [if_neg (by omega)] at hr
   subst hr
   refine a0c ?_
   simp (maxSteps := 999999) (disch := omega) [go_sem, hik, hk, h2, f1]
   refine a0d (by decide) fun s8 hs8 he8 => ?_
   simp (maxSteps := 999999) (disch := omega) [go_sem, hik, hk, hs8, h2, f1, eC3]
  by_cases f2 : i.to < i.frm
  ·rw [if_neg (by omega)] at hr
   subst hr
   refine a0c ?_
   simp (maxSteps := 999999) (disch := omega) [go_sem, hik, hk, h2, f1, f2]
   refine a0d (by decide) fun s8 hs8 he8 => ?_
   simp (maxSteps := 999999) (disch := omega) [go_sem, hik, hk, hs8, h2, f1, f2, eC3]
  refine a0c ?_
  simp (maxSteps := 999999) (disch := omega) [go_sem, hik, hk, h2, f1, f2, hm, hml]
  refine a0i (a7v p.views[m].shape (by omega)) rfl rfl (by simp (disch := omega) [go_sem, a0f, a1a]) [269] (by simp) (by simp (maxSteps := 999999) (disch := omega) [go_sem, hik, hk, h2, f1, f2]) ?_
  by_cases f3 : a22 p.views[m].shape < i.to
  ·rw [if_neg (by omega)] at hr
   subst hr
   simp (maxSteps := 999999) (disch := omega) [go_sem, hik, hk, h2, f1, f2, f3, a0f, a1a]
   refine a0d (by decide) fun s8 hs8 he8 => ?_
   simp (maxSteps := 999999) (disch := omega) [go_sem, hik, hk, hs8, h2, f1, f2, f3, eC3]
  rw [if_pos (by omega)] at hr
  simp (maxSteps := 999999) (disch := omega) [go_sem, hik, hk, h2, f1, f2, f3, a0f, a1a]
  refine a0d (by decide) fun s8 hs8 he8 => ?_
  simp (maxSteps := 999999) (disch := omega) [go_sem, hik, hk, hs8, h2, f1, f2, f3]
  refine a0c ?_
  simp (maxSteps := 999999) (disch := omega) [go_sem, hik, hk, hs8, h2]
  refine a0i hU rfl rfl (by simp (disch := omega) [go_sem, a0f, a1a]) [279] (by simp) (by simp (maxSteps := 999999) (disch := omega) [go_sem, hik, hk, hs8, h2]) ?_
  have g1 : 0 <= i.to - i.frm /\ i.to - i.frm <= 16384 := by omega
  have g2 : 0 <= (i.to - i.frm) * u := Int.mul_nonneg g1.1 hur.1
  have g3 : (i.to - i.frm) * u <= 16384 * 16777216 := Int.mul_le_mul g1.2 hur.2 hur.1 (by omega)
  by_cases f4 : 1024 < (i.to - i.frm) * u
  ·rw [if_neg (by omega)] at hr
   subst hr
   simp (maxSteps := 999999) (disch := omega) [go_sem, hik, hk, hs8, h2, a0f, a1a, f4]
   refine a0d (by decide) fun s9 hs9 he9 => ?_
   simp (maxSteps := 999999) (disch := omega) [go_sem, hik, hk, hs9, hs8, h2, f4, eC9]
  ·rw [if_pos (by omega)] at hr
   subst hr
   simp (maxSteps := 999999) (disch := omega) [go_sem, hik, hk, hs8, h2, a0f, a1a, f4]
   refine a0d (by decide) fun s9 hs9 he9 => ?_
   simp (maxSteps := 999999) (disch := omega) [go_sem, hik, hk, hs9, hs8, h2, f4, a3e]
end
end Go.Ideal.Tryz
end
section
namespace Go.Ideal.Tryz
attribute [local go_sem] eD eT eV eI eP
section
variable {G : GG} {bk : Nat -> Nat × Nat} {Q : Exit -> St -> Prop} {st : St}
abbrev fE (e : Er) : AV := fl e.flt
theorem e6a {k : Int} {e : Er} (h : e.wb) (hn : e.isNil = false) : (atE k e).flt = (eC e, true, k) /\ eC e ≠ 0 := by
 rcases h with rfl | ⟨g, hg, rfl⟩ | ⟨q, g, hg, rfl⟩
 ·simp [Er.isNil] at hn
 ·exact ⟨rfl, a6k g hg⟩
 ·exact ⟨rfl, a6k g hg⟩
theorem b10 {k : Int} {e : Er} (h : e.wb) (hn : e.isNil = false) : ACalls pg G a8w [li (eC e), li k] (fE (atE k e)) := by
 have hp := b7x G (eC e) k
 obtain ⟨h1, h2⟩ := e6a (k := k) h hn
 rw [if_neg h2] at hp
 rw [show fE (atE k e) = c3f (eC e) true k by rw [fE, h1]]
 exact hp
theorem b7j {e : Er} (h : e.wb) : eC e = 0 ↔ e.isNil = true := by
 rcases h with rfl | ⟨g, hg, rfl⟩ | ⟨q, g, hg, rfl⟩
 ·exact ⟨fun _ => rfl, fun _ => rfl⟩
 ·exact ⟨fun h => absurd h (a6k g hg), fun h => by cases h⟩
 ·exact ⟨fun h => absurd h (a6k g hg), fun h => by cases h⟩
@[go_sem] theorem g7v {xs : List Vw} {i : Nat} (h : i < xs.length) : (fm eV xs)[i * 3]? = some (li xs[i].off) := c3i (f := eV) (k := 3) (j := 0) (fun _ => rfl) h (by omega)
theorem d0z (sh : List Int) : (a03 sh).wb := (c4j sh).wb
theorem g1h {p : Pl} (hp : PlL p) (hz : 0 <= p.size /\ p.size <= 65536) (h : st.s 1 = .var (eP p) /\ st.s 3 = li 0)
  (hbad : (a04 (b0x p.size) p.views 0).isNil = false -> ∀ s, s.s 2 = .var [li (a04 (b0x p.size) p.views 0).flt.1, lb (a04 (b0x p.size) p.views 0).flt.2.1, li (a04 (b0x p.size) p.views 0).flt.2.2] -> Q .ret s)
  (hex : (a04 (b0x p.size) p.views 0).isNil = true -> ∀ s, s.s 1 = .var (eP p) -> s.s 2 = .var [li 0, lb false, li 0] -> Q (.exit 0) s)
  (h2 : st.s 2 = .var [li 0, lb false, li 0]) : AW pg G 140 (.loop a2j) Q st := by
 have hlv := hp.views
 refine a08 Nat (fun j st => j <= p.views.length /\ a04 (b0x p.size) p.views 0 = a04 (b0x p.size) (p.views.drop j) j /\ st.s 1 = .var (eP p) /\ st.s 3 = li j /\ st.s 2 = .var [li 0, lb false, li 0]) (fun j => p.views.length - j) 0 ⟨by omega, rfl, h.1, h.2, h2⟩ ?_
 clear h h2
 rintro j st K ⟨hj, hm, h⟩ hK
 by_cases hlt : j < p.views.length
 ·rw [List.drop_eq_getElem_cons hlt, a04] at hm
  have hb := hp.v _ (List.getElem_mem hlt)
  have rb := a5v p.views[j].shape p.views[j].wide
  have c := a6e (G := G) p.views[j].shape p.views[j].wide (by omega)
  rw [c3b] at c
  simp (disch := omega) [go_sem, a2j, h, hlt]
  refine a0b c rfl rfl ?_
  simp only [b0x] at hm
  cases he : (a03 p.views[j].shape).isNil
  ·have h0 : ¬ eC (a03 p.views[j].shape) = 0 := fun k => by rw [(b7j (d0z _)).1 k] at he; cases he
   simp only [he, Bool.false_eq_true, if_false] at hm
   have hP := b10 (G := G) (k := (j : Int)) (d0z p.views[j].shape) he
   simp (disch := omega) [go_sem, h, h0]
   refine a0b hP rfl rfl ?_
   rw [<- hm]
   simp (disch := omega) [go_sem, h]
   refine hbad (by rw [hm, b07, he]) _ ?_
   simp (disch := omega) [go_sem, h]
  ·have h0 := (b7j (d0z p.views[j].shape)).2 he
   simp only [he, if_true] at hm
   have hs3 : (Er.s 3).wb := .inr (.inl ⟨3, by decide, rfl⟩)
   have hP := b10 (G := G) (k := (j : Int)) hs3 rfl
   rw [eC3] at hP
   simp (disch := omega) [go_sem, h, h0]
   by_cases c1 : p.views[j].off < 0
   ·have cN : ¬ (0 <= p.views[j].off /\ p.views[j].off <= p.size /\ a32 p.views[j].shape p.views[j].wide <= p.size - p.views[j].off) := by omega
    rw [if_neg cN, if_neg (by simp [Er.isNil])] at hm
    refine a0c ?_
    simp (disch := omega) [go_sem, h, hlt, c1]
    refine a0d (by decide) fun s2 hs2 he2 => ?_
    simp (disch := omega) [go_sem, hs2, h, c1]
    refine a0b hP rfl rfl ?_
    rw [<- hm]
    simp (disch := omega) [go_sem, hs2, h]
    refine hbad (by rw [hm]; rfl) _ ?_
    simp (disch := omega) [go_sem, hs2, h]
   refine a0c ?_
   simp (disch := omega) [go_sem, h, hlt, c1]
   refine a0i (d20 p.views[j].shape p.views[j].wide (by omega)) rfl rfl (by simp (disch := omega) [go_sem, a0f, a1a]) [82] (by simp) (by simp (disch := omega) [go_sem, h, c1]) ?_
   by_cases c2 : p.size - a32 p.views[j].shape p.views[j].wide < p.views[j].off
   ·have cN : ¬ (0 <= p.views[j].off /\ p.views[j].off <= p.size /\ a32 p.views[j].shape p.views[j].wide <= p.size - p.views[j].off) := by omega
    rw [if_neg cN, if_neg (by simp [Er.isNil])] at hm
    simp (disch := omega) [go_sem, h, c1, c2, a0f, a1a]
    refine a0d (by decide) fun s2 hs2 he2 => ?_
    simp (disch := omega) [go_sem, hs2, h, c1, c2]
    refine a0b hP rfl rfl ?_
    rw [<- hm]
    simp (disch := omega) [go_sem, hs2, h]
    refine hbad (by rw [hm]; rfl) _ ?_
    simp (disch := omega) [go_sem, hs2, h]
   have cP : (0 <= p.views[j].off /\ p.views[j].off <= p.size /\ a32 p.views[j].shape p.views[j].wide <= p.size - p.views[j].off) := by omega
   rw [if_pos cP, if_pos (by rfl)] at hm
   simp (disch := omega) [go_sem, h, c1, c2, a0f, a1a]
   refine a0d (by decide) fun s2 hs2 he2 => ?_
   simp (disch := omega) [go_sem, hs2, h, c1, c2]
   refine hK (j + 1) _ ⟨by omega, by rw [hm]; rfl, by simp (disch := omega) [go_sem, hs2, h]⟩ (by omega)
 ·obtain rfl : j = p.views.length := by omega
  rw [List.drop_length, a04] at hm
  simp (disch := omega) [go_sem, a2j, h]
  exact hex (by rw [hm]; rfl) _ (by simp (disch := omega) [go_sem, h]) (by simp (disch := omega) [go_sem, h])
theorem f0r (t : Tn) : (tE t).wb := by
 unfold tE
 rcases b9d t.shape t.wide t.data with e | ⟨g, hg, e⟩ | ⟨p, g, hg, e⟩ <;> rw [e]
 ·exact .inl rfl
 ·exact .inr (.inl ⟨g, hg, rfl⟩)
 ·exact .inr (.inr ⟨p, g, hg, rfl⟩)
theorem g1i {p : Pl} (hp : PlL p) (h : st.s 1 = .var (eP p) /\ st.s 5 = li 0 /\ st.s 2 = .var [li 0, lb false, li 0])
  (hbad : (a04 tE p.consts 0).isNil = false -> ∀ s, s.s 2 = .var [li (a04 tE p.consts 0).flt.1, lb (a04 tE p.consts 0).flt.2.1, li (a04 tE p.consts 0).flt.2.2] -> Q .ret s)
  (hex : (a04 tE p.consts 0).isNil = true -> ∀ s, s.s 1 = .var (eP p) -> s.s 2 = .var [li 0, lb false, li 0] -> Q (.exit 2) s) : AW pg G 140 (.loop a2k) Q st := by
 have hlv := hp.consts
 refine a08 Nat (fun j st => j <= p.consts.length /\ a04 tE p.consts 0 = a04 tE (p.consts.drop j) j /\ st.s 1 = .var (eP p) /\ st.s 5 = li j /\ st.s 2 = .var [li 0, lb false, li 0]) (fun j => p.consts.length - j) 0 ⟨by omega, rfl, h⟩ ?_
 clear h
 rintro j st K ⟨hj, hm, h⟩ hK
 by_cases hlt : j < p.consts.length
 ·rw [List.drop_eq_getElem_cons hlt, a04] at hm
  have hb := hp.c _ (List.getElem_mem hlt)
  have c := d50 (G := G) p.consts[j].shape p.consts[j].wide p.consts[j].data (by omega) (by omega)
  have hwb := f0r p.consts[j]
  simp (disch := omega) [go_sem, a2k, h, hlt]
  refine a0b c rfl rfl ?_
  rw [show a95 p.consts[j].shape p.consts[j].wide p.consts[j].data = tE p.consts[j] from rfl]
  generalize tE p.consts[j] = e at *
  cases he : e.isNil
  ·have h0 : ¬ e.flt.1 = 0 := fun k => by rw [(b7j hwb).1 k] at he; cases he
   rw [he, if_neg (by simp)] at hm
   have hP := b10 (G := G) (k := (j : Int)) hwb he
   simp (disch := omega) [go_sem, h, h0]
   refine a0b hP rfl rfl ?_
   rw [<- hm]
   simp (disch := omega) [go_sem, h]
   refine hbad (by rw [hm, b07, he]) _ ?_
   simp (disch := omega) [go_sem, h]
  ·have h0 : e.flt.1 = 0 := (b7j hwb).2 he
   rw [he, if_pos rfl] at hm
   simp (disch := omega) [go_sem, h, h0]
   refine hK (j + 1) _ ⟨by omega, by rw [hm]; rfl, by simp (disch := omega) [go_sem, h]⟩ (by omega)
 ·obtain rfl : j = p.consts.length := by omega
  rw [List.drop_length, a04] at hm
  simp (disch := omega) [go_sem, a2k, h]
  exact hex (by rw [hm]; rfl) _ (by simp (disch := omega) [go_sem, h]) (by simp (disch := omega) [go_sem, h])
theorem e35 {k : Int} {e : Er} (h : e.wb) : (atE k e).wb := by
 rcases h with rfl | ⟨g, hg, rfl⟩ | ⟨q, g, hg, rfl⟩
 ·exact .inl rfl
 ·exact .inr (.inr ⟨k, g, hg, rfl⟩)
 ·exact .inr (.inr ⟨k, g, hg, rfl⟩)
theorem b1d {α : Type} {f : α -> Er} (hf : ∀ x, (f x).wb) : ∀ (xs : List α) (k : Int), (a04 f xs k).wb
 | [], _ => .inl rfl
 | x :: xs, k => by
  simp only [a04]
  split
  ·exact b1d hf xs _
  ·exact e35 (hf x)
theorem c70 {a b : Er} (ha : a.wb) (hb : b.wb) : (orE a b).wb := by
 unfold orE
 split
 ·exact hb
 ·exact ha
theorem b7w {p : Pl} : (a2o p).wb := by
 unfold a2o
 split
 ·exact .inr (.inl ⟨2, by decide, rfl⟩)
 ·split
  ·exact .inr (.inl ⟨3, by decide, rfl⟩)
  ·refine c70 (b1d (fun v => d6a.wb) _ _) (c70 (b1d f0r _ _) (c70 (b1d (fun d => d0z _) _ _) ?_))
   split
   ·exact .inl rfl
   ·exact .inr (.inl ⟨3, by decide, rfl⟩)
theorem g1j {p : Pl} (hp : PlL p) (h : st.s 1 = .var (eP p) /\ st.s 7 = li 0 /\ st.s 2 = .var [li 0, lb false, li 0])
  (hbad : (a04 dE p.weights 0).isNil = false -> ∀ s, s.s 2 = .var [li (a04 dE p.weights 0).flt.1, lb (a04 dE p.weights 0).flt.2.1, li (a04 dE p.weights 0).flt.2.2] -> Q .ret s)
  (hex : (a04 dE p.weights 0).isNil = true -> ∀ s, s.s 1 = .var (eP p) -> s.s 2 = .var [li 0, lb false, li 0] -> Q (.exit 4) s) : AW pg G 140 (.loop a2l) Q st := by
 have hlv := hp.weights
 refine a08 Nat (fun j st => j <= p.weights.length /\ a04 dE p.weights 0 = a04 dE (p.weights.drop j) j /\ st.s 1 = .var (eP p) /\ st.s 7 = li j /\ st.s 2 = .var [li 0, lb false, li 0]) (fun j => p.weights.length - j) 0 ⟨by omega, rfl, h⟩ ?_
 clear h
 rintro j st K ⟨hj, hm, h⟩ hK
 by_cases hlt : j < p.weights.length
 ·rw [List.drop_eq_getElem_cons hlt, a04] at hm
  have hb := hp.w _ (List.getElem_mem hlt)
  have c := a6e (G := G) p.weights[j].shape p.weights[j].wide (by omega)
  rw [c3b] at c
  have hwb := d0z p.weights[j].shape
  obtain ⟨e, hde⟩ : ∃ e, a03 p.weights[j].shape = e := ⟨_, rfl⟩
  rw [hde] at c hwb
  simp only [dE, hde] at hm
  simp (disch := omega) [go_sem, a2l, h, hlt]
  refine a0b c rfl rfl ?_
  cases he : e.isNil
  ·have h0 : ¬ eC e = 0 := fun k => by rw [(b7j hwb).1 k] at he; cases he
   rw [he, if_neg (by simp)] at hm
   have hP := b10 (G := G) (k := (j : Int)) hwb he
   simp (disch := omega) [go_sem, h, h0]
   refine a0b hP rfl rfl ?_
   rw [<- hm]
   simp (disch := omega) [go_sem, h]
   refine hbad (by rw [hm, b07, he]) _ ?_
   simp (disch := omega) [go_sem, h]
  ·have h0 : eC e = 0 := (b7j hwb).2 he
   rw [he, if_pos rfl] at hm
   simp (disch := omega) [go_sem, h, h0]
   refine hK (j + 1) _ ⟨by omega, by rw [hm]; rfl, by simp (disch := omega) [go_sem, h]⟩ (by omega)
 ·obtain rfl : j = p.weights.length := by omega
  rw [List.drop_length, a04] at hm
  simp (disch := omega) [go_sem, a2l, h]
  exact hex (by rw [hm]; rfl) _ (by simp (disch := omega) [go_sem, h]) (by simp (disch := omega) [go_sem, h])
theorem d2m {p : Pl} (hp : PlL p) : ACalls pg G a9t [.agg (eP p)] (fE (a2o p)) := by
 have hlv := hp.views
 have hlc := hp.consts
 have hlw := hp.weights
 have hlk := hp.code
 have many : ACalls pg G a7g [li 104] (fE (.s 2)) := b91 104
 have rng : ACalls pg G a7g [li 102] (fE (.s 3)) := b91 102
 generalize hr : a2o p = r
 rw [a2o] at hr
 refine a7z rfl ?_
 simp (disch := omega) [go_sem, a5a]
 by_cases m1 : 128 < p.views.length
 ·have m1' : (128 : Int) < p.views.length := by omega
  rw [if_pos (by omega)] at hr
  subst hr
  simp (disch := omega) [go_sem, m1']
  refine a0b many rfl rfl ?_
  simp (disch := omega) [go_sem]
 have m1' : ¬ (128 : Int) < p.views.length := by omega
 by_cases m2 : 64 < p.consts.length
 ·have m2' : (64 : Int) < p.consts.length := by omega
  rw [if_pos (by omega)] at hr
  subst hr
  simp (disch := omega) [go_sem, m1', m2']
  refine a0b many rfl rfl ?_
  simp (disch := omega) [go_sem]
 have m2' : ¬ (64 : Int) < p.consts.length := by omega
 by_cases m3 : 8 < p.weights.length
 ·have m3' : (8 : Int) < p.weights.length := by omega
  rw [if_pos (by omega)] at hr
  subst hr
  simp (disch := omega) [go_sem, m1', m2', m3']
  refine a0b many rfl rfl ?_
  simp (disch := omega) [go_sem]
 have m3' : ¬ (8 : Int) < p.weights.length := by omega
 by_cases m4 : 2048 < p.code.length
 ·have m4' : (2048 : Int) < p.code.length := by omega
  rw [if_pos (by omega)] at hr
  subst hr
  simp (disch := omega) [go_sem, m1', m2', m3', m4']
  refine a0b many rfl rfl ?_
  simp (disch := omega) [go_sem]
 have m4' : ¬ (2048 : Int) < p.code.length := by omega
 rw [if_neg (by omega)] at hr
 simp (disch := omega) [go_sem, m1', m2', m3', m4']
 by_cases z1 : p.size < 0
 ·rw [if_pos (.inl z1)] at hr
  subst hr
  simp (disch := omega) [go_sem, z1]
  refine a0b rng rfl rfl ?_
  simp (disch := omega) [go_sem]
 by_cases z2 : 65536 < p.size
 ·rw [if_pos (.inr z2)] at hr
  subst hr
  simp (disch := omega) [go_sem, z1, z2]
  refine a0b rng rfl rfl ?_
  simp (disch := omega) [go_sem]
 rw [if_neg (by omega)] at hr
 simp (disch := omega) [go_sem, z1, z2]
 refine g1h hp ⟨by omega, by omega⟩ (by simp (disch := omega) [go_sem]) (fun hb s h => ?_) (fun hb s h h2 => ?_) (by simp (disch := omega) [go_sem])
 ·rw [orE, if_neg (by rw [hb]; simp)] at hr
  rw [hr] at h
  simp (disch := omega) [go_sem, h]
 rw [orE, if_pos hb] at hr
 simp (disch := omega) [go_sem, h, h2]
 refine g1i hp (by simp (disch := omega) [go_sem, h, h2]) (fun hb s h => ?_) (fun hb s h h2 => ?_)
 ·rw [orE, if_neg (by rw [hb]; simp)] at hr
  rw [hr] at h
  simp (disch := omega) [go_sem, h]
 rw [orE, if_pos hb] at hr
 simp (disch := omega) [go_sem, h, h2]
 refine g1j hp (by simp (disch := omega) [go_sem, h, h2]) (fun hb s h => ?_) (fun hb s h h2 => ?_)
 ·rw [orE, if_neg (by rw [hb]; simp)] at hr
  rw [hr] at h
  simp (disch := omega) [go_sem, h]
 rw [orE, if_pos hb] at hr
 simp (disch := omega) [go_sem, h, h2]
 refine a0b (c11 p p.input (by omega)) rfl rfl ?_
 cases v1 : a14 p p.input
 ·rw [v1, if_neg (by simp)] at hr
  subst hr
  simp (disch := omega) [go_sem, h, h2]
  refine a0b rng rfl rfl ?_
  simp (disch := omega) [go_sem, h, h2]
 simp (disch := omega) [go_sem, h, h2]
 refine a0b (c11 p p.output (by omega)) rfl rfl ?_
 cases v2 : a14 p p.output
 ·rw [v1, v2, if_neg (by simp)] at hr
  subst hr
  simp (disch := omega) [go_sem, h, h2]
  refine a0b rng rfl rfl ?_
  simp (disch := omega) [go_sem, h, h2]
 rw [v1, v2, if_pos (by rfl)] at hr
 subst hr
 simp (disch := omega) [go_sem, h, h2]
 refine a0b (c31 G) rfl rfl ?_
 simp (disch := omega) [go_sem, h, h2]
 exact ⟨rfl, rfl, rfl⟩
end
end Go.Ideal.Tryz
end
section
namespace Go.Ideal.Tryz
attribute [local go_sem] eD eT eV eI eP
section
variable {G : GG} {bk : Nat -> Nat × Nat} {Q : Exit -> St -> Prop} {st : St}
theorem d3c {p : Pl} {i : In} (h : (a3f p i).2.isNil = true) : b5m p i = (a3f p i).1 /\ (a0x i.op = true -> (opR i.op i.args (a83 p i)).2.isNil = true) := by
 unfold a3f at h ⊢
 unfold b5m
 split at h
 ·rename_i k
  rw [if_pos k, if_pos k]
  split at h
  ·rename_i k2
   rw [if_pos k2]
   refine ⟨?_, fun _ => k2⟩
   split at h
   ·rename_i k3
    rw [if_pos k3]
    split at h
    ·rename_i k4; rw [if_pos k4]
    ·cases h
   ·cases h
  ·rename_i k2; exact absurd h k2
 ·rename_i k
  rw [if_neg k, if_neg k]
  refine ⟨?_, fun k2 => absurd k2 k⟩
  split at h
  ·rename_i k2
   rw [if_pos k2]
   split at h
   ·cases h
   ·rename_i d hd
    split at h
    ·rename_i k3; rw [if_pos k3]
    ·cases h
  ·cases h
theorem c8q {p : Pl} {i : In} (h : (a1v p i).2.isNil = false) : (a1v p i).1 = 0 := by
 unfold a1v at h ⊢
 split
 ·rfl
 split
 ·rfl
 split
 ·rfl
 rename_i c1 c2 c3
 rw [if_neg c1, if_neg c2, if_neg c3] at h
 split
 ·rename_i c4
  rw [if_pos c4] at h
  split
  ·rename_i c5
   rw [if_pos c5] at h
   split
   ·rename_i c6; rw [if_pos c6] at h; cases h
   ·rfl
  ·rfl
 ·rename_i c4
  rw [if_neg c4] at h
  split
  ·rename_i c5
   rw [if_pos c5] at h
   unfold c28 at h ⊢
   split
   ·rename_i c6
    rw [if_pos c6] at h
    split
    ·rename_i c7; rw [if_pos c7] at h; cases h
    ·rfl
   ·rfl
  ·rfl
theorem c8r {p : Pl} {i : In} (h : (a1v p i).2.isNil = true) : (a9k i.op = false -> (a1v p i).1 = 1) /\ (a9k i.op = true -> (i.ins.all (a14 p)) = true /\ (a0x i.op = true -> (opR i.op i.args (a83 p i)).2.isNil = true) /\
  (0 <= i.frm /\ i.frm <= i.to /\ i.to <= 16384) /\ (0 <= b5m p i /\ b5m p i <= 16777216) /\ (a1v p i).1 = max ((i.to - i.frm) * b5m p i) 1) := by
 unfold a1v at h ⊢
 split at h
 ·cases h
 rename_i c1
 split at h
 ·cases h
 rename_i c2
 split at h
 ·cases h
 rename_i c3
 rw [if_neg c1, if_neg c2, if_neg c3]
 split at h
 ·rename_i c4
  rw [if_pos c4]
  split at h
  ·rename_i c5
   rw [if_pos c5]
   split at h
   ·rename_i c6
    rw [if_pos c6]
    exact ⟨fun _ => rfl, fun k => absurd ((show b9o i = true from k).symm.trans c4) (by simp)⟩
   ·cases h
  ·rename_i c5; exact absurd h c5
 ·rename_i c4
  rw [if_neg c4]
  split at h
  ·rename_i c5
   rw [if_pos c5]
   obtain ⟨u1, u2⟩ := d3c c5
   have hu := c1s c5
   have hel := a7c (c3a p i).shape
   unfold c28 at h ⊢
   split at h
   ·rename_i c6
    rw [if_pos c6]
    split at h
    ·rename_i c7
     rw [if_pos c7, u1]
     exact ⟨fun k => absurd k c4, fun _ => ⟨by simpa using c3, u2, by omega, hu, rfl⟩⟩
    ·cases h
   ·cases h
  ·rename_i c5; exact absurd h c5
theorem d2c {p : Pl} (hp : PlB p) (k : Nat) (hk : k < p.code.length) (hi0 : InB p p.code[k]) (hok : (a1v p p.code[k]).2.isNil = true) : ACalls pg G b5p [.agg (eP p), li k] (li (a1v p p.code[k]).1) := by
 have hlc := hp.code
 obtain ⟨i, hik⟩ : ∃ i, p.code[k] = i := ⟨_, rfl⟩
 rw [hik] at hi0 hok ⊢
 obtain ⟨k1, k2⟩ := c8r hok
 generalize (a1v p i).1 = c at *
 refine b2n rfl ?_
 simp (disch := omega) [go_sem, a86, hk, hik]
 refine a0b (a6f i.op) rfl rfl ?_
 cases hd : a9k i.op
 ·have hc := k1 hd
  subst hc
  simp (disch := omega) [go_sem, hd]
 ·obtain ⟨a1, a2, a3, a4, a5⟩ := k2 hd
  have hU := c10 (G := G) hp hi0 (List.all_eq_true.1 a1) a2
  generalize b5m p i = u at *
  have g1 : 0 <= i.to - i.frm /\ i.to - i.frm <= 16384 := by omega
  have g2 : 0 <= (i.to - i.frm) * u := Int.mul_nonneg g1.1 a4.1
  have g3 : (i.to - i.frm) * u <= 16384 * 16777216 := Int.mul_le_mul g1.2 a4.2 a4.1 (by omega)
  simp (disch := omega) [go_sem, hd]
  refine a0c ?_
  simp (disch := omega) [go_sem, hd]
  refine a0i hU rfl rfl (by simp (disch := omega) [go_sem, a0f, a1a]) [22] (by simp) (by simp (disch := omega) [go_sem]) ?_
  simp (disch := omega) [go_sem, a0f, a1a]
  refine a0d (by decide) fun s2 hs2 he2 => ?_
  rw [a5, Int.max_comm]
  simp (disch := omega) [go_sem, hs2]
  generalize (i.to - i.frm) * u = C
  split <;> omega
theorem f0k {e : Er} (h : e.snt) : e.ok := by
 rcases h with rfl | ⟨g, hg, rfl⟩
 ·exact .nil
 ·exact .s hg
theorem d96 {e : Er} (h : e.snt) : e.flt = (eC e, false, 0) := by
 rcases h with rfl | ⟨g, hg, rfl⟩ <;> rfl
theorem isE (hS : Sent G bk) {e : Er} (h : e.snt) : ACalls pg G b35 [a0s bk e, li (eC e)] (lb true) := by
 have := g6t hS (f0k h) (eC e)
 rw [d96 h] at this
 simpa using this
end
end Go.Ideal.Tryz
end
