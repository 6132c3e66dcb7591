/- Part Qbc of the proof: a machine with trees for values, its soundness, and walks on it. -/
import Derived.Test.YtfncabcldhemkaaGreatDoorQbb
import Derived.Test.YtfncabcldhemkaaGreatDoorQan
set_option linter.unusedVariables false
set_option linter.unusedSimpArgs false
set_option maxHeartbeats 8000000
set_option maxRecDepth 200000
section
namespace Go.Ideal.Tryz
attribute [local go_sem] eD eT eV eI eP
section
variable {G : GG} {bk : Nat -> Nat × Nat} {Q : Exit -> St -> Prop} {st : St}
theorem d1t (hS : Sent G bk) {p : Pl} (hp : PlB p) {ins : List Int} {iv : List AV} {m : Nat} (hml : m < p.views.length) (hli : ins.length < 2 ^ 30) (hins : ∀ k ∈ ins, a14 p k = true)
  (h : st.s 2 = .var (eP p) /\ st.s 3 = .var iv /\ st.s 6 = .var (eV p.views[m]) /\ st.s 107 = slI ins /\ st.s 108 = li ins.length /\ st.s 109 = li 0)
  (hbad : (ins.all fun k => a5n p.views[m] p.views[k.toNat]!) = false -> ∀ s, s.s 4 = li 0 /\ s.s 5 = a0s bk (.s 8) -> Q .ret s)
  (hex : (ins.all fun k => a5n p.views[m] p.views[k.toNat]!) = true -> ∀ s, s.s 2 = .var (eP p) /\ s.s 3 = .var iv -> Q (.exit 1) s) : AW pg G 133 (.loop a67) Q st := by
 have h10 := hS.val 8 (by decide)
 have hlv := hp.views
 refine a08 Nat (fun j st => j <= ins.length /\ (ins.all fun k => a5n p.views[m] p.views[k.toNat]!) = ((ins.drop j).all fun k => a5n p.views[m] p.views[k.toNat]!) /\ st.s 2 = .var (eP p) /\ st.s 3 = .var iv /\ st.s 6 = .var (eV p.views[m]) /\ st.s 107 = slI ins /\ st.s 108 = li ins.length /\ st.s 109 = li j) (fun j => ins.length - j) 0 ⟨by omega, rfl, h⟩ ?_
 clear h
 rintro j st K ⟨hi, hm, h⟩ hK
 by_cases hlt : j < ins.length
 ·rw [List.drop_eq_getElem_cons hlt, List.all_cons] at hm
  obtain ⟨n, hn, hnl⟩ := a97 (hins _ (List.getElem_mem hlt))
  have hv := hp.v _ (List.getElem_mem hml)
  have hv2 := hp.v _ (List.getElem_mem hnl)
  rw [hn, show p.views[((n : Int)).toNat]! = p.views[n] by simp [hnl]] at hm
  simp (disch := omega) [go_sem, a67, h, hlt, hn]
  refine a0c ?_
  simp (disch := omega) [go_sem, h, hn, hnl]
  refine a0i (d69 hS.five.three p.views[m] p.views[n] (by omega) (by omega) hv.2 hv2.2) rfl rfl (by simp (disch := omega) [go_sem, a0f, a1a]) [119] (by simp) (by simp (disch := omega) [go_sem, h]) ?_
  simp (disch := omega) [go_sem, h, a0f, a1a]
  refine a0d (by decide) fun s2 hs2 he2 => ?_
  cases ha : a5n p.views[m] p.views[n]
  ·rw [ha, Bool.false_and] at hm
   simp (disch := omega) [go_sem, hs2, h, ha]
   refine a0c ?_
   simp (disch := omega) [go_sem, hs2, h, h10]
   refine a0d (by decide) fun s3 hs3 he3 => ?_
   simp (disch := omega) [go_sem, hs3, hs2, h, h10]
   exact hbad hm _ (by simp (disch := omega) [go_sem, hs3, hs2, h, h10, a0s])
  ·rw [ha, Bool.true_and] at hm
   simp (disch := omega) [go_sem, hs2, h, ha]
   refine hK (j + 1) _ ⟨by omega, hm, by simp (disch := omega) [go_sem, hs2, h]⟩ (by omega)
 ·obtain rfl : j = ins.length := by omega
  rw [List.drop_length, List.all_nil] at hm
  simp (disch := omega) [go_sem, a67, h]
  exact hex hm _ (by simp (disch := omega) [go_sem, h])
def LB (r : Dr) : Prop := r.1.shape.length < 2 ^ 40
theorem b20 {e : Er} {r : Dr} (h : LB r) : LB (chk e r) := by unfold chk; split; exact h; show (0 : Nat) < 2 ^ 40; decide
theorem a7i {g : Nat} : LB (bad g) := by show (0 : Nat) < 2 ^ 40; decide
theorem c43 {r : Dr} (h : LB r) : ∀ {l : List Ds}, LB (a81 l r)
 | [] => h
 | d :: ds => b20 (c43 h)
theorem a8j {c : Prop} [Decidable c] {a b : Dr} (h : LB a) (h2 : LB b) : LB (if c then a else b) := by split; exact h; exact h2
theorem c44 {sh : List Int} {w : Bool} (h : sh.length < 2 ^ 40) : LB (a6r sh w) := b20 h
theorem d1g {ins : List Ds} (hf : ∀ d ∈ ins, d.shape.length < 2 ^ 40) (k : Nat) : (ins[k]!).shape.length < 2 ^ 40 := by
 by_cases h : k < ins.length
 ·have := hf _ (List.getElem_mem h); simpa [h] using this
 ·simp only [getElem!_def, List.getElem?_eq_none (Nat.le_of_not_lt h)]
  show (0 : Nat) < 2 ^ 40
  decide
theorem c9a {op : Int} {ins : List Ds} (hf : ∀ d ∈ ins, d.shape.length < 2 ^ 40) : (a1m op ins).1.shape.length < 2 ^ 40 := by
 have h0 := d1g hf 0
 unfold a1m
 split
 ·exact h0
 ·split
  ·split <;> simp [dn]
  ·split
   ·simp [dn]
   ·simp only [List.length_dropLast]; omega
theorem d15 {op : Int} {args : List Int} {ins : List Ds} (hf : ∀ d ∈ ins, d.shape.length < 2 ^ 40) (ha : args.length < 2 ^ 40) : (opR op args ins).1.shape.length < 2 ^ 40 := by
 have h0 := d1g hf 0
 have hl := c9a (op := op) hf
 have l2 : ∀ {a b : Int}, ([a, b] : List Int).length < 2 ^ 40 := by intros; simp
 have l3 : ∀ {a b c : Int}, ([a, b, c] : List Int).length < 2 ^ 40 := by intros; simp
 show LB (opR op args ins)
 unfold opR
 refine a8j (a8j ?_ a7i) a7i
 refine a8j (b20 (b20 (a8j (a8j (c44 l2) a7i) a7i))) ?_
 refine a8j (b20 (b20 (a8j (a8j (a8j (c44 l3) a7i) a7i) a7i))) ?_
 refine a8j (b20 (a8j (a8j (a8j l3 a7i) a7i) a7i)) ?_
 refine a8j (c43 (a8j (c44 hl) a7i)) ?_
 refine a8j (b20 (b20 (a8j ha a7i))) ?_
 refine a8j (b20 (a8j l2 a7i)) ?_
 exact c43 (a8j a7i (a8j (show LB (⟨ins[0]!.shape, a1u op ins[0]!.wide⟩, .nil) from h0) a7i))
theorem d8z (hS : Sent G bk) {p : Pl} (hp : PlB p) {i : In} (hi : InB p i) (hd : a14 p i.dst = true) (hins : ∀ k ∈ i.ins, a14 p k = true) (hk : a0x i.op = true) : ACalls pg G b0y [.agg (eP p), .agg (eI i)] (e0z bk (a3f p i)) := by
 have h7 := hS.val 6 (by decide)
 obtain ⟨m, hm, hml⟩ := a97 hd
 have hv := hp.v _ (List.getElem_mem hml)
 have hdv : c3a p i = p.views[m] := by simp [c3a, hm, hml]
 have hlv := hp.views
 have hli := hi.ins
 have hla := hi.args
 have hD := d71 (G := G) p i hi.ins (by omega) (fun k h => by
  have := hins k h
  simpa [a14] using this)
 have hDl : (a83 p i).length = i.ins.length := by simp [a83]
 have hDf : ∀ d ∈ a83 p i, d.shape.length < 2 ^ 40 := by
  intro d h
  obtain ⟨k, h1, rfl⟩ := List.mem_map.1 h
  obtain ⟨n, rfl, hn⟩ := a97 (hins k h1)
  have := hp.v _ (List.getElem_mem hn)
  simp [hn, Vw.ds]
  omega
 have hR := e80 hS i.op i.args (a83 p i) hDf (by omega) (by omega)
 have hRl := d15 (op := i.op) hDf (show i.args.length < 2 ^ 40 by omega)
 have hU := g0l hS i.op i.args (a83 p i) hDf (by omega) (by omega)
 generalize hr : a3f p i = r
 rw [a3f, hk, if_pos rfl, hdv] at hr
 generalize opR i.op i.args (a83 p i) = R at *
 simp only [eI, eP, hm] at hD
 cases hI : a09 (c2c bk R)
 ·refine a7l rfl ?_
  simp (disch := omega) [go_sem, a76, hm, hml]
  refine a0b (b54 i.op) rfl rfl ?_
  simp (disch := omega) [go_sem, hk]
  refine a0c ?_
  simp (disch := omega) [go_sem]
  refine a1j hD (by simp [go_sem, a0k]) (by simp (disch := omega) [go_sem]) (by simp (disch := omega) [go_sem, a0f, a1a]) [93] (by simp) (by simp (disch := omega) [go_sem]) ?_
  simp (disch := omega) [go_sem, a0f, a1a]
  refine b2a hR (a3x _) hI (by simp (disch := omega) [go_sem, a0f, a1a]) [94, 93] (by simp) (by simp (disch := omega) [go_sem]) ?_
  simp (disch := omega) [go_sem, a0f, a1a]
  refine a0d (by decide) fun s2 hs2 he2 => ?_
  cases he : R.2.isNil
  ·rw [he, if_neg (by simp)] at hr
   subst hr
   simp (disch := omega) [go_sem, hs2, he]
  rw [he, if_pos rfl] at hr
  simp (disch := omega) [go_sem, hs2, he]
  refine a0b (a51 R.1 (p.views[m]).ds (by omega) (by simp [Vw.ds]; omega)) rfl rfl ?_
  by_cases c5 : R.1 = (p.views[m]).ds
  ·rw [if_pos c5] at hr
   simp (disch := omega) [go_sem, hs2, c5]
   refine d1t hS hp (ins := i.ins) (m := m) (iv := [li i.op, li m, slI i.ins, slI i.args, li i.frm, li i.to]) hml hli hins (by simp (disch := omega) [go_sem, hs2]) (fun hb s h => ?_) (fun hb s h => ?_)
   ·rw [hb, if_neg (by simp)] at hr
    subst hr
    simp (disch := omega) [go_sem, h]
   ·rw [hb, if_pos rfl] at hr
    subst hr
    simp (disch := omega) [go_sem, h]
    refine a0c ?_
    simp (disch := omega) [go_sem, h]
    refine a1j hD (by simp [go_sem, a0k]) (by simp (disch := omega) [go_sem]) (by simp (disch := omega) [go_sem, a0f, a1a]) [129] (by simp) (by simp (disch := omega) [go_sem, h]) ?_
    simp (disch := omega) [go_sem, h, a0f, a1a]
    refine a0i (hU he) rfl rfl (by simp (disch := omega) [go_sem, a0f, a1a]) [130] (by simp) (by simp (disch := omega) [go_sem, h]) ?_
    simp (disch := omega) [go_sem, h, a0f, a1a]
    refine a0d (by decide) fun s3 hs3 he3 => ?_
    simp (disch := omega) [go_sem, hs3, h, a0s]
  ·rw [if_neg c5] at hr
   subst hr
   simp (disch := omega) [go_sem, hs2, c5]
   refine a0c ?_
   simp (disch := omega) [go_sem, hs2, h7]
   refine a0d (by decide) fun s3 hs3 he3 => ?_
   simp (disch := omega) [go_sem, hs3, hs2, h7, a0s]
 ·refine a7l rfl ?_
  simp (disch := omega) [go_sem, a76, hm, hml]
  refine a0b (b54 i.op) rfl rfl ?_
  simp (disch := omega) [go_sem, hk]
  refine a0c ?_
  simp (disch := omega) [go_sem]
  refine a1j hD (by simp [go_sem, a0k]) (by simp (disch := omega) [go_sem]) (by simp (disch := omega) [go_sem, a0f, a1a]) [93] (by simp) (by simp (disch := omega) [go_sem]) ?_
  simp (disch := omega) [go_sem, a0f, a1a]
  refine a0i hR (a3x _) hI (by simp (disch := omega) [go_sem, a0f, a1a]) [94] (by simp) (by simp (disch := omega) [go_sem]) ?_
  simp (disch := omega) [go_sem, a0f, a1a]
  refine a0d (by decide) fun s2 hs2 he2 => ?_
  cases he : R.2.isNil
  ·rw [he, if_neg (by simp)] at hr
   subst hr
   simp (disch := omega) [go_sem, hs2, he]
  rw [he, if_pos rfl] at hr
  simp (disch := omega) [go_sem, hs2, he]
  refine a0b (a51 R.1 (p.views[m]).ds (by omega) (by simp [Vw.ds]; omega)) rfl rfl ?_
  by_cases c5 : R.1 = (p.views[m]).ds
  ·rw [if_pos c5] at hr
   simp (disch := omega) [go_sem, hs2, c5]
   refine d1t hS hp (ins := i.ins) (m := m) (iv := [li i.op, li m, slI i.ins, slI i.args, li i.frm, li i.to]) hml hli hins (by simp (disch := omega) [go_sem, hs2]) (fun hb s h => ?_) (fun hb s h => ?_)
   ·rw [hb, if_neg (by simp)] at hr
    subst hr
    simp (disch := omega) [go_sem, h]
   ·rw [hb, if_pos rfl] at hr
    subst hr
    simp (disch := omega) [go_sem, h]
    refine a0c ?_
    simp (disch := omega) [go_sem, h]
    refine a1j hD (by simp [go_sem, a0k]) (by simp (disch := omega) [go_sem]) (by simp (disch := omega) [go_sem, a0f, a1a]) [129] (by simp) (by simp (disch := omega) [go_sem, h]) ?_
    simp (disch := omega) [go_sem, h, a0f, a1a]
    refine a0i (hU he) rfl rfl (by simp (disch := omega) [go_sem, a0f, a1a]) [130] (by simp) (by simp (disch := omega) [go_sem, h]) ?_
    simp (disch := omega) [go_sem, h, a0f, a1a]
    refine a0d (by decide) fun s3 hs3 he3 => ?_
    simp (disch := omega) [go_sem, hs3, h, a0s]
  ·rw [if_neg c5] at hr
   subst hr
   simp (disch := omega) [go_sem, hs2, c5]
   refine a0c ?_
   simp (disch := omega) [go_sem, hs2, h7]
   refine a0d (by decide) fun s3 hs3 he3 => ?_
   simp (disch := omega) [go_sem, hs3, hs2, h7, a0s]
theorem e7n (hS : Sent G bk) {p : Pl} (hp : PlB p) {i : In} (hi : InB p i) (hd : a14 p i.dst = true) (hins : ∀ k ∈ i.ins, a14 p k = true) : ACalls pg G b0y [.agg (eP p), .agg (eI i)] (e0z bk (a3f p i)) := by
 cases hk : a0x i.op
 ·exact d8y hS hp hi hd hk
 ·exact d8z hS hp hi hd hins hk
end
end Go.Ideal.Tryz
end
