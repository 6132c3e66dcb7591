/- Part Qbc of the proof: a machine with trees for values, its soundness, and walks on it. -/
import Derived.Test.YtfncabcldhemkaaDoorQbb
import Derived.Test.YtfncabcldhemkaaDoorQaq
section
set_option linter.unusedVariables false
set_option linter.unusedSimpArgs false
set_option maxRecDepth 200000
namespace Go.Ideal.Tryd
attribute [local go_sem] eD eT eV eI eP
section
variable {G : GG} {bk : Nat → Nat × Nat} {Q : Exit → St → Prop} {st : St}
theorem e3z (hS : Sent G bk) {p : Pl} (hp : PlB p) {ins : List Int} {iv : List AV} {m : Nat} (hml : m < p.views.length) (hli : ins.length < 2 ^ 30) (hins : ∀ k ∈ ins, a1x p k = true)
    (h : st.s 2 = .var (eP p) ∧ st.s 3 = .var iv ∧ st.s 6 = .var (eV p.views[m]) ∧ st.s 107 = slI ins ∧ st.s 108 = li ins.length ∧ st.s 109 = li 0)
    (hbad : (ins.all fun k => a3j p.views[m] p.views[k.toNat]!) = false → ∀ s, s.s 4 = li 0 ∧ s.s 5 = a0m bk (.s 8) → Q .ret s)
    (hex : (ins.all fun k => a3j p.views[m] p.views[k.toNat]!) = true → ∀ s, s.s 2 = .var (eP p) ∧ s.s 3 = .var iv → Q (.exit 1) s) : AW pg G 133 (.loop a5r) Q st := by
  have h10 := hS.val 10 (by decide)
  have hlv := hp.views
  refine a1g Nat (fun j st => j ≤ ins.length ∧ (ins.all fun k => a3j p.views[m] p.views[k.toNat]!) = ((ins.drop j).all fun k => a3j p.views[m] p.views[k.toNat]!) ∧ st.s 2 = .var (eP p) ∧ st.s 3 = .var iv ∧ st.s 6 = .var (eV p.views[m]) ∧ st.s 107 = slI ins ∧ st.s 108 = li ins.length ∧ st.s 109 = li j) (fun j => ins.length - j) 0 ⟨by omega, rfl, h⟩ ?_
  clear h
  rintro j st K ⟨hi, hm, h⟩ hK
  by_cases hlt : j < ins.length
  · rw [List.drop_eq_getElem_cons hlt, List.all_cons] at hm
    obtain ⟨n, hn, hnl⟩ := b3t (hins _ (List.getElem_mem hlt))
    have hv := hp.v _ (List.getElem_mem hml)
    have hv2 := hp.v _ (List.getElem_mem hnl)
    rw [hn, show p.views[((n : Int)).toNat]! = p.views[n] by simp [hnl]] at hm
    simp (disch := omega) [go_sem, a5r, h, hlt, hn]
    refine a0b ?_
    simp (disch := omega) [go_sem, h, hn, hnl]
    refine a0p (c0f hS.five.three p.views[m] p.views[n] (by omega) (by omega) hv.2 hv2.2) rfl rfl (by simp (disch := omega) [go_sem, a0k, a19]) [119] (by simp) (by simp (disch := omega) [go_sem, h]) ?_
    simp (disch := omega) [go_sem, h, a0k, a19]
    refine a0c (by decide) fun s2 hs2 he2 => ?_
    cases ha : a3j p.views[m] p.views[n]
    · rw [ha, Bool.false_and] at hm
      simp (disch := omega) [go_sem, hs2, h, ha]
      refine a0b ?_
      simp (disch := omega) [go_sem, hs2, h, h10]
      refine a0c (by decide) fun s3 hs3 he3 => ?_
      simp (disch := omega) [go_sem, hs3, hs2, h, h10]
      exact hbad hm _ (by simp (disch := omega) [go_sem, hs3, hs2, h, h10, a0m])
    · rw [ha, Bool.true_and] at hm
      simp (disch := omega) [go_sem, hs2, h, ha]
      refine hK (j + 1) _ ⟨by omega, hm, by simp (disch := omega) [go_sem, hs2, h]⟩ (by omega)
  · obtain rfl : j = ins.length := by omega
    rw [List.drop_length, List.all_nil] at hm
    simp (disch := omega) [go_sem, a5r, h]
    exact hex hm _ (by simp (disch := omega) [go_sem, h])
def LB (r : Dr) : Prop := r.1.shape.length < 2 ^ 40
theorem b29 {e : Er} {r : Dr} (h : LB r) : LB (chk e r) := by unfold chk; split; exact h; show (0 : Nat) < 2 ^ 40; decide
theorem a55 {g : Nat} : LB (bad g) := by show (0 : Nat) < 2 ^ 40; decide
theorem d70 {r : Dr} (h : LB r) : ∀ {l : List Ds}, LB (d1e l r)
  | [] => h
  | d :: ds => b29 (d70 h)
theorem a8x {c : Prop} [Decidable c] {a b : Dr} (h : LB a) (h2 : LB b) : LB (if c then a else b) := by split; exact h; exact h2
theorem d7k {sh : List Int} {w : Bool} (h : sh.length < 2 ^ 40) : LB (b9s sh w) := b29 h
theorem e2g {ins : List Ds} (hf : ∀ d ∈ ins, d.shape.length < 2 ^ 40) (k : Nat) : (ins[k]!).shape.length < 2 ^ 40 := by
  by_cases h : k < ins.length
  · have := hf _ (List.getElem_mem h); simpa [h] using this
  · simp only [getElem!_def, List.getElem?_eq_none (Nat.le_of_not_lt h)]
    show (0 : Nat) < 2 ^ 40
    decide
theorem e1i {op : Int} {ins : List Ds} (hf : ∀ d ∈ ins, d.shape.length < 2 ^ 40) : (a20 op ins).1.shape.length < 2 ^ 40 := by
  have h0 := e2g hf 0
  unfold a20
  split
  · exact h0
  · split
    · split <;> simp [dn]
    · split
      · simp [dn]
      · simp only [List.length_dropLast]; omega
theorem e9j {op : Int} {args : List Int} {ins : List Ds} (hf : ∀ d ∈ ins, d.shape.length < 2 ^ 40) (ha : args.length < 2 ^ 40) : (opR op args ins).1.shape.length < 2 ^ 40 := by
  have h0 := e2g hf 0
  have hl := e1i (op := op) hf
  have l2 : ∀ {a b : Int}, ([a, b] : List Int).length < 2 ^ 40 := by intros; simp
  have l3 : ∀ {a b c : Int}, ([a, b, c] : List Int).length < 2 ^ 40 := by intros; simp
  show LB (opR op args ins)
  unfold opR
  refine a8x (a8x ?_ a55) a55
  refine a8x (b29 (b29 (a8x (a8x (d7k l2) a55) a55))) ?_
  refine a8x (b29 (b29 (a8x (a8x (a8x (d7k l3) a55) a55) a55))) ?_
  refine a8x (b29 (a8x (a8x (a8x l3 a55) a55) a55)) ?_
  refine a8x (d70 (a8x (d7k hl) a55)) ?_
  refine a8x (b29 (b29 (a8x ha a55))) ?_
  refine a8x (b29 (a8x l2 a55)) ?_
  exact d70 (a8x a55 (a8x (show LB (⟨ins[0]!.shape, a18 op ins[0]!.wide⟩, .nil) from h0) a55))
set_option maxHeartbeats 8000000 in
theorem f04 (hS : Sent G bk) {p : Pl} (hp : PlB p) {i : In} (hi : InB p i) (hd : a1x p i.dst = true) (hins : ∀ k ∈ i.ins, a1x p k = true) (hk : a2b i.op = true) : ACalls pg G b1e [.agg (eP p), .agg (eI i)] (f9d bk (a8m p i)) := by
  have h7 := hS.val 7 (by decide)
  obtain ⟨m, hm, hml⟩ := b3t hd
  have hv := hp.v _ (List.getElem_mem hml)
  have hdv : c9o p i = p.views[m] := by simp [c9o, hm, hml]
  have hlv := hp.views
  have hli := hi.ins
  have hla := hi.args
  have hD := e9b (G := G) p i hi.ins (by omega) (fun k h => by
    have := hins k h
    simpa [a1x] using this)
  have hDl : (d4j p i).length = i.ins.length := by simp [d4j]
  have hDf : ∀ d ∈ d4j p i, d.shape.length < 2 ^ 40 := by
    intro d h
    obtain ⟨k, h1, rfl⟩ := List.mem_map.1 h
    obtain ⟨n, rfl, hn⟩ := b3t (hins k h1)
    have := hp.v _ (List.getElem_mem hn)
    simp [hn, Vw.ds]
    omega
  have hR := g1s hS i.op i.args (d4j p i) hDf (by omega) (by omega)
  have hRl := e9j (op := i.op) hDf (show i.args.length < 2 ^ 40 by omega)
  have hU := h0t hS i.op i.args (d4j p i) hDf (by omega) (by omega)
  generalize hr : a8m p i = r
  rw [a8m, hk, if_pos rfl, hdv] at hr
  generalize opR i.op i.args (d4j p i) = R at *
  simp only [eI, eP, hm] at hD
  cases hI : a0z (d36 bk R)
  · refine a5w rfl ?_
    simp (disch := omega) [go_sem, a7v, hm, hml]
    refine a0d (b68 i.op) rfl rfl ?_
    simp (disch := omega) [go_sem, hk]
    refine a0b ?_
    simp (disch := omega) [go_sem]
    refine a5a hD (by simp [go_sem, a0r]) (by simp (disch := omega) [go_sem]) (by simp (disch := omega) [go_sem, a0k, a19]) [93] (by simp) (by simp (disch := omega) [go_sem]) ?_
    simp (disch := omega) [go_sem, a0k, a19]
    refine d9l hR (a21 _) hI (by simp (disch := omega) [go_sem, a0k, a19]) [94, 93] (by simp) (by simp (disch := omega) [go_sem]) ?_
    simp (disch := omega) [go_sem, a0k, a19]
    refine a0c (by decide) fun s2 hs2 he2 => ?_
    cases he : R.2.isNil
    · rw [he, if_neg (by simp)] at hr
      subst hr
      simp (disch := omega) [go_sem, hs2, he]
    rw [he, if_pos rfl] at hr
    simp (disch := omega) [go_sem, hs2, he]
    refine a0d (a4q R.1 (p.views[m]).ds (by omega) (by simp [Vw.ds]; omega)) rfl rfl ?_
    by_cases c5 : R.1 = (p.views[m]).ds
    · rw [if_pos c5] at hr
      simp (disch := omega) [go_sem, hs2, c5]
      refine e3z hS hp (ins := i.ins) (m := m) (iv := [li i.op, li m, slI i.ins, slI i.args, li i.frm, li i.to]) hml hli hins (by simp (disch := omega) [go_sem, hs2]) (fun hb s h => ?_) (fun hb s h => ?_)
      · rw [hb, if_neg (by simp)] at hr
        subst hr
        simp (disch := omega) [go_sem, h]
      · rw [hb, if_pos rfl] at hr
        subst hr
        simp (disch := omega) [go_sem, h]
        refine a0b ?_
        simp (disch := omega) [go_sem, h]
        refine a5a hD (by simp [go_sem, a0r]) (by simp (disch := omega) [go_sem]) (by simp (disch := omega) [go_sem, a0k, a19]) [129] (by simp) (by simp (disch := omega) [go_sem, h]) ?_
        simp (disch := omega) [go_sem, h, a0k, a19]
        refine a0p (hU he) rfl rfl (by simp (disch := omega) [go_sem, a0k, a19]) [130] (by simp) (by simp (disch := omega) [go_sem, h]) ?_
        simp (disch := omega) [go_sem, h, a0k, a19]
        refine a0c (by decide) fun s3 hs3 he3 => ?_
        simp (disch := omega) [go_sem, hs3, h, a0m]
    · rw [if_neg c5] at hr
      subst hr
      simp (disch := omega) [go_sem, hs2, c5]
      refine a0b ?_
      simp (disch := omega) [go_sem, hs2, h7]
      refine a0c (by decide) fun s3 hs3 he3 => ?_
      simp (disch := omega) [go_sem, hs3, hs2, h7, a0m]
  · refine a5w rfl ?_
    simp (disch := omega) [go_sem, a7v, hm, hml]
    refine a0d (b68 i.op) rfl rfl ?_
    simp (disch := omega) [go_sem, hk]
    refine a0b ?_
    simp (disch := omega) [go_sem]
    refine a5a hD (by simp [go_sem, a0r]) (by simp (disch := omega) [go_sem]) (by simp (disch := omega) [go_sem, a0k, a19]) [93] (by simp) (by simp (disch := omega) [go_sem]) ?_
    simp (disch := omega) [go_sem, a0k, a19]
    refine a0p hR (a21 _) hI (by simp (disch := omega) [go_sem, a0k, a19]) [94] (by simp) (by simp (disch := omega) [go_sem]) ?_
    simp (disch := omega) [go_sem, a0k, a19]
    refine a0c (by decide) fun s2 hs2 he2 => ?_
    cases he : R.2.isNil
    · rw [he, if_neg (by simp)] at hr
      subst hr
      simp (disch := omega) [go_sem, hs2, he]
    rw [he, if_pos rfl] at hr
    simp (disch := omega) [go_sem, hs2, he]
    refine a0d (a4q R.1 (p.views[m]).ds (by omega) (by simp [Vw.ds]; omega)) rfl rfl ?_
    by_cases c5 : R.1 = (p.views[m]).ds
    · rw [if_pos c5] at hr
      simp (disch := omega) [go_sem, hs2, c5]
      refine e3z hS hp (ins := i.ins) (m := m) (iv := [li i.op, li m, slI i.ins, slI i.args, li i.frm, li i.to]) hml hli hins (by simp (disch := omega) [go_sem, hs2]) (fun hb s h => ?_) (fun hb s h => ?_)
      · rw [hb, if_neg (by simp)] at hr
        subst hr
        simp (disch := omega) [go_sem, h]
      · rw [hb, if_pos rfl] at hr
        subst hr
        simp (disch := omega) [go_sem, h]
        refine a0b ?_
        simp (disch := omega) [go_sem, h]
        refine a5a hD (by simp [go_sem, a0r]) (by simp (disch := omega) [go_sem]) (by simp (disch := omega) [go_sem, a0k, a19]) [129] (by simp) (by simp (disch := omega) [go_sem, h]) ?_
        simp (disch := omega) [go_sem, h, a0k, a19]
        refine a0p (hU he) rfl rfl (by simp (disch := omega) [go_sem, a0k, a19]) [130] (by simp) (by simp (disch := omega) [go_sem, h]) ?_
        simp (disch := omega) [go_sem, h, a0k, a19]
        refine a0c (by decide) fun s3 hs3 he3 => ?_
        simp (disch := omega) [go_sem, hs3, h, a0m]
    · rw [if_neg c5] at hr
      subst hr
      simp (disch := omega) [go_sem, hs2, c5]
      refine a0b ?_
      simp (disch := omega) [go_sem, hs2, h7]
      refine a0c (by decide) fun s3 hs3 he3 => ?_
      simp (disch := omega) [go_sem, hs3, hs2, h7, a0m]
theorem f8u (hS : Sent G bk) {p : Pl} (hp : PlB p) {i : In} (hi : InB p i) (hd : a1x p i.dst = true) (hins : ∀ k ∈ i.ins, a1x p k = true) : ACalls pg G b1e [.agg (eP p), .agg (eI i)] (f9d bk (a8m p i)) := by
  cases hk : a2b i.op
  · exact f1y hS hp hi hd hk
  · exact f04 hS hp hi hd hins hk
end
end Go.Ideal.Tryd
end
