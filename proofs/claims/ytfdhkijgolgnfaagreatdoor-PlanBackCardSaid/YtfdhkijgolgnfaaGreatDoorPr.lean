/- Part Pr of the proof: a machine with trees for values, its soundness, and walks on it. -/
import Derived.Test.YtfdhkijgolgnfaaGreatDoorPq
import Derived.Test.YtfdhkijgolgnfaaGreatDoorPn
section
set_option linter.unusedVariables false
set_option linter.unusedSimpArgs false
set_option maxRecDepth 10000
namespace Go.Ideal
section
variable {x : Int}
theorem h02 : ∀ n : Nat, n < 256 → (BitVec.ofNat 64 n &&& 8#64).toNat = if n / 8 % 2 = 1 then 8 else 0 := by decide
@[go_sem] theorem g5f (h : 0 ≤ x ∧ x ≤ 255) : a1o .and 0 (.lit (.int .i64 x)) (.lit (.int .i64 8)) = some (.lit (.int .i64 (if x / 8 % 2 = 1 then 8 else 0))) := by
  obtain ⟨n, rfl⟩ := Int.eq_ofNat_of_zero_le h.1
  have h1 := h02 n (by omega)
  have h2 : Op.intBits .and .i64 (n : Int) 8 = Sem.pure (.int .i64 (IntKind.i64.wrap (BitVec.ofInt 64 (n : Int) &&& BitVec.ofInt 64 8).toNat)) := rfl
  have h3 : BitVec.ofInt 64 (n : Int) = BitVec.ofNat 64 n := BitVec.ofInt_natCast ..
  simp only [a1o, c3f, a1d, if_true, h2, h3, a5u, Option.map_some]
  have h4 : (BitVec.ofNat 64 n &&& BitVec.ofInt 64 8).toNat = if n / 8 % 2 = 1 then 8 else 0 := h1
  rw [h4, IntKind.wrap_i64]
  by_cases k : n / 8 % 2 = 1
  · have k' : (n : Int) / 8 % 2 = 1 := by omega
    simp [k, k']
  · have k' : ¬ (n : Int) / 8 % 2 = 1 := by omega
    simp [k, k']
end
@[go_sem] theorem h3d {u : Nat} {q : List Nat} : a66 [] u q = false := by cases q <;> rfl
@[go_sem] theorem g58 {T : List (Nat × AV)} {t u : Nat} {v : AV} {q : List Nat} (h : u ≠ t) : a66 ((t, v) :: T) u q = a66 T u q := by
  unfold a66
  have : (u == t) = false := by simpa using h
  rw [List.lookup_cons, this]
namespace Tryz
def b6n (b : List Int) (s : Rs) : Rs := if (a1x b s).2.err.isNil = true ∧ 16 ≤ (a1x b s).1 then b77 (a1x b s).2 s.at_ (.s 5) else (a1x b s).2
def d8q (x : Int) : Int := if x / 8 % 2 = 1 then x - 8 else x
def a8f (b : List Int) (s : Rs) : Ds × Rs :=
  (⟨(a2g (a0n b) (d8q (a1x b s).1).toNat [] (b6n b s)).1, decide ((a1x b s).1 / 8 % 2 = 1)⟩, (a2g (a0n b) (d8q (a1x b s).1).toNat [] (b6n b s)).2)
theorem d5o {b : List Int} (s : Rs) (h : s.at_ ≤ b.length) : (b6n b s).at_ ≤ b.length := by
  unfold b6n
  split
  · rw [d21]; exact a4i s h
  · exact a4i s h
theorem e1u {b : List Int} (s : Rs) (h : s.at_ ≤ b.length) : (a8f b s).2.at_ ≤ b.length := c6e (fun s h => a6d s h) _ _ _ (d5o s h)
section
variable {G : Nat → Option Value} {bk : Nat → Nat × Nat} {Q : Exit → St → Prop} {st : St} {b : List Int}
theorem d9o (hS : Sent5 G bk) (hB : a1l b) (hl : b.length < 2 ^ 40) {w : Bool} {n : Nat} (hn : n < 256) {s0 : Rs} (ha : s0.at_ ≤ b.length) (h0 : st.ep 0 = 0) (h : st.s 0 = b0a bk b s0 ∧ st.s 2 = .var [.own 1 0 [], lb false] ∧ st.s 5 = .var [owI ([] : List Int), lb w] ∧ st.s 6 = li n)
    (hex : ∀ s, s.ep 0 = 0 → s.s 0 = b0a bk b (a2g (a0n b) n [] s0).2 ∧ s.s 2 = .var [.own 1 0 [], lb false] ∧ s.s 5 = .var [owI (a2g (a0n b) n [] s0).1, lb w] → Q (.exit 0) s) : AW pg G 51 (.loop a1s) Q st := by
  refine a0u (Nat × List Int × Rs) (fun p st => p.1 ≤ n ∧ p.2.1.length + p.1 = n ∧ p.2.2.at_ ≤ b.length ∧ a2g (a0n b) p.1 p.2.1 p.2.2 = a2g (a0n b) n [] s0 ∧ st.ep 0 = 0 ∧ st.s 0 = b0a bk b p.2.2 ∧ st.s 2 = .var [.own 1 0 [], lb false] ∧ st.s 5 = .var [owI p.2.1, lb w] ∧ st.s 6 = li p.1) (fun p => p.1) (n, [], s0) ⟨by simp, by simp, ha, rfl, h0, by simp (disch := omega) [go_sem, h]⟩ ?_
  clear h h0
  rintro ⟨n, l, a, e⟩ st K ⟨hi, hlen, h1, hm, h0, h⟩ hK
  simp only at hi hlen h1 hm h
  cases n with
  | zero =>
    rw [a2g] at hm
    simp (disch := omega) [go_sem, a1s, h]
    exact hex _ (by simp (disch := omega) [go_sem, h0]) (by rw [← hm]; simp (disch := omega) [go_sem, h])
  | succ n =>
    rw [a2g] at hm
    have hpos : (0 : Int) < ((n + 1 : Nat) : Int) := by omega
    cases he : e.isNil with
    | true =>
      simp only [he, if_true] at hm
      simp (disch := omega) [go_sem, a1s, h, h0, he, hpos]
      refine a7w [(0, st.ep 0)] (by simp) (by simp (disch := omega) [go_sem, h, h0]) ?_
      simp (disch := omega) [go_sem, h, h0]
      refine e2k (fs := []) (cs := []) (L := [(0, 0)]) [0, 45] (d2r hS hB hl ⟨a, e⟩ h1) rfl (by simp (disch := omega) [go_sem, h, h0]) ?_
      simp (disch := omega) [go_sem, h, h0]
      refine a1q (by decide) fun s2 hs hep => ?_
      simp (disch := omega) [go_sem, hs, hep, h, h0]
      exact hK (n, l ++ [(a0n b ⟨a, e⟩).1], (a0n b ⟨a, e⟩).2) _ ⟨by simp only; omega, by simp only [List.length_append, List.length_cons, List.length_nil]; omega, a6d _ h1, hm, by simp (disch := omega) [go_sem, hs, hep, h0], by simp (disch := omega) [go_sem, hs, hep, h, h0]⟩ (by simp only; omega)
    | false =>
      simp only [he, Bool.false_eq_true, if_false] at hm
      simp (disch := omega) [go_sem, a1s, h, h0, he, hpos]
      exact hex _ (by simp (disch := omega) [go_sem, h0]) (by rw [← hm]; simp (disch := omega) [go_sem, h])
theorem e9l (hS : Sent5 G bk) (hB : a1l b) (hl : b.length < 2 ^ 40) (s : Rs) (ha : s.at_ ≤ b.length) : ACallsX pg G b9y [b0a bk b s] (.agg (eD (a8f b s).1)) [(0, b0a bk b (a8f b s).2)] := by
  refine b17 (pins := [0]) (by kernel_rfl) rfl rfl (by simp [go_sem]) rfl ?_
  have h5 := hS.val 3 (by decide)
  have r1 := a96 hB s
  have a1 := a4i s ha
  have a2 := d5o s ha
  have hc := d6d (G := G) hS hB hl s ha
  simp (disch := omega) [go_sem, a7t]
  refine a0z hc rfl rfl rfl (by simp (disch := omega) [go_sem]) ?_
  unfold a8f b6n at *
  generalize a1x b s = p at *
  obtain ⟨x, s1⟩ := p
  simp only at r1 a1 a2 ⊢
  have hlow : 0 ≤ d8q x ∧ d8q x < 256 := by unfold d8q; split <;> omega
  obtain ⟨n, hn⟩ := Int.eq_ofNat_of_zero_le hlow.1
  have hlow' : (if x / 8 % 2 = 1 then x - 8 else x) = n := by rw [← hn]; rfl
  have hw : (!decide ((if x / 8 % 2 = 1 then (8 : Int) else 0) = 0)) = decide (x / 8 % 2 = 1) := by by_cases k : x / 8 % 2 = 1 <;> simp [k]
  generalize hwide : decide (x / 8 % 2 = 1) = w at *
  rw [hn]
  simp only [Int.toNat_natCast]
  have hn256 : n < 256 := by omega
  by_cases hc : s1.err.isNil = true ∧ 16 ≤ x
  · obtain ⟨hc1, hc2⟩ := hc
    rw [if_pos ⟨hc1, hc2⟩] at a2 ⊢
    simp (disch := omega) [go_sem, hc1, hc2, h5]
    refine a0z (d48 (bk := bk) (b := b) s1 s.at_ (.s 5)) rfl rfl rfl (by simp (disch := omega) [go_sem]) ?_
    simp (disch := omega) [go_sem, hlow', hw, hwide]
    refine d9o hS hB hl (w := w) (n := n) hn256 a2 (by simp (disch := omega) [go_sem]) (by simp (disch := omega) [go_sem]) fun s h0 h => ?_
    simp (disch := omega) [go_sem, h, h0, eD]
  · rw [if_neg hc] at a2 ⊢
    have hcc : (s1.err.isNil && decide (16 ≤ x)) = false := by
      cases h1 : s1.err.isNil
      · rfl
      · simp only [Bool.true_and, decide_eq_false_iff_not]; exact fun h2 => hc ⟨h1, h2⟩
    cases h1 : s1.err.isNil with
    | true =>
      rw [h1] at hcc
      have h2 : ¬ 16 ≤ x := by simpa using hcc
      simp (disch := omega) [go_sem, h1, h2, hlow', hw, hwide]
      refine d9o hS hB hl (w := w) (n := n) hn256 a2 (by simp (disch := omega) [go_sem]) (by simp (disch := omega) [go_sem]) fun s h0 h => ?_
      simp (disch := omega) [go_sem, h, h0, eD]
    | false =>
      simp (disch := omega) [go_sem, h1, hlow', hw, hwide]
      refine d9o hS hB hl (w := w) (n := n) hn256 a2 (by simp (disch := omega) [go_sem]) (by simp (disch := omega) [go_sem]) fun s h0 h => ?_
      simp (disch := omega) [go_sem, h, h0, eD]
end
end Tryz
end Go.Ideal
end
section
set_option linter.unusedVariables false
set_option linter.unusedSimpArgs false
set_option maxRecDepth 10000
namespace Go.Ideal.Tryz
def a3z (b : List Int) (s : Rs) : In × Rs :=
  let s1 := (a1x b s).2
  let s2 := (a06 b s1).2
  let s3 := (c5e b (a06 b) s2).2
  let s4 := (c5e b (a06 b) s3).2
  let s5 := (a06 b s4).2
  (⟨(a1x b s).1, (a06 b s1).1, (c5e b (a06 b) s2).1, (c5e b (a06 b) s3).1, (a06 b s4).1, (a06 b s5).1⟩, (a06 b s5).2)
def b3w (b : List Int) (s : Rs) : Vw × Rs :=
  let d := a8f b (a06 b s).2
  (⟨(a06 b s).1, d.1.shape, d.1.wide⟩, d.2)
def a5i (b : List Int) (i : Nat) (s : Rs) : Tn × Rs := (⟨(a28 b i s).1.1, (a28 b i s).1.2.1, (a28 b i s).1.2.2⟩, (a28 b i s).2)
section
variable {α : Type}
def a43 (rd : Nat → Rs → α × Rs) : Nat → Nat → List α → Rs → List α × Rs
  | 0, _, l, s => (l, s)
  | n + 1, i, l, s => if s.err.isNil = true then a43 rd n (i + 1) (l ++ [(rd i s).1]) (rd i s).2 else (l, s)
theorem c09 {rd : Nat → Rs → α × Rs} : ∀ (n i : Nat) (l : List α) (s : Rs), (a43 rd n i l s).1.length ≤ l.length + n
  | 0, i, l, s => by simp [a43]
  | n + 1, i, l, s => by
    rw [a43]
    split
    · have := c09 (rd := rd) n (i + 1) (l ++ [(rd i s).1]) (rd i s).2
      simp only [List.length_append, List.length_cons, List.length_nil] at this
      omega
    · simp
end
theorem e4d {b : List Int} (s : Rs) (h : s.at_ ≤ b.length) : (a3z b s).2.at_ ≤ b.length :=
  a1f _ (a1f _ (c30 (fun s h => a1f s h) _ (c30 (fun s h => a1f s h) _ (a1f _ (a4i s h)))))
theorem e7u {b : List Int} (s : Rs) (h : s.at_ ≤ b.length) : (b3w b s).2.at_ ≤ b.length := e1u _ (a1f s h)
theorem e5h {b : List Int} (i : Nat) (s : Rs) (h : s.at_ ≤ b.length) : (a5i b i s).2.at_ ≤ b.length := e2n _ s h
section
variable {G : Nat → Option Value} {bk : Nat → Nat × Nat} {Q : Exit → St → Prop} {st : St} {b : List Int}
theorem e5b (hS : Sent5 G bk) (hB : a1l b) (hl : b.length < 2 ^ 40) (s : Rs) (ha : s.at_ ≤ b.length) : ACallsX pg G b8e [b0a bk b s] (.agg (eI (a3z b s).1)) [(0, b0a bk b (a3z b s).2)] := by
  refine b0r (pins := [0]) (by kernel_rfl) rfl rfl (by simp [go_sem]) rfl ?_
  have a1 := a4i s ha
  have a2 := a1f _ a1
  have a3 := c30 (b := b) (rd := a06 b) (fun s h => a1f s h) _ a2
  have a4 := c30 (b := b) (rd := a06 b) (fun s h => a1f s h) _ a3
  have a5 := a1f _ a4
  simp (disch := omega) [go_sem, a6h]
  refine a0z (d6d hS hB hl s ha) rfl rfl rfl (by simp (disch := omega) [go_sem]) ?_
  simp (disch := omega) [go_sem]
  refine a0z (a7v hS hB hl _ a1) rfl rfl rfl (by simp (disch := omega) [go_sem]) ?_
  simp (disch := omega) [go_sem]
  refine a0z (d66 hS hB hl (e32 hS hB hl) _ a2) rfl rfl rfl (by simp (disch := omega) [go_sem]) ?_
  simp (disch := omega) [go_sem]
  refine a0z (d66 hS hB hl (e32 hS hB hl) _ a3) rfl rfl rfl (by simp (disch := omega) [go_sem]) ?_
  simp (disch := omega) [go_sem]
  refine a0z (a7v hS hB hl _ a4) rfl rfl rfl (by simp (disch := omega) [go_sem]) ?_
  simp (disch := omega) [go_sem]
  refine a0z (a7v hS hB hl _ a5) rfl rfl rfl (by simp (disch := omega) [go_sem]) ?_
  simp (disch := omega) [go_sem, a3z, eI]
end
end Go.Ideal.Tryz
end
section
set_option linter.unusedVariables false
set_option linter.unusedSimpArgs false
set_option maxRecDepth 10000
namespace Go.Ideal.Tryz
theorem f1e (n : Vw) : fm eV [n] = [li n.off, slI n.shape, lb n.wide] := by simp [fm, eV]
theorem f05 (n : Tn) : fm eT [n] = [slI n.shape, lb n.wide, slI n.data] := by simp [fm, eT]
theorem e50 (n : Ds) : fm eD [n] = [slI n.shape, lb n.wide] := by simp [fm, eD]
theorem f02 (n : In) : fm eI [n] = [li n.op, li n.dst, slI n.ins, slI n.args, li n.frm, li n.to] := by simp [fm, eI]
section
variable {G : Nat → Option Value} {bk : Nat → Nat × Nat} {Q : Exit → St → Prop} {st : St} {b : List Int}
theorem e7o (hS : Sent5 G bk) (hB : a1l b) (hl : b.length < 2 ^ 40) {n : Nat} (hn : n ≤ 2048) {s0 : Rs} {sz : Int} (ha : s0.at_ ≤ b.length) (h : st.s 2 = .var [li 0, .own 3 0 [], .own 3 0 [], .own 2 0 [], .own 6 0 [], li 0, li 0] ∧ st.s 3 = .lit .nilIface ∧ st.s 4 = b0a bk b s0 ∧ st.s 5 = .var [li sz, .own 3 (([] : List Vw)).length (fm eV ([] : List Vw)), .own 3 (([] : List Tn)).length (fm eT ([] : List Tn)), .own 2 (([] : List Ds)).length (fm eD ([] : List Ds)), .own 6 (([] : List In)).length (fm eI ([] : List In)), li 0, li 0] ∧ st.s 6 = li n)
    (hex : ∀ s, (a43 (fun i s => b3w b s) n 0 [] s0).2.at_ ≤ b.length → s.s 2 = .var [li 0, .own 3 0 [], .own 3 0 [], .own 2 0 [], .own 6 0 [], li 0, li 0] ∧ s.s 3 = .lit .nilIface ∧ s.s 4 = b0a bk b (a43 (fun i s => b3w b s) n 0 [] s0).2 ∧ s.s 5 = .var [li sz, .own 3 ((a43 (fun i s => b3w b s) n 0 [] s0).1).length (fm eV (a43 (fun i s => b3w b s) n 0 [] s0).1), .own 3 (([] : List Tn)).length (fm eT ([] : List Tn)), .own 2 (([] : List Ds)).length (fm eD ([] : List Ds)), .own 6 (([] : List In)).length (fm eI ([] : List In)), li 0, li 0] → Q (.exit 0) s) : AW pg G 128 (.loop a5j) Q st := by
  refine a0u (Nat × Nat × List Vw × Rs) (fun p st => p.1 + p.2.1 = n ∧ p.2.2.1.length = p.2.1 ∧ p.2.2.2.at_ ≤ b.length ∧ a43 (fun i s => b3w b s) p.1 p.2.1 p.2.2.1 p.2.2.2 = a43 (fun i s => b3w b s) n 0 [] s0 ∧ st.s 2 = .var [li 0, .own 3 0 [], .own 3 0 [], .own 2 0 [], .own 6 0 [], li 0, li 0] ∧ st.s 3 = .lit .nilIface ∧ st.s 4 = b0a bk b p.2.2.2 ∧ st.s 5 = .var [li sz, .own 3 (p.2.2.1).length (fm eV p.2.2.1), .own 3 (([] : List Tn)).length (fm eT ([] : List Tn)), .own 2 (([] : List Ds)).length (fm eD ([] : List Ds)), .own 6 (([] : List In)).length (fm eI ([] : List In)), li 0, li 0] ∧ st.s 6 = li p.1) (fun p => p.1) (n, 0, [], s0) ⟨by simp, rfl, ha, rfl, by simp (disch := omega) [go_sem, h]⟩ ?_
  clear h
  rintro ⟨k, i, l, s⟩ st K ⟨hi, hlen, ha, hm, h⟩ hK
  simp only at hi hlen ha hm h
  cases k with
  | zero =>
    rw [a43] at hm
    simp (disch := omega) [go_sem, a5j, h]
    exact hex _ (by rw [← hm]; exact ha) (by rw [← hm]; simp (disch := omega) [go_sem, h])
  | succ k =>
    rw [a43] at hm
    have hpos : (0 : Int) < ((k + 1 : Nat) : Int) := by omega
    cases he : s.err.isNil with
    | false =>
      rw [he] at hm
      simp only [Bool.false_eq_true, if_false] at hm
      simp (disch := omega) [go_sem, a5j, h, hpos, he]
      exact hex _ (by rw [← hm]; exact ha) (by rw [← hm]; simp (disch := omega) [go_sem, h])
    | true =>
      rw [he] at hm
      simp only [if_true] at hm
      have a1 := a1f (b := b) s ha
      have a2 := e7u (b := b) s ha
      simp (disch := omega) [go_sem, a5j, h, hpos, he]
      refine a0z (a7v hS hB hl s ha) rfl rfl rfl (by simp (disch := omega) [go_sem, h]) ?_
      simp (disch := omega) [go_sem, h]
      refine a7w [(4, st.ep 4)] (by simp) (by simp (disch := omega) [go_sem, h]) ?_
      simp (disch := omega) [go_sem, h]
      refine e2k (fs := []) (cs := []) (L := [(4, 0)]) [4, 41] (e9l hS hB hl _ a1) rfl (by simp (disch := omega) [go_sem, h]) ?_
      simp (disch := omega) [go_sem, h, eD]
      refine a1q (by decide) fun s2 hs hep => ?_
      simp (disch := omega) [go_sem, hs, hep, h]
      refine hK (k, i + 1, l ++ [(b3w b s).1], (b3w b s).2) _ ⟨by simp only; omega, by simp only [List.length_append, List.length_cons, List.length_nil]; omega, a2, hm, by simp (disch := omega) [go_sem, hs, hep, h, c9h, f1e, b3w]⟩ (by simp only; omega)
theorem e8l (hS : Sent5 G bk) (hB : a1l b) (hl : b.length < 2 ^ 40) {n : Nat} (hn : n ≤ 2048) {s0 : Rs} {sz : Int} {vs : List Vw} (hvs : vs.length < 2 ^ 20) (ha : s0.at_ ≤ b.length) (h : st.s 2 = .var [li 0, .own 3 0 [], .own 3 0 [], .own 2 0 [], .own 6 0 [], li 0, li 0] ∧ st.s 3 = .lit .nilIface ∧ st.s 4 = b0a bk b s0 ∧ st.s 5 = .var [li sz, .own 3 (vs).length (fm eV vs), .own 3 (([] : List Tn)).length (fm eT ([] : List Tn)), .own 2 (([] : List Ds)).length (fm eD ([] : List Ds)), .own 6 (([] : List In)).length (fm eI ([] : List In)), li 0, li 0] ∧ st.s 8 = li (0 : Nat) ∧ st.s 9 = li n)
    (hex : ∀ s, (a43 (fun i s => a5i b i s) n 0 [] s0).2.at_ ≤ b.length → s.s 2 = .var [li 0, .own 3 0 [], .own 3 0 [], .own 2 0 [], .own 6 0 [], li 0, li 0] ∧ s.s 3 = .lit .nilIface ∧ s.s 4 = b0a bk b (a43 (fun i s => a5i b i s) n 0 [] s0).2 ∧ s.s 5 = .var [li sz, .own 3 (vs).length (fm eV vs), .own 3 (((a43 (fun i s => a5i b i s) n 0 [] s0).1)).length (fm eT ((a43 (fun i s => a5i b i s) n 0 [] s0).1)), .own 2 (([] : List Ds)).length (fm eD ([] : List Ds)), .own 6 (([] : List In)).length (fm eI ([] : List In)), li 0, li 0] → Q (.exit 2) s) : AW pg G 128 (.loop a5e) Q st := by
  refine a0u (Nat × Nat × List Tn × Rs) (fun p st => p.1 + p.2.1 = n ∧ p.2.2.1.length = p.2.1 ∧ p.2.2.2.at_ ≤ b.length ∧ a43 (fun i s => a5i b i s) p.1 p.2.1 p.2.2.1 p.2.2.2 = a43 (fun i s => a5i b i s) n 0 [] s0 ∧ st.s 2 = .var [li 0, .own 3 0 [], .own 3 0 [], .own 2 0 [], .own 6 0 [], li 0, li 0] ∧ st.s 3 = .lit .nilIface ∧ st.s 4 = b0a bk b p.2.2.2 ∧ st.s 5 = .var [li sz, .own 3 (vs).length (fm eV vs), .own 3 ((p.2.2.1)).length (fm eT (p.2.2.1)), .own 2 (([] : List Ds)).length (fm eD ([] : List Ds)), .own 6 (([] : List In)).length (fm eI ([] : List In)), li 0, li 0] ∧ st.s 8 = li p.2.1 ∧ st.s 9 = li n) (fun p => p.1) (n, 0, [], s0) ⟨by simp, rfl, ha, rfl, by simp (disch := omega) [go_sem, h]⟩ ?_
  clear h
  rintro ⟨k, i, l, s⟩ st K ⟨hi, hlen, ha, hm, h⟩ hK
  simp only at hi hlen ha hm h
  cases k with
  | zero =>
    rw [a43] at hm
    have hlt : ¬ (i : Int) < n := by omega
    simp (disch := omega) [go_sem, a5e, h, hlt]
    exact hex _ (by rw [← hm]; exact ha) (by rw [← hm]; simp (disch := omega) [go_sem, h])
  | succ k =>
    rw [a43] at hm
    have hpos : (i : Int) < n := by omega
    cases he : s.err.isNil with
    | false =>
      rw [he] at hm
      simp only [Bool.false_eq_true, if_false] at hm
      simp (disch := omega) [go_sem, a5e, h, hpos, he]
      exact hex _ (by rw [← hm]; exact ha) (by rw [← hm]; simp (disch := omega) [go_sem, h])
    | true =>
      rw [he] at hm
      simp only [if_true] at hm
      have a2 := e5h (b := b) i s ha
      simp (disch := omega) [go_sem, a5e, h, hpos, he]
      refine a7w [(4, st.ep 4)] (by simp) (by simp (disch := omega) [go_sem, h]) ?_
      simp (disch := omega) [go_sem, h]
      refine e2k (fs := []) (cs := []) (L := [(4, 0)]) [4, 65, 66] (e6n hS hB hl i s ha) rfl (by simp (disch := omega) [go_sem, h]) ?_
      simp (disch := omega) [go_sem, h]
      refine a1q (by decide) fun s2 hs hep => ?_
      simp (disch := omega) [go_sem, hs, hep, h]
      refine hK (k, i + 1, l ++ [(a5i b i s).1], (a5i b i s).2) _ ⟨by simp only; omega, by simp only [List.length_append, List.length_cons, List.length_nil]; omega, a2, hm, by simp (disch := omega) [go_sem, hs, hep, h, c9h, f05, a5i]⟩ (by simp only; omega)
theorem e65 (hS : Sent5 G bk) (hB : a1l b) (hl : b.length < 2 ^ 40) {n : Nat} (hn : n ≤ 2048) {s0 : Rs} {sz : Int} {vs : List Vw} {cs : List Tn} (hvs : vs.length < 2 ^ 20) (hcs : cs.length < 2 ^ 20) (ha : s0.at_ ≤ b.length) (h : st.s 2 = .var [li 0, .own 3 0 [], .own 3 0 [], .own 2 0 [], .own 6 0 [], li 0, li 0] ∧ st.s 3 = .lit .nilIface ∧ st.s 4 = b0a bk b s0 ∧ st.s 5 = .var [li sz, .own 3 (vs).length (fm eV vs), .own 3 (cs).length (fm eT cs), .own 2 (([] : List Ds)).length (fm eD ([] : List Ds)), .own 6 (([] : List In)).length (fm eI ([] : List In)), li 0, li 0] ∧ st.s 10 = li n)
    (hex : ∀ s, (a43 (fun i s => a8f b s) n 0 [] s0).2.at_ ≤ b.length → s.s 2 = .var [li 0, .own 3 0 [], .own 3 0 [], .own 2 0 [], .own 6 0 [], li 0, li 0] ∧ s.s 3 = .lit .nilIface ∧ s.s 4 = b0a bk b (a43 (fun i s => a8f b s) n 0 [] s0).2 ∧ s.s 5 = .var [li sz, .own 3 (vs).length (fm eV vs), .own 3 (cs).length (fm eT cs), .own 2 (((a43 (fun i s => a8f b s) n 0 [] s0).1)).length (fm eD ((a43 (fun i s => a8f b s) n 0 [] s0).1)), .own 6 (([] : List In)).length (fm eI ([] : List In)), li 0, li 0] → Q (.exit 4) s) : AW pg G 128 (.loop a5d) Q st := by
  refine a0u (Nat × Nat × List Ds × Rs) (fun p st => p.1 + p.2.1 = n ∧ p.2.2.1.length = p.2.1 ∧ p.2.2.2.at_ ≤ b.length ∧ a43 (fun i s => a8f b s) p.1 p.2.1 p.2.2.1 p.2.2.2 = a43 (fun i s => a8f b s) n 0 [] s0 ∧ st.s 2 = .var [li 0, .own 3 0 [], .own 3 0 [], .own 2 0 [], .own 6 0 [], li 0, li 0] ∧ st.s 3 = .lit .nilIface ∧ st.s 4 = b0a bk b p.2.2.2 ∧ st.s 5 = .var [li sz, .own 3 (vs).length (fm eV vs), .own 3 (cs).length (fm eT cs), .own 2 ((p.2.2.1)).length (fm eD (p.2.2.1)), .own 6 (([] : List In)).length (fm eI ([] : List In)), li 0, li 0] ∧ st.s 10 = li p.1) (fun p => p.1) (n, 0, [], s0) ⟨by simp, rfl, ha, rfl, by simp (disch := omega) [go_sem, h]⟩ ?_
  clear h
  rintro ⟨k, i, l, s⟩ st K ⟨hi, hlen, ha, hm, h⟩ hK
  simp only at hi hlen ha hm h
  cases k with
  | zero =>
    rw [a43] at hm
    have hlt : True := trivial
    simp (disch := omega) [go_sem, a5d, h, hlt]
    exact hex _ (by rw [← hm]; exact ha) (by rw [← hm]; simp (disch := omega) [go_sem, h])
  | succ k =>
    rw [a43] at hm
    have hpos : (0 : Int) < ((k + 1 : Nat) : Int) := by omega
    cases he : s.err.isNil with
    | false =>
      rw [he] at hm
      simp only [Bool.false_eq_true, if_false] at hm
      simp (disch := omega) [go_sem, a5d, h, hpos, he]
      exact hex _ (by rw [← hm]; exact ha) (by rw [← hm]; simp (disch := omega) [go_sem, h])
    | true =>
      rw [he] at hm
      simp only [if_true] at hm
      have a2 := e1u (b := b) s ha
      simp (disch := omega) [go_sem, a5d, h, hpos, he]
      refine a7w [(4, st.ep 4)] (by simp) (by simp (disch := omega) [go_sem, h]) ?_
      simp (disch := omega) [go_sem, h]
      refine e2k (fs := []) (cs := []) (L := [(4, 0)]) [4, 88] (e9l hS hB hl s ha) rfl (by simp (disch := omega) [go_sem, h]) ?_
      simp (disch := omega) [go_sem, h, eD]
      refine a1q (by decide) fun s2 hs hep => ?_
      simp (disch := omega) [go_sem, hs, hep, h]
      refine hK (k, i + 1, l ++ [(a8f b s).1], (a8f b s).2) _ ⟨by simp only; omega, by simp only [List.length_append, List.length_cons, List.length_nil]; omega, a2, hm, by simp (disch := omega) [go_sem, hs, hep, h, c9h, e50]⟩ (by simp only; omega)
theorem e8q (hS : Sent5 G bk) (hB : a1l b) (hl : b.length < 2 ^ 40) {n : Nat} (hn : n ≤ 2048) {s0 : Rs} {sz : Int} {vs : List Vw} {cs : List Tn} {ws : List Ds} (hvs : vs.length < 2 ^ 20) (hcs : cs.length < 2 ^ 20) (hws : ws.length < 2 ^ 20) (ha : s0.at_ ≤ b.length) (h : st.s 2 = .var [li 0, .own 3 0 [], .own 3 0 [], .own 2 0 [], .own 6 0 [], li 0, li 0] ∧ st.s 3 = .lit .nilIface ∧ st.s 4 = b0a bk b s0 ∧ st.s 5 = .var [li sz, .own 3 (vs).length (fm eV vs), .own 3 (cs).length (fm eT cs), .own 2 (ws).length (fm eD ws), .own 6 (([] : List In)).length (fm eI ([] : List In)), li 0, li 0] ∧ st.s 11 = li n)
    (hex : ∀ s, (a43 (fun i s => a3z b s) n 0 [] s0).2.at_ ≤ b.length → s.s 2 = .var [li 0, .own 3 0 [], .own 3 0 [], .own 2 0 [], .own 6 0 [], li 0, li 0] ∧ s.s 3 = .lit .nilIface ∧ s.s 4 = b0a bk b (a43 (fun i s => a3z b s) n 0 [] s0).2 ∧ s.s 5 = .var [li sz, .own 3 (vs).length (fm eV vs), .own 3 (cs).length (fm eT cs), .own 2 (ws).length (fm eD ws), .own 6 (((a43 (fun i s => a3z b s) n 0 [] s0).1)).length (fm eI ((a43 (fun i s => a3z b s) n 0 [] s0).1)), li 0, li 0] → Q (.exit 6) s) : AW pg G 128 (.loop a5c) Q st := by
  refine a0u (Nat × Nat × List In × Rs) (fun p st => p.1 + p.2.1 = n ∧ p.2.2.1.length = p.2.1 ∧ p.2.2.2.at_ ≤ b.length ∧ a43 (fun i s => a3z b s) p.1 p.2.1 p.2.2.1 p.2.2.2 = a43 (fun i s => a3z b s) n 0 [] s0 ∧ st.s 2 = .var [li 0, .own 3 0 [], .own 3 0 [], .own 2 0 [], .own 6 0 [], li 0, li 0] ∧ st.s 3 = .lit .nilIface ∧ st.s 4 = b0a bk b p.2.2.2 ∧ st.s 5 = .var [li sz, .own 3 (vs).length (fm eV vs), .own 3 (cs).length (fm eT cs), .own 2 (ws).length (fm eD ws), .own 6 ((p.2.2.1)).length (fm eI (p.2.2.1)), li 0, li 0] ∧ st.s 11 = li p.1) (fun p => p.1) (n, 0, [], s0) ⟨by simp, rfl, ha, rfl, by simp (disch := omega) [go_sem, h]⟩ ?_
  clear h
  rintro ⟨k, i, l, s⟩ st K ⟨hi, hlen, ha, hm, h⟩ hK
  simp only at hi hlen ha hm h
  cases k with
  | zero =>
    rw [a43] at hm
    have hlt : True := trivial
    simp (disch := omega) [go_sem, a5c, h, hlt]
    exact hex _ (by rw [← hm]; exact ha) (by rw [← hm]; simp (disch := omega) [go_sem, h])
  | succ k =>
    rw [a43] at hm
    have hpos : (0 : Int) < ((k + 1 : Nat) : Int) := by omega
    cases he : s.err.isNil with
    | false =>
      rw [he] at hm
      simp only [Bool.false_eq_true, if_false] at hm
      simp (disch := omega) [go_sem, a5c, h, hpos, he]
      exact hex _ (by rw [← hm]; exact ha) (by rw [← hm]; simp (disch := omega) [go_sem, h])
    | true =>
      rw [he] at hm
      simp only [if_true] at hm
      have a2 := e4d (b := b) s ha
      simp (disch := omega) [go_sem, a5c, h, hpos, he]
      refine a7w [(4, st.ep 4)] (by simp) (by simp (disch := omega) [go_sem, h]) ?_
      simp (disch := omega) [go_sem, h]
      refine e2k (fs := []) (cs := []) (L := [(4, 0)]) [4, 110] (e5b hS hB hl s ha) rfl (by simp (disch := omega) [go_sem, h]) ?_
      simp (disch := omega) [go_sem, h, eI]
      refine a1q (by decide) fun s2 hs hep => ?_
      simp (disch := omega) [go_sem, hs, hep, h]
      refine hK (k, i + 1, l ++ [(a3z b s).1], (a3z b s).2) _ ⟨by simp only; omega, by simp only [List.length_append, List.length_cons, List.length_nil]; omega, a2, hm, by simp (disch := omega) [go_sem, hs, hep, h, c9h, f02]⟩ (by simp only; omega)
end
end Go.Ideal.Tryz
end
section
set_option linter.unusedVariables false
set_option linter.unusedSimpArgs false
set_option maxRecDepth 10000
namespace Go.Ideal.Tryz
def rP5 (b : List Int) (sz : Int) (vs : List Vw) (cs : List Tn) (ws : List Ds) (is : List In) (s : Rs) : Pl × Rs := (⟨sz, vs, cs, ws, is, (a06 b s).1, (a06 b (a06 b s).2).1⟩, (a06 b (a06 b s).2).2)
def rP4 (b : List Int) (sz : Int) (vs : List Vw) (cs : List Tn) (ws : List Ds) (s : Rs) : Pl × Rs :=
  rP5 b sz vs cs ws (a43 (fun i s => a3z b s) (a5v 2048 (a0n b) s).1.toNat 0 [] (a5v 2048 (a0n b) s).2).1 (a43 (fun i s => a3z b s) (a5v 2048 (a0n b) s).1.toNat 0 [] (a5v 2048 (a0n b) s).2).2
def rP3 (b : List Int) (sz : Int) (vs : List Vw) (cs : List Tn) (s : Rs) : Pl × Rs :=
  rP4 b sz vs cs (a43 (fun i s => a8f b s) (a5v 8 (a0n b) s).1.toNat 0 [] (a5v 8 (a0n b) s).2).1 (a43 (fun i s => a8f b s) (a5v 8 (a0n b) s).1.toNat 0 [] (a5v 8 (a0n b) s).2).2
def rP2 (b : List Int) (sz : Int) (vs : List Vw) (s : Rs) : Pl × Rs :=
  rP3 b sz vs (a43 (fun i s => a5i b i s) (a5v 64 (a0n b) s).1.toNat 0 [] (a5v 64 (a0n b) s).2).1 (a43 (fun i s => a5i b i s) (a5v 64 (a0n b) s).1.toNat 0 [] (a5v 64 (a0n b) s).2).2
def rP1 (b : List Int) (sz : Int) (s : Rs) : Pl × Rs :=
  rP2 b sz (a43 (fun i s => b3w b s) (a5v 128 (a0n b) s).1.toNat 0 [] (a5v 128 (a0n b) s).2).1 (a43 (fun i s => b3w b s) (a5v 128 (a0n b) s).1.toNat 0 [] (a5v 128 (a0n b) s).2).2
def c5m (b : List Int) (s : Rs) : Pl × Rs := rP1 b (a06 b s).1 (a06 b s).2
def c5x (b : List Int) : Pl × Er := if (d35 b (c5m b (a5a b 76 80 ⟨0, .nil⟩)).2).err.isNil = true then ((c5m b (a5a b 76 80 ⟨0, .nil⟩)).1, .nil) else (⟨0, [], [], [], [], 0, 0⟩, (d35 b (c5m b (a5a b 76 80 ⟨0, .nil⟩)).2).err)
section
variable {G : Nat → Option Value} {bk : Nat → Nat × Nat} {Q : Exit → St → Prop} {st : St} {b : List Int}
theorem b9k (hB : a1l b) (most : Int) (hm : 0 ≤ most) (s : Rs) (ha : s.at_ ≤ b.length) : ∃ n : Nat, (a5v most (a0n b) s).1 = n ∧ (n : Int) ≤ most ∧ (a5v most (a0n b) s).2.at_ ≤ b.length := by
  have h := e00 (most := most) (rd := a0n b) (fun s => (c1y hB s).1) hm s
  obtain ⟨n, hn⟩ := Int.eq_ofNat_of_zero_le h.1
  exact ⟨n, hn, by omega, e0g (fun s h => a6d s h) s ha⟩
theorem d9z (hS : Sent5 G bk) (hB : a1l b) (hl : b.length < 2 ^ 40) : ACalls pg G d8r [slU b] (.tup [.agg (eP (c5x b).1), a1j bk (c5x b).2]) := by
  refine c75 rfl ?_
  have h0 := e8b (b := b) (p := 76) (q := 80) (s := ⟨0, .nil⟩) (by simp)
  have c1 := g3d (bk := bk) hS hB hl 76 80 ⟨0, .nil⟩
  unfold c5x c5m
  generalize a5a b 76 80 ⟨0, .nil⟩ = s0 at *
  have c2 := a7v (G := G) (bk := bk) hS hB hl s0 h0
  have a2 := a1f (b := b) s0 h0
  generalize a06 b s0 = p1 at *
  obtain ⟨sz, s1⟩ := p1
  simp only at c2 a2 ⊢
  simp (disch := omega) [go_sem, c37]
  refine a0z c1 rfl rfl rfl (by simp (disch := omega) [go_sem]) ?_
  simp (disch := omega) [go_sem]
  refine a0z c2 rfl rfl rfl (by simp (disch := omega) [go_sem]) ?_
  simp (disch := omega) [go_sem]
  unfold rP1
  obtain ⟨n1, e1, m1, q1⟩ := b9k hB 128 (by omega) s1 a2
  have w1 := e4f hS hl (d3a (G := G) (bk := bk) hS hB hl) 128 s1 a2
  generalize a5v 128 (a0n b) s1 = f1 at *
  obtain ⟨g1, t1⟩ := f1
  simp only at e1 m1 q1 w1 ⊢
  subst e1
  have v1 := c09 (rd := (fun i s => b3w b s)) n1 0 [] t1
  have at1 := fun (Q : Exit → St → Prop) (st : St) => e7o (Q := Q) (st := st) (G := G) (bk := bk) hS hB hl (n := n1) (s0 := t1) (sz := sz) (by omega) q1
  simp only [Int.toNat_natCast] at v1 at1 ⊢
  generalize a43 (fun i s => b3w b s) n1 0 [] t1 = r1 at *
  obtain ⟨vs, s2⟩ := r1
  simp only [List.length_nil] at v1 at1 ⊢
  refine a0z w1 rfl rfl rfl (by simp (disch := omega) [go_sem]) ?_
  simp (disch := omega) [go_sem]
  refine at1 _ _ (by simp (disch := omega) [go_sem, fm]) fun s a3 h => ?_
  simp (disch := omega) [go_sem, h]
  unfold rP2
  obtain ⟨n2, e2, m2, q2⟩ := b9k hB 64 (by omega) s2 a3
  have w2 := e4f hS hl (d3a (G := G) (bk := bk) hS hB hl) 64 s2 a3
  generalize a5v 64 (a0n b) s2 = f2 at *
  obtain ⟨g2, t2⟩ := f2
  simp only at e2 m2 q2 w2 ⊢
  subst e2
  have v2 := c09 (rd := (fun i s => a5i b i s)) n2 0 [] t2
  have at2 := fun (Q : Exit → St → Prop) (st : St) => e8l (Q := Q) (vs := vs) (st := st) (G := G) (bk := bk) hS hB hl (n := n2) (s0 := t2) (sz := sz) (by omega) (by omega) q2
  simp only [Int.toNat_natCast] at v2 at2 ⊢
  generalize a43 (fun i s => a5i b i s) n2 0 [] t2 = r2 at *
  obtain ⟨cs, s3⟩ := r2
  simp only [List.length_nil] at v2 at2 ⊢
  refine a0z w2 rfl rfl rfl (by simp (disch := omega) [go_sem, h]) ?_
  simp (disch := omega) [go_sem, h]
  refine at2 _ _ (by simp (disch := omega) [go_sem, h, fm]) fun s a4 h => ?_
  simp (disch := omega) [go_sem, h]
  unfold rP3
  obtain ⟨n3, e3, m3, q3⟩ := b9k hB 8 (by omega) s3 a4
  have w3 := e4f hS hl (d3a (G := G) (bk := bk) hS hB hl) 8 s3 a4
  generalize a5v 8 (a0n b) s3 = f3 at *
  obtain ⟨g3, t3⟩ := f3
  simp only at e3 m3 q3 w3 ⊢
  subst e3
  have v3 := c09 (rd := (fun i s => a8f b s)) n3 0 [] t3
  have at3 := fun (Q : Exit → St → Prop) (st : St) => e65 (Q := Q) (vs := vs) (cs := cs) (st := st) (G := G) (bk := bk) hS hB hl (n := n3) (s0 := t3) (sz := sz) (by omega) (by omega) (by omega) q3
  simp only [Int.toNat_natCast] at v3 at3 ⊢
  generalize a43 (fun i s => a8f b s) n3 0 [] t3 = r3 at *
  obtain ⟨ws, s4⟩ := r3
  simp only [List.length_nil] at v3 at3 ⊢
  refine a0z w3 rfl rfl rfl (by simp (disch := omega) [go_sem, h]) ?_
  simp (disch := omega) [go_sem, h]
  refine at3 _ _ (by simp (disch := omega) [go_sem, h, fm]) fun s a5 h => ?_
  simp (disch := omega) [go_sem, h]
  unfold rP4
  obtain ⟨n4, e4, m4, q4⟩ := b9k hB 2048 (by omega) s4 a5
  have w4 := e4f hS hl (d3a (G := G) (bk := bk) hS hB hl) 2048 s4 a5
  generalize a5v 2048 (a0n b) s4 = f4 at *
  obtain ⟨g4, t4⟩ := f4
  simp only at e4 m4 q4 w4 ⊢
  subst e4
  have v4 := c09 (rd := (fun i s => a3z b s)) n4 0 [] t4
  have at4 := fun (Q : Exit → St → Prop) (st : St) => e8q (Q := Q) (vs := vs) (cs := cs) (ws := ws) (st := st) (G := G) (bk := bk) hS hB hl (n := n4) (s0 := t4) (sz := sz) (by omega) (by omega) (by omega) (by omega) q4
  simp only [Int.toNat_natCast] at v4 at4 ⊢
  generalize a43 (fun i s => a3z b s) n4 0 [] t4 = r4 at *
  obtain ⟨is, s5⟩ := r4
  simp only [List.length_nil] at v4 at4 ⊢
  refine a0z w4 rfl rfl rfl (by simp (disch := omega) [go_sem, h]) ?_
  simp (disch := omega) [go_sem, h]
  refine at4 _ _ (by simp (disch := omega) [go_sem, h, fm]) fun s a6 h => ?_
  simp (disch := omega) [go_sem, h]
  have a7 := a1f (b := b) s5 a6
  refine a0z (a7v hS hB hl s5 a6) rfl rfl rfl (by simp (disch := omega) [go_sem, h]) ?_
  simp (disch := omega) [go_sem, h]
  refine a0z (a7v hS hB hl _ a7) rfl rfl rfl (by simp (disch := omega) [go_sem, h]) ?_
  simp (disch := omega) [go_sem, h]
  refine a0z (g81 hS hl _ (a1f (b := b) _ a7)) (c1p _) rfl rfl (by simp (disch := omega) [go_sem, h]) ?_
  unfold rP5
  cases he : (d35 b (a06 b (a06 b s5).2).2).err.isNil with
  | true =>
    simp (disch := omega) [go_sem, h, he, a1j, eP]
  | false =>
    simp (disch := omega) [go_sem, h, he, eP, fm]
end
end Go.Ideal.Tryz
end
section
set_option linter.unusedVariables false
set_option linter.unusedSimpArgs false
namespace Go.Ideal.Tryz
instance : Inhabited Ds := ⟨⟨[], false⟩⟩
instance : Inhabited Tn := ⟨⟨[], false, []⟩⟩
instance : Inhabited Vw := ⟨⟨0, [], false⟩⟩
instance : Inhabited In := ⟨⟨0, 0, [], [], 0, 0⟩⟩
theorem c2y : Fmt (fun b s => ((a1x b s).1, b6n b s)) (fun x => 0 ≤ x ∧ x ≤ 15) (fun x => [x]) where
  keep := fun b s h => by
    have := a35.keep b s h
    simp only
    unfold b6n
    rw [this, if_neg (by rw [h]; simp)]
  comp := fun b a v r h1 h2 => by
    have := a35.comp b a v r ⟨h1.1, by omega⟩ h2
    unfold b6n
    rw [this, if_neg (by simp only; omega)]
  short := fun b a v r h1 h2 h3 h4 => by
    have := a35.short b a v r ⟨h1.1, by omega⟩ h2 h3 h4
    simp only
    unfold b6n
    rw [if_neg (by rw [a83 this]; simp)]
    exact this
  sound := fun b a h1 h2 h3 => by
    simp only at h3 ⊢
    unfold b6n at h3 ⊢
    by_cases hc : (a1x b ⟨a, .nil⟩).2.err.isNil = true ∧ 16 ≤ (a1x b ⟨a, .nil⟩).1
    · rw [if_pos hc] at h3
      exact absurd h3 (c33 hc.1 rfl)
    · rw [if_neg hc] at h3 ⊢
      obtain ⟨g1, g2, g3⟩ := a35.sound b a h1 h2 h3
      refine ⟨⟨g1.1, ?_⟩, g2, g3⟩
      have : ¬ 16 ≤ (a1x b ⟨a, .nil⟩).1 := fun hh => hc ⟨by rw [h3]; rfl, hh⟩
      omega
def e57 (d : Ds) : Prop := d.shape.length ≤ 7 ∧ ∀ x ∈ d.shape, 0 ≤ x ∧ x ≤ 65535
theorem c34 : Fmt a8f e57 (fun d => a3e d.shape d.wide) := by
  refine ((c2y.pair (rd2 := fun x b s => a2g (a0n b) (d8q x).toNat [] s) (ok2 := fun x l => l.length = (d8q x).toNat ∧ ∀ y ∈ l, 0 ≤ y ∧ y ≤ 65535) (enc2 := fun x l => l.flatMap le2) (fun x => (b4j (d8q x).toNat).keep) fun x _ => b4j (d8q x).toNat).map (fun p => (⟨p.2, decide (p.1 / 8 % 2 = 1)⟩ : Ds)) (fun d => ((if d.wide = true then (d.shape.length : Int) + 8 else d.shape.length), d.shape)) fun p h => ?_).of (fun b s h => ?_) (fun b a => rfl) (fun v => ?_) fun v h => ?_
  · obtain ⟨x, l⟩ := p
    have h1 : (0 ≤ x ∧ x ≤ 15) ∧ l.length = (d8q x).toNat ∧ ∀ y ∈ l, 0 ≤ y ∧ y ≤ 65535 := h
    simp only [decide_eq_true_eq]
    rw [Prod.mk.injEq]
    refine ⟨?_, rfl⟩
    have := h1.2.1
    unfold d8q at this
    split at this <;> rename_i hk <;> simp only [hk, if_true, if_false] <;> omega
  · unfold a8f
    have := c2y.keep b s h
    simp only at this ⊢
    rw [this]
    exact (b4j _).keep b s h
  · obtain ⟨sh, w⟩ := v
    simp only [e57]
    have e1 : ∀ n : Nat, n ≤ 7 → d8q (if w = true then (n : Int) + 8 else n) = n := fun n hn => by
      unfold d8q
      cases w <;> simp <;> omega
    constructor
    · rintro ⟨⟨⟨h1, h2⟩, h3, h4⟩, h5⟩
      refine ⟨?_, h4⟩
      generalize (if w = true then (sh.length : Int) + 8 else sh.length) = x at h1 h2 h3
      have : d8q x ≤ 7 := by unfold d8q; split <;> omega
      omega
    · rintro ⟨h1, h2⟩
      refine ⟨⟨?_, by rw [e1 _ h1]; simp, h2⟩, ?_⟩
      · cases w <;> simp <;> omega
      · cases w <;> simp <;> omega
  · obtain ⟨sh, w⟩ := v
    have h1 : sh.length ≤ 7 := h.1
    simp only [a3e, List.singleton_append, List.cons.injEq, and_true, c3q]
    cases w <;> simp <;> omega
theorem e6w : Fmt b3w (fun v => (-2147483648 ≤ v.off ∧ v.off ≤ 2147483647) ∧ e57 ⟨v.shape, v.wide⟩) (fun v => a45 true v.off ++ a3e v.shape v.wide) :=
  ((a9y.pair (rd2 := fun _ => a8f) (ok2 := fun _ => e57) (enc2 := fun _ d => a3e d.shape d.wide) (fun _ => c34.keep) fun _ _ => c34).map (fun p => (⟨p.1, p.2.shape, p.2.wide⟩ : Vw)) (fun v => (v.off, ⟨v.shape, v.wide⟩)) fun p h => rfl).of
    (fun b s h => by unfold b3w; simp only; rw [a9y.keep b s h]; exact c34.keep b s h) (fun b a => rfl) (fun v => by simp only [and_true]) fun v h => rfl
theorem e5r (i : Nat) : Fmt (fun b s => a5i b i s) (fun t => a5k t.shape t.wide t.data = .nil) (fun t => a3a t.shape t.wide t.data) :=
  ((c9e i).map (fun p => (⟨p.1, p.2.1, p.2.2⟩ : Tn)) (fun t => (t.shape, t.wide, t.data)) fun p h => rfl).of
    (fun b s h => by unfold a5i; exact (c9e i).keep b s h) (fun b a => rfl) (fun v => by simp only [and_true]) fun v h => rfl
def r32 (x : Int) : Prop := -2147483648 ≤ x ∧ x ≤ 2147483647
def e30 (i : In) : Prop := (0 ≤ i.op ∧ i.op ≤ 255) ∧ r32 i.dst ∧ (i.ins.length ≤ 8 ∧ ∀ x ∈ i.ins, r32 x) ∧ (i.args.length ≤ 8 ∧ ∀ x ∈ i.args, r32 x) ∧ r32 i.frm ∧ r32 i.to
def a03 (i : In) : List Int := [i.op] ++ (a45 true i.dst ++ ((u8 i.ins.length :: i.ins.flatMap (a45 true)) ++ ((u8 i.args.length :: i.args.flatMap (a45 true)) ++ (a45 true i.frm ++ a45 true i.to))))
theorem d6k : Fmt a3z e30 a03 := by
  have n := a9y
  have m := a9y.nums
  have f1 := n.pair (rd2 := fun _ => a06) (ok2 := fun _ x => r32 x) (enc2 := fun _ => a45 true) (fun _ => n.keep) fun _ _ => n
  have f2 := m.pair (rd2 := fun _ b s => _) (ok2 := fun _ => _) (enc2 := fun _ => _) (fun _ => f1.keep) fun _ _ => f1
  have f3 := m.pair (rd2 := fun _ b s => _) (ok2 := fun _ => _) (enc2 := fun _ => _) (fun _ => f2.keep) fun _ _ => f2
  have f4 := n.pair (rd2 := fun _ b s => _) (ok2 := fun _ => _) (enc2 := fun _ => _) (fun _ => f3.keep) fun _ _ => f3
  have f5 := a35.pair (rd2 := fun _ b s => _) (ok2 := fun _ => _) (enc2 := fun _ => _) (fun _ => f4.keep) fun _ _ => f4
  refine (f5.map (fun p => (⟨p.1, p.2.1, p.2.2.1, p.2.2.2.1, p.2.2.2.2.1, p.2.2.2.2.2⟩ : In)) (fun i => (i.op, i.dst, i.ins, i.args, i.frm, i.to)) fun p h => rfl).of (fun b s h => ?_) (fun b a => rfl) (fun v => ?_) fun v h => rfl
  · have k1 := a35.keep b s h
    have k2 := n.keep b s h
    have k3 := m.keep b s h
    unfold a3z
    simp only [k1, k2, k3]
  · simp only [and_true]
    exact Iff.rfl
theorem d0m {α : Type} {rd : Nat → List Int → Rs → α × Rs} {b : List Int} : ∀ (n i : Nat) (l : List α) (s : Rs), a43 (fun i s => rd i b s) n i l s = a79 rd b n i l s
  | 0, _, _, _ => rfl
  | n + 1, i, l, s => by rw [a43, a79, d0m n (i + 1)]
theorem Fmt.many {α : Type} [Inhabited α] {rd : Nat → List Int → Rs → α × Rs} {ok : α → Prop} {enc : α → List Int} (F : ∀ i, Fmt (rd i) ok enc) (most : Nat) (hm : most ≤ 65535) :
    Fmt (fun b s => a43 (fun i s => rd i b s) (a5v most (a0n b) s).1.toNat 0 [] (a5v most (a0n b) s).2) (fun l => l.length ≤ most ∧ ∀ x ∈ l, ok x) (fun l => le2 l.length ++ l.flatMap enc) := by
  have fc := a6m.few most
  refine ((fc.pair (rd2 := fun m b s => a79 rd b m.toNat 0 [] s) (ok2 := fun m l => l.length = m.toNat ∧ ∀ x ∈ l, ok x) (enc2 := fun _ l => l.flatMap enc) (fun m b s h => by rw [a4d h]) fun m _ => Fmt.loop F m.toNat 0).map (fun p => p.2) (fun l => ((l.length : Int), l)) fun p h => ?_).of (fun b s h => ?_) (fun b a => ?_) (fun v => ?_) fun v h => rfl
  · obtain ⟨m, l⟩ := p
    simp only at h ⊢
    rw [Prod.mk.injEq]
    exact ⟨by omega, rfl⟩
  · have := fc.keep b s h
    rw [this, d0m, a4d h]
  · rw [d0m]
  · simp only [Int.toNat_natCast, and_true, true_and]
    constructor
    · intro h; exact ⟨by omega, h.2⟩
    · intro h; exact ⟨by omega, h.2⟩
def e8p (p : Pl) : Prop := r32 p.size ∧ (p.views.length ≤ 128 ∧ ∀ v ∈ p.views, r32 v.off ∧ e57 ⟨v.shape, v.wide⟩) ∧ (p.consts.length ≤ 64 ∧ ∀ t ∈ p.consts, a5k t.shape t.wide t.data = .nil) ∧ (p.weights.length ≤ 8 ∧ ∀ d ∈ p.weights, e57 d) ∧ (p.code.length ≤ 2048 ∧ ∀ i ∈ p.code, e30 i) ∧ r32 p.input ∧ r32 p.output
def g4u (p : Pl) : List Int := a45 true p.size ++ ((le2 p.views.length ++ p.views.flatMap fun v => a45 true v.off ++ a3e v.shape v.wide) ++ ((le2 p.consts.length ++ p.consts.flatMap fun t => a3a t.shape t.wide t.data) ++ ((le2 p.weights.length ++ p.weights.flatMap fun d => a3e d.shape d.wide) ++ ((le2 p.code.length ++ p.code.flatMap a03) ++ (a45 true p.input ++ a45 true p.output)))))
theorem e8m : Fmt c5m e8p g4u := by
  have n := a9y
  have fv := Fmt.many (fun _ => e6w) 128 (by omega)
  have fc := Fmt.many e5r 64 (by omega)
  have fw := Fmt.many (fun _ => c34) 8 (by omega)
  have fi := Fmt.many (fun _ => d6k) 2048 (by omega)
  have f1 := n.pair (rd2 := fun _ => a06) (ok2 := fun _ x => r32 x) (enc2 := fun _ => a45 true) (fun _ => n.keep) fun _ _ => n
  have f2 := fi.pair (rd2 := fun _ b s => _) (ok2 := fun _ => _) (enc2 := fun _ => _) (fun _ => f1.keep) fun _ _ => f1
  have f3 := fw.pair (rd2 := fun _ b s => _) (ok2 := fun _ => _) (enc2 := fun _ => _) (fun _ => f2.keep) fun _ _ => f2
  have f4 := fc.pair (rd2 := fun _ b s => _) (ok2 := fun _ => _) (enc2 := fun _ => _) (fun _ => f3.keep) fun _ _ => f3
  have f5 := fv.pair (rd2 := fun _ b s => _) (ok2 := fun _ => _) (enc2 := fun _ => _) (fun _ => f4.keep) fun _ _ => f4
  have f6 := n.pair (rd2 := fun _ b s => _) (ok2 := fun _ => _) (enc2 := fun _ => _) (fun _ => f5.keep) fun _ _ => f5
  refine (f6.map (fun p => (⟨p.1, p.2.1, p.2.2.1, p.2.2.2.1, p.2.2.2.2.1, p.2.2.2.2.2.1, p.2.2.2.2.2.2⟩ : Pl)) (fun p => (p.size, p.views, p.consts, p.weights, p.code, p.input, p.output)) fun p h => rfl).of (fun b s h => ?_) (fun b a => rfl) (fun v => ?_) fun v h => rfl
  · have k1 := n.keep b s h
    have k2 : (a43 (fun i s => b3w b s) (a5v 128 (a0n b) s).1.toNat 0 [] (a5v 128 (a0n b) s).2).2 = s := fv.keep b s h
    have k3 : (a43 (fun i s => a5i b i s) (a5v 64 (a0n b) s).1.toNat 0 [] (a5v 64 (a0n b) s).2).2 = s := fc.keep b s h
    have k4 : (a43 (fun i s => a8f b s) (a5v 8 (a0n b) s).1.toNat 0 [] (a5v 8 (a0n b) s).2).2 = s := fw.keep b s h
    have k5 : (a43 (fun i s => a3z b s) (a5v 2048 (a0n b) s).1.toNat 0 [] (a5v 2048 (a0n b) s).2).2 = s := fi.keep b s h
    unfold c5m rP1 rP2 rP3 rP4 rP5
    simp only
    rw [k1, k2, k3, k4, k5, k1, k1]
  · simp only [and_true]
    exact Iff.rfl
theorem e4n : Whole c5m 76 80 g4u e8p := e8m.whole 76 80
end Go.Ideal.Tryz
end
