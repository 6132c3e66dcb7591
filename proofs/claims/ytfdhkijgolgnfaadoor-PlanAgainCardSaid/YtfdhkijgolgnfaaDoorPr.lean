/- Part Pr of the proof: a machine with trees for values, its soundness, and walks on it. -/
import Derived.Test.YtfdhkijgolgnfaaDoorPq
import Derived.Test.YtfdhkijgolgnfaaDoorPn
section
set_option linter.unusedVariables false
set_option linter.unusedSimpArgs false
set_option maxRecDepth 10000
namespace Go.Ideal
section
variable {x : Int}
theorem f8t : ∀ n : Nat, n < 256 → (BitVec.ofNat 64 n &&& 8#64).toNat = if n / 8 % 2 = 1 then 8 else 0 := by decide
@[go_sem] theorem f2s (h : 0 ≤ x ∧ x ≤ 255) : a1g .and 0 (.lit (.int .i64 x)) (.lit (.int .i64 8)) = some (.lit (.int .i64 (if x / 8 % 2 = 1 then 8 else 0))) := by
  obtain ⟨n, rfl⟩ := Int.eq_ofNat_of_zero_le h.1
  have h1 := f8t n (by omega)
  have h2 : Op.intBits .and .i64 (n : Int) 8 = Sem.pure (.int .i64 (IntKind.i64.wrap (BitVec.ofInt 64 (n : Int) &&& BitVec.ofInt 64 8).toNat)) := rfl
  have h3 : BitVec.ofInt 64 (n : Int) = BitVec.ofNat 64 n := BitVec.ofInt_natCast ..
  simp only [a1g, b6i, a07, if_true, h2, h3, a4v, Option.map_some]
  have h4 : (BitVec.ofNat 64 n &&& BitVec.ofInt 64 8).toNat = if n / 8 % 2 = 1 then 8 else 0 := h1
  rw [h4, IntKind.wrap_i64]
  by_cases k : n / 8 % 2 = 1
  · have k' : (n : Int) / 8 % 2 = 1 := by omega
    simp [k, k']
  · have k' : ¬ (n : Int) / 8 % 2 = 1 := by omega
    simp [k, k']
end
@[go_sem] theorem f76 {u : Nat} {q : List Nat} : a5u [] u q = false := by cases q <;> rfl
@[go_sem] theorem f09 {T : List (Nat × AV)} {t u : Nat} {v : AV} {q : List Nat} (h : u ≠ t) : a5u ((t, v) :: T) u q = a5u T u q := by
  unfold a5u
  have : (u == t) = false := by simpa using h
  rw [List.lookup_cons, this]
namespace Tryd
def b13 (b : List Int) (s : Rs) : Rs := if (a1m b s).2.err.isNil = true ∧ 16 ≤ (a1m b s).1 then b3f (a1m b s).2 s.at_ (.s 5) else (a1m b s).2
def c9p (x : Int) : Int := if x / 8 % 2 = 1 then x - 8 else x
def a6u (b : List Int) (s : Rs) : Ds × Rs :=
  (⟨(a1y (a0m b) (c9p (a1m b s).1).toNat [] (b13 b s)).1, decide ((a1m b s).1 / 8 % 2 = 1)⟩, (a1y (a0m b) (c9p (a1m b s).1).toNat [] (b13 b s)).2)
theorem c8k {b : List Int} (s : Rs) (h : s.at_ ≤ b.length) : (b13 b s).at_ ≤ b.length := by
  unfold b13
  split
  · rw [c15]; exact a3l s h
  · exact a3l s h
theorem d13 {b : List Int} (s : Rs) (h : s.at_ ≤ b.length) : (a6u b s).2.at_ ≤ b.length := b7s (fun s h => a5e s h) _ _ _ (c8k s h)
section
variable {G : Nat → Option Value} {bk : Nat → Nat × Nat} {Q : Exit → St → Prop} {st : St} {b : List Int}
theorem c9t (hS : Sent5 G bk) (hB : a2l b) (hl : b.length < 2 ^ 40) {w : Bool} {n : Nat} (hn : n < 256) {s0 : Rs} (ha : s0.at_ ≤ b.length) (h0 : st.ep 0 = 0) (h : st.s 0 = a7q bk b s0 ∧ st.s 2 = .var [.own 1 0 [], lb false] ∧ st.s 5 = .var [owI ([] : List Int), lb w] ∧ st.s 6 = li n)
    (hex : ∀ s, s.ep 0 = 0 → s.s 0 = a7q bk b (a1y (a0m b) n [] s0).2 ∧ s.s 2 = .var [.own 1 0 [], lb false] ∧ s.s 5 = .var [owI (a1y (a0m b) n [] s0).1, lb w] → Q (.exit 0) s) : AW pg G 51 (.loop a1h) Q st := by
  refine a02 (Nat × List Int × Rs) (fun p st => p.1 ≤ n ∧ p.2.1.length + p.1 = n ∧ p.2.2.at_ ≤ b.length ∧ a1y (a0m b) p.1 p.2.1 p.2.2 = a1y (a0m b) n [] s0 ∧ st.ep 0 = 0 ∧ st.s 0 = a7q bk b p.2.2 ∧ st.s 2 = .var [.own 1 0 [], lb false] ∧ st.s 5 = .var [owI p.2.1, lb w] ∧ st.s 6 = li p.1) (fun p => p.1) (n, [], s0) ⟨by simp, by simp, ha, rfl, h0, by simp (disch := omega) [go_sem, h]⟩ ?_
  clear h h0
  rintro ⟨n, l, a, e⟩ st K ⟨hi, hlen, h1, hm, h0, h⟩ hK
  simp only at hi hlen h1 hm h
  cases n with
  | zero =>
    rw [a1y] at hm
    simp (disch := omega) [go_sem, a1h, h]
    exact hex _ (by simp (disch := omega) [go_sem, h0]) (by rw [← hm]; simp (disch := omega) [go_sem, h])
  | succ n =>
    rw [a1y] at hm
    have hpos : (0 : Int) < ((n + 1 : Nat) : Int) := by omega
    cases he : e.isNil with
    | true =>
      simp only [he, if_true] at hm
      simp (disch := omega) [go_sem, a1h, h, h0, he, hpos]
      refine a56 [(0, st.ep 0)] (by simp) (by simp (disch := omega) [go_sem, h, h0]) ?_
      simp (disch := omega) [go_sem, h, h0]
      refine d2c (fs := []) (cs := []) (L := [(0, 0)]) [0, 45] (c20 hS hB hl ⟨a, e⟩ h1) rfl (by simp (disch := omega) [go_sem, h, h0]) ?_
      simp (disch := omega) [go_sem, h, h0]
      refine a13 (by decide) fun s2 hs hep => ?_
      simp (disch := omega) [go_sem, hs, hep, h, h0]
      exact hK (n, l ++ [(a0m b ⟨a, e⟩).1], (a0m b ⟨a, e⟩).2) _ ⟨by simp only; omega, by simp only [List.length_append, List.length_cons, List.length_nil]; omega, a5e _ h1, hm, by simp (disch := omega) [go_sem, hs, hep, h0], by simp (disch := omega) [go_sem, hs, hep, h, h0]⟩ (by simp only; omega)
    | false =>
      simp only [he, Bool.false_eq_true, if_false] at hm
      simp (disch := omega) [go_sem, a1h, h, h0, he, hpos]
      exact hex _ (by simp (disch := omega) [go_sem, h0]) (by rw [← hm]; simp (disch := omega) [go_sem, h])
theorem d8c (hS : Sent5 G bk) (hB : a2l b) (hl : b.length < 2 ^ 40) (s : Rs) (ha : s.at_ ≤ b.length) : ACallsX pg G b39 [a7q bk b s] (.agg (eD (a6u b s).1)) [(0, a7q bk b (a6u b s).2)] := by
  refine a85 (pins := [0]) (by kernel_rfl) rfl rfl (by simp [go_sem]) rfl ?_
  have h5 := hS.val 5 (by decide)
  have r1 := a65 hB s
  have a1 := a3l s ha
  have a2 := c8k s ha
  have hc := c5u (G := G) hS hB hl s ha
  simp (disch := omega) [go_sem, a6b]
  refine a0y hc rfl rfl rfl (by simp (disch := omega) [go_sem]) ?_
  unfold a6u b13 at *
  generalize a1m b s = p at *
  obtain ⟨x, s1⟩ := p
  simp only at r1 a1 a2 ⊢
  have hlow : 0 ≤ c9p x ∧ c9p x < 256 := by unfold c9p; split <;> omega
  obtain ⟨n, hn⟩ := Int.eq_ofNat_of_zero_le hlow.1
  have hlow' : (if x / 8 % 2 = 1 then x - 8 else x) = n := by rw [← hn]; rfl
  have hw : (!decide ((if x / 8 % 2 = 1 then (8 : Int) else 0) = 0)) = decide (x / 8 % 2 = 1) := by by_cases k : x / 8 % 2 = 1 <;> simp [k]
  generalize hwide : decide (x / 8 % 2 = 1) = w at *
  rw [hn]
  simp only [Int.toNat_natCast]
  have hn256 : n < 256 := by omega
  by_cases hc : s1.err.isNil = true ∧ 16 ≤ x
  · obtain ⟨hc1, hc2⟩ := hc
    rw [if_pos ⟨hc1, hc2⟩] at a2 ⊢
    simp (disch := omega) [go_sem, hc1, hc2, h5]
    refine a0y (c8r (bk := bk) (b := b) s1 s.at_ (.s 5)) rfl rfl rfl (by simp (disch := omega) [go_sem]) ?_
    simp (disch := omega) [go_sem, hlow', hw, hwide]
    refine c9t hS hB hl (w := w) (n := n) hn256 a2 (by simp (disch := omega) [go_sem]) (by simp (disch := omega) [go_sem]) fun s h0 h => ?_
    simp (disch := omega) [go_sem, h, h0, eD]
  · rw [if_neg hc] at a2 ⊢
    have hcc : (s1.err.isNil && decide (16 ≤ x)) = false := by
      cases h1 : s1.err.isNil
      · rfl
      · simp only [Bool.true_and, decide_eq_false_iff_not]; exact fun h2 => hc ⟨h1, h2⟩
    cases h1 : s1.err.isNil with
    | true =>
      rw [h1] at hcc
      have h2 : ¬ 16 ≤ x := by simpa using hcc
      simp (disch := omega) [go_sem, h1, h2, hlow', hw, hwide]
      refine c9t hS hB hl (w := w) (n := n) hn256 a2 (by simp (disch := omega) [go_sem]) (by simp (disch := omega) [go_sem]) fun s h0 h => ?_
      simp (disch := omega) [go_sem, h, h0, eD]
    | false =>
      simp (disch := omega) [go_sem, h1, hlow', hw, hwide]
      refine c9t hS hB hl (w := w) (n := n) hn256 a2 (by simp (disch := omega) [go_sem]) (by simp (disch := omega) [go_sem]) fun s h0 h => ?_
      simp (disch := omega) [go_sem, h, h0, eD]
end
end Tryd
end Go.Ideal
end
section
set_option linter.unusedVariables false
set_option linter.unusedSimpArgs false
set_option maxRecDepth 10000
namespace Go.Ideal.Tryd
def a3s (b : List Int) (s : Rs) : In × Rs :=
  let s1 := (a1m b s).2
  let s2 := (a01 b s1).2
  let s3 := (b7b b (a01 b) s2).2
  let s4 := (b7b b (a01 b) s3).2
  let s5 := (a01 b s4).2
  (⟨(a1m b s).1, (a01 b s1).1, (b7b b (a01 b) s2).1, (b7b b (a01 b) s3).1, (a01 b s4).1, (a01 b s5).1⟩, (a01 b s5).2)
def b0p (b : List Int) (s : Rs) : Vw × Rs :=
  let d := a6u b (a01 b s).2
  (⟨(a01 b s).1, d.1.shape, d.1.wide⟩, d.2)
def a4n (b : List Int) (i : Nat) (s : Rs) : Tn × Rs := (⟨(a2g b i s).1.1, (a2g b i s).1.2.1, (a2g b i s).1.2.2⟩, (a2g b i s).2)
section
variable {α : Type}
def a37 (rd : Nat → Rs → α × Rs) : Nat → Nat → List α → Rs → List α × Rs
  | 0, _, l, s => (l, s)
  | n + 1, i, l, s => if s.err.isNil = true then a37 rd n (i + 1) (l ++ [(rd i s).1]) (rd i s).2 else (l, s)
theorem b31 {rd : Nat → Rs → α × Rs} : ∀ (n i : Nat) (l : List α) (s : Rs), (a37 rd n i l s).1.length ≤ l.length + n
  | 0, i, l, s => by simp [a37]
  | n + 1, i, l, s => by
    rw [a37]
    split
    · have := b31 (rd := rd) n (i + 1) (l ++ [(rd i s).1]) (rd i s).2
      simp only [List.length_append, List.length_cons, List.length_nil] at this
      omega
    · simp
end
theorem d5q {b : List Int} (s : Rs) (h : s.at_ ≤ b.length) : (a3s b s).2.at_ ≤ b.length :=
  a1a _ (a1a _ (b6w (fun s h => a1a s h) _ (b6w (fun s h => a1a s h) _ (a1a _ (a3l s h)))))
theorem d74 {b : List Int} (s : Rs) (h : s.at_ ≤ b.length) : (b0p b s).2.at_ ≤ b.length := d13 _ (a1a s h)
theorem d4k {b : List Int} (i : Nat) (s : Rs) (h : s.at_ ≤ b.length) : (a4n b i s).2.at_ ≤ b.length := d27 _ s h
section
variable {G : Nat → Option Value} {bk : Nat → Nat × Nat} {Q : Exit → St → Prop} {st : St} {b : List Int}
theorem e0e (hS : Sent5 G bk) (hB : a2l b) (hl : b.length < 2 ^ 40) (s : Rs) (ha : s.at_ ≤ b.length) : ACallsX pg G b14 [a7q bk b s] (.agg (eI (a3s b s).1)) [(0, a7q bk b (a3s b s).2)] := by
  refine a8k (pins := [0]) (by kernel_rfl) rfl rfl (by simp [go_sem]) rfl ?_
  have a1 := a3l s ha
  have a2 := a1a _ a1
  have a3 := b6w (b := b) (rd := a01 b) (fun s h => a1a s h) _ a2
  have a4 := b6w (b := b) (rd := a01 b) (fun s h => a1a s h) _ a3
  have a5 := a1a _ a4
  simp (disch := omega) [go_sem, a5c]
  refine a0y (c5u hS hB hl s ha) rfl rfl rfl (by simp (disch := omega) [go_sem]) ?_
  simp (disch := omega) [go_sem]
  refine a0y (a51 hS hB hl _ a1) rfl rfl rfl (by simp (disch := omega) [go_sem]) ?_
  simp (disch := omega) [go_sem]
  refine a0y (c65 hS hB hl (d4s hS hB hl) _ a2) rfl rfl rfl (by simp (disch := omega) [go_sem]) ?_
  simp (disch := omega) [go_sem]
  refine a0y (c65 hS hB hl (d4s hS hB hl) _ a3) rfl rfl rfl (by simp (disch := omega) [go_sem]) ?_
  simp (disch := omega) [go_sem]
  refine a0y (a51 hS hB hl _ a4) rfl rfl rfl (by simp (disch := omega) [go_sem]) ?_
  simp (disch := omega) [go_sem]
  refine a0y (a51 hS hB hl _ a5) rfl rfl rfl (by simp (disch := omega) [go_sem]) ?_
  simp (disch := omega) [go_sem, a3s, eI]
end
end Go.Ideal.Tryd
end
section
set_option linter.unusedVariables false
set_option linter.unusedSimpArgs false
set_option maxRecDepth 10000
namespace Go.Ideal.Tryd
theorem e0p (n : Vw) : fm eV [n] = [li n.off, slI n.shape, lb n.wide] := by simp [fm, eV]
theorem d84 (n : Tn) : fm eT [n] = [slI n.shape, lb n.wide, slI n.data] := by simp [fm, eT]
theorem d4t (n : Ds) : fm eD [n] = [slI n.shape, lb n.wide] := by simp [fm, eD]
theorem d89 (n : In) : fm eI [n] = [li n.op, li n.dst, slI n.ins, slI n.args, li n.frm, li n.to] := by simp [fm, eI]
section
variable {G : Nat → Option Value} {bk : Nat → Nat × Nat} {Q : Exit → St → Prop} {st : St} {b : List Int}
theorem d7q (hS : Sent5 G bk) (hB : a2l b) (hl : b.length < 2 ^ 40) {n : Nat} (hn : n ≤ 2048) {s0 : Rs} {sz : Int} (ha : s0.at_ ≤ b.length) (h : st.s 2 = .var [li 0, .own 3 0 [], .own 3 0 [], .own 2 0 [], .own 6 0 [], li 0, li 0] ∧ st.s 3 = .lit .nilIface ∧ st.s 4 = a7q bk b s0 ∧ st.s 5 = .var [li sz, .own 3 (([] : List Vw)).length (fm eV ([] : List Vw)), .own 3 (([] : List Tn)).length (fm eT ([] : List Tn)), .own 2 (([] : List Ds)).length (fm eD ([] : List Ds)), .own 6 (([] : List In)).length (fm eI ([] : List In)), li 0, li 0] ∧ st.s 6 = li n)
    (hex : ∀ s, (a37 (fun i s => b0p b s) n 0 [] s0).2.at_ ≤ b.length → s.s 2 = .var [li 0, .own 3 0 [], .own 3 0 [], .own 2 0 [], .own 6 0 [], li 0, li 0] ∧ s.s 3 = .lit .nilIface ∧ s.s 4 = a7q bk b (a37 (fun i s => b0p b s) n 0 [] s0).2 ∧ s.s 5 = .var [li sz, .own 3 ((a37 (fun i s => b0p b s) n 0 [] s0).1).length (fm eV (a37 (fun i s => b0p b s) n 0 [] s0).1), .own 3 (([] : List Tn)).length (fm eT ([] : List Tn)), .own 2 (([] : List Ds)).length (fm eD ([] : List Ds)), .own 6 (([] : List In)).length (fm eI ([] : List In)), li 0, li 0] → Q (.exit 0) s) : AW pg G 128 (.loop a4h) Q st := by
  refine a02 (Nat × Nat × List Vw × Rs) (fun p st => p.1 + p.2.1 = n ∧ p.2.2.1.length = p.2.1 ∧ p.2.2.2.at_ ≤ b.length ∧ a37 (fun i s => b0p b s) p.1 p.2.1 p.2.2.1 p.2.2.2 = a37 (fun i s => b0p b s) n 0 [] s0 ∧ st.s 2 = .var [li 0, .own 3 0 [], .own 3 0 [], .own 2 0 [], .own 6 0 [], li 0, li 0] ∧ st.s 3 = .lit .nilIface ∧ st.s 4 = a7q bk b p.2.2.2 ∧ st.s 5 = .var [li sz, .own 3 (p.2.2.1).length (fm eV p.2.2.1), .own 3 (([] : List Tn)).length (fm eT ([] : List Tn)), .own 2 (([] : List Ds)).length (fm eD ([] : List Ds)), .own 6 (([] : List In)).length (fm eI ([] : List In)), li 0, li 0] ∧ st.s 6 = li p.1) (fun p => p.1) (n, 0, [], s0) ⟨by simp, rfl, ha, rfl, by simp (disch := omega) [go_sem, h]⟩ ?_
  clear h
  rintro ⟨k, i, l, s⟩ st K ⟨hi, hlen, ha, hm, h⟩ hK
  simp only at hi hlen ha hm h
  cases k with
  | zero =>
    rw [a37] at hm
    simp (disch := omega) [go_sem, a4h, h]
    exact hex _ (by rw [← hm]; exact ha) (by rw [← hm]; simp (disch := omega) [go_sem, h])
  | succ k =>
    rw [a37] at hm
    have hpos : (0 : Int) < ((k + 1 : Nat) : Int) := by omega
    cases he : s.err.isNil with
    | false =>
      rw [he] at hm
      simp only [Bool.false_eq_true, if_false] at hm
      simp (disch := omega) [go_sem, a4h, h, hpos, he]
      exact hex _ (by rw [← hm]; exact ha) (by rw [← hm]; simp (disch := omega) [go_sem, h])
    | true =>
      rw [he] at hm
      simp only [if_true] at hm
      have a1 := a1a (b := b) s ha
      have a2 := d74 (b := b) s ha
      simp (disch := omega) [go_sem, a4h, h, hpos, he]
      refine a0y (a51 hS hB hl s ha) rfl rfl rfl (by simp (disch := omega) [go_sem, h]) ?_
      simp (disch := omega) [go_sem, h]
      refine a56 [(4, st.ep 4)] (by simp) (by simp (disch := omega) [go_sem, h]) ?_
      simp (disch := omega) [go_sem, h]
      refine d2c (fs := []) (cs := []) (L := [(4, 0)]) [4, 41] (d8c hS hB hl _ a1) rfl (by simp (disch := omega) [go_sem, h]) ?_
      simp (disch := omega) [go_sem, h, eD]
      refine a13 (by decide) fun s2 hs hep => ?_
      simp (disch := omega) [go_sem, hs, hep, h]
      refine hK (k, i + 1, l ++ [(b0p b s).1], (b0p b s).2) _ ⟨by simp only; omega, by simp only [List.length_append, List.length_cons, List.length_nil]; omega, a2, hm, by simp (disch := omega) [go_sem, hs, hep, h, c1x, e0p, b0p]⟩ (by simp only; omega)
theorem d6y (hS : Sent5 G bk) (hB : a2l b) (hl : b.length < 2 ^ 40) {n : Nat} (hn : n ≤ 2048) {s0 : Rs} {sz : Int} {vs : List Vw} (hvs : vs.length < 2 ^ 20) (ha : s0.at_ ≤ b.length) (h : st.s 2 = .var [li 0, .own 3 0 [], .own 3 0 [], .own 2 0 [], .own 6 0 [], li 0, li 0] ∧ st.s 3 = .lit .nilIface ∧ st.s 4 = a7q bk b s0 ∧ st.s 5 = .var [li sz, .own 3 (vs).length (fm eV vs), .own 3 (([] : List Tn)).length (fm eT ([] : List Tn)), .own 2 (([] : List Ds)).length (fm eD ([] : List Ds)), .own 6 (([] : List In)).length (fm eI ([] : List In)), li 0, li 0] ∧ st.s 8 = li (0 : Nat) ∧ st.s 9 = li n)
    (hex : ∀ s, (a37 (fun i s => a4n b i s) n 0 [] s0).2.at_ ≤ b.length → s.s 2 = .var [li 0, .own 3 0 [], .own 3 0 [], .own 2 0 [], .own 6 0 [], li 0, li 0] ∧ s.s 3 = .lit .nilIface ∧ s.s 4 = a7q bk b (a37 (fun i s => a4n b i s) n 0 [] s0).2 ∧ s.s 5 = .var [li sz, .own 3 (vs).length (fm eV vs), .own 3 (((a37 (fun i s => a4n b i s) n 0 [] s0).1)).length (fm eT ((a37 (fun i s => a4n b i s) n 0 [] s0).1)), .own 2 (([] : List Ds)).length (fm eD ([] : List Ds)), .own 6 (([] : List In)).length (fm eI ([] : List In)), li 0, li 0] → Q (.exit 2) s) : AW pg G 128 (.loop a4j) Q st := by
  refine a02 (Nat × Nat × List Tn × Rs) (fun p st => p.1 + p.2.1 = n ∧ p.2.2.1.length = p.2.1 ∧ p.2.2.2.at_ ≤ b.length ∧ a37 (fun i s => a4n b i s) p.1 p.2.1 p.2.2.1 p.2.2.2 = a37 (fun i s => a4n b i s) n 0 [] s0 ∧ st.s 2 = .var [li 0, .own 3 0 [], .own 3 0 [], .own 2 0 [], .own 6 0 [], li 0, li 0] ∧ st.s 3 = .lit .nilIface ∧ st.s 4 = a7q bk b p.2.2.2 ∧ st.s 5 = .var [li sz, .own 3 (vs).length (fm eV vs), .own 3 ((p.2.2.1)).length (fm eT (p.2.2.1)), .own 2 (([] : List Ds)).length (fm eD ([] : List Ds)), .own 6 (([] : List In)).length (fm eI ([] : List In)), li 0, li 0] ∧ st.s 8 = li p.2.1 ∧ st.s 9 = li n) (fun p => p.1) (n, 0, [], s0) ⟨by simp, rfl, ha, rfl, by simp (disch := omega) [go_sem, h]⟩ ?_
  clear h
  rintro ⟨k, i, l, s⟩ st K ⟨hi, hlen, ha, hm, h⟩ hK
  simp only at hi hlen ha hm h
  cases k with
  | zero =>
    rw [a37] at hm
    have hlt : ¬ (i : Int) < n := by omega
    simp (disch := omega) [go_sem, a4j, h, hlt]
    exact hex _ (by rw [← hm]; exact ha) (by rw [← hm]; simp (disch := omega) [go_sem, h])
  | succ k =>
    rw [a37] at hm
    have hpos : (i : Int) < n := by omega
    cases he : s.err.isNil with
    | false =>
      rw [he] at hm
      simp only [Bool.false_eq_true, if_false] at hm
      simp (disch := omega) [go_sem, a4j, h, hpos, he]
      exact hex _ (by rw [← hm]; exact ha) (by rw [← hm]; simp (disch := omega) [go_sem, h])
    | true =>
      rw [he] at hm
      simp only [if_true] at hm
      have a2 := d4k (b := b) i s ha
      simp (disch := omega) [go_sem, a4j, h, hpos, he]
      refine a56 [(4, st.ep 4)] (by simp) (by simp (disch := omega) [go_sem, h]) ?_
      simp (disch := omega) [go_sem, h]
      refine d2c (fs := []) (cs := []) (L := [(4, 0)]) [4, 65, 66] (d7u hS hB hl i s ha) rfl (by simp (disch := omega) [go_sem, h]) ?_
      simp (disch := omega) [go_sem, h]
      refine a13 (by decide) fun s2 hs hep => ?_
      simp (disch := omega) [go_sem, hs, hep, h]
      refine hK (k, i + 1, l ++ [(a4n b i s).1], (a4n b i s).2) _ ⟨by simp only; omega, by simp only [List.length_append, List.length_cons, List.length_nil]; omega, a2, hm, by simp (disch := omega) [go_sem, hs, hep, h, c1x, d84, a4n]⟩ (by simp only; omega)
theorem d54 (hS : Sent5 G bk) (hB : a2l b) (hl : b.length < 2 ^ 40) {n : Nat} (hn : n ≤ 2048) {s0 : Rs} {sz : Int} {vs : List Vw} {cs : List Tn} (hvs : vs.length < 2 ^ 20) (hcs : cs.length < 2 ^ 20) (ha : s0.at_ ≤ b.length) (h : st.s 2 = .var [li 0, .own 3 0 [], .own 3 0 [], .own 2 0 [], .own 6 0 [], li 0, li 0] ∧ st.s 3 = .lit .nilIface ∧ st.s 4 = a7q bk b s0 ∧ st.s 5 = .var [li sz, .own 3 (vs).length (fm eV vs), .own 3 (cs).length (fm eT cs), .own 2 (([] : List Ds)).length (fm eD ([] : List Ds)), .own 6 (([] : List In)).length (fm eI ([] : List In)), li 0, li 0] ∧ st.s 10 = li n)
    (hex : ∀ s, (a37 (fun i s => a6u b s) n 0 [] s0).2.at_ ≤ b.length → s.s 2 = .var [li 0, .own 3 0 [], .own 3 0 [], .own 2 0 [], .own 6 0 [], li 0, li 0] ∧ s.s 3 = .lit .nilIface ∧ s.s 4 = a7q bk b (a37 (fun i s => a6u b s) n 0 [] s0).2 ∧ s.s 5 = .var [li sz, .own 3 (vs).length (fm eV vs), .own 3 (cs).length (fm eT cs), .own 2 (((a37 (fun i s => a6u b s) n 0 [] s0).1)).length (fm eD ((a37 (fun i s => a6u b s) n 0 [] s0).1)), .own 6 (([] : List In)).length (fm eI ([] : List In)), li 0, li 0] → Q (.exit 4) s) : AW pg G 128 (.loop a4g) Q st := by
  refine a02 (Nat × Nat × List Ds × Rs) (fun p st => p.1 + p.2.1 = n ∧ p.2.2.1.length = p.2.1 ∧ p.2.2.2.at_ ≤ b.length ∧ a37 (fun i s => a6u b s) p.1 p.2.1 p.2.2.1 p.2.2.2 = a37 (fun i s => a6u b s) n 0 [] s0 ∧ st.s 2 = .var [li 0, .own 3 0 [], .own 3 0 [], .own 2 0 [], .own 6 0 [], li 0, li 0] ∧ st.s 3 = .lit .nilIface ∧ st.s 4 = a7q bk b p.2.2.2 ∧ st.s 5 = .var [li sz, .own 3 (vs).length (fm eV vs), .own 3 (cs).length (fm eT cs), .own 2 ((p.2.2.1)).length (fm eD (p.2.2.1)), .own 6 (([] : List In)).length (fm eI ([] : List In)), li 0, li 0] ∧ st.s 10 = li p.1) (fun p => p.1) (n, 0, [], s0) ⟨by simp, rfl, ha, rfl, by simp (disch := omega) [go_sem, h]⟩ ?_
  clear h
  rintro ⟨k, i, l, s⟩ st K ⟨hi, hlen, ha, hm, h⟩ hK
  simp only at hi hlen ha hm h
  cases k with
  | zero =>
    rw [a37] at hm
    have hlt : True := trivial
    simp (disch := omega) [go_sem, a4g, h, hlt]
    exact hex _ (by rw [← hm]; exact ha) (by rw [← hm]; simp (disch := omega) [go_sem, h])
  | succ k =>
    rw [a37] at hm
    have hpos : (0 : Int) < ((k + 1 : Nat) : Int) := by omega
    cases he : s.err.isNil with
    | false =>
      rw [he] at hm
      simp only [Bool.false_eq_true, if_false] at hm
      simp (disch := omega) [go_sem, a4g, h, hpos, he]
      exact hex _ (by rw [← hm]; exact ha) (by rw [← hm]; simp (disch := omega) [go_sem, h])
    | true =>
      rw [he] at hm
      simp only [if_true] at hm
      have a2 := d13 (b := b) s ha
      simp (disch := omega) [go_sem, a4g, h, hpos, he]
      refine a56 [(4, st.ep 4)] (by simp) (by simp (disch := omega) [go_sem, h]) ?_
      simp (disch := omega) [go_sem, h]
      refine d2c (fs := []) (cs := []) (L := [(4, 0)]) [4, 88] (d8c hS hB hl s ha) rfl (by simp (disch := omega) [go_sem, h]) ?_
      simp (disch := omega) [go_sem, h, eD]
      refine a13 (by decide) fun s2 hs hep => ?_
      simp (disch := omega) [go_sem, hs, hep, h]
      refine hK (k, i + 1, l ++ [(a6u b s).1], (a6u b s).2) _ ⟨by simp only; omega, by simp only [List.length_append, List.length_cons, List.length_nil]; omega, a2, hm, by simp (disch := omega) [go_sem, hs, hep, h, c1x, d4t]⟩ (by simp only; omega)
theorem d56 (hS : Sent5 G bk) (hB : a2l b) (hl : b.length < 2 ^ 40) {n : Nat} (hn : n ≤ 2048) {s0 : Rs} {sz : Int} {vs : List Vw} {cs : List Tn} {ws : List Ds} (hvs : vs.length < 2 ^ 20) (hcs : cs.length < 2 ^ 20) (hws : ws.length < 2 ^ 20) (ha : s0.at_ ≤ b.length) (h : st.s 2 = .var [li 0, .own 3 0 [], .own 3 0 [], .own 2 0 [], .own 6 0 [], li 0, li 0] ∧ st.s 3 = .lit .nilIface ∧ st.s 4 = a7q bk b s0 ∧ st.s 5 = .var [li sz, .own 3 (vs).length (fm eV vs), .own 3 (cs).length (fm eT cs), .own 2 (ws).length (fm eD ws), .own 6 (([] : List In)).length (fm eI ([] : List In)), li 0, li 0] ∧ st.s 11 = li n)
    (hex : ∀ s, (a37 (fun i s => a3s b s) n 0 [] s0).2.at_ ≤ b.length → s.s 2 = .var [li 0, .own 3 0 [], .own 3 0 [], .own 2 0 [], .own 6 0 [], li 0, li 0] ∧ s.s 3 = .lit .nilIface ∧ s.s 4 = a7q bk b (a37 (fun i s => a3s b s) n 0 [] s0).2 ∧ s.s 5 = .var [li sz, .own 3 (vs).length (fm eV vs), .own 3 (cs).length (fm eT cs), .own 2 (ws).length (fm eD ws), .own 6 (((a37 (fun i s => a3s b s) n 0 [] s0).1)).length (fm eI ((a37 (fun i s => a3s b s) n 0 [] s0).1)), li 0, li 0] → Q (.exit 6) s) : AW pg G 128 (.loop a4e) Q st := by
  refine a02 (Nat × Nat × List In × Rs) (fun p st => p.1 + p.2.1 = n ∧ p.2.2.1.length = p.2.1 ∧ p.2.2.2.at_ ≤ b.length ∧ a37 (fun i s => a3s b s) p.1 p.2.1 p.2.2.1 p.2.2.2 = a37 (fun i s => a3s b s) n 0 [] s0 ∧ st.s 2 = .var [li 0, .own 3 0 [], .own 3 0 [], .own 2 0 [], .own 6 0 [], li 0, li 0] ∧ st.s 3 = .lit .nilIface ∧ st.s 4 = a7q bk b p.2.2.2 ∧ st.s 5 = .var [li sz, .own 3 (vs).length (fm eV vs), .own 3 (cs).length (fm eT cs), .own 2 (ws).length (fm eD ws), .own 6 ((p.2.2.1)).length (fm eI (p.2.2.1)), li 0, li 0] ∧ st.s 11 = li p.1) (fun p => p.1) (n, 0, [], s0) ⟨by simp, rfl, ha, rfl, by simp (disch := omega) [go_sem, h]⟩ ?_
  clear h
  rintro ⟨k, i, l, s⟩ st K ⟨hi, hlen, ha, hm, h⟩ hK
  simp only at hi hlen ha hm h
  cases k with
  | zero =>
    rw [a37] at hm
    have hlt : True := trivial
    simp (disch := omega) [go_sem, a4e, h, hlt]
    exact hex _ (by rw [← hm]; exact ha) (by rw [← hm]; simp (disch := omega) [go_sem, h])
  | succ k =>
    rw [a37] at hm
    have hpos : (0 : Int) < ((k + 1 : Nat) : Int) := by omega
    cases he : s.err.isNil with
    | false =>
      rw [he] at hm
      simp only [Bool.false_eq_true, if_false] at hm
      simp (disch := omega) [go_sem, a4e, h, hpos, he]
      exact hex _ (by rw [← hm]; exact ha) (by rw [← hm]; simp (disch := omega) [go_sem, h])
    | true =>
      rw [he] at hm
      simp only [if_true] at hm
      have a2 := d5q (b := b) s ha
      simp (disch := omega) [go_sem, a4e, h, hpos, he]
      refine a56 [(4, st.ep 4)] (by simp) (by simp (disch := omega) [go_sem, h]) ?_
      simp (disch := omega) [go_sem, h]
      refine d2c (fs := []) (cs := []) (L := [(4, 0)]) [4, 110] (e0e hS hB hl s ha) rfl (by simp (disch := omega) [go_sem, h]) ?_
      simp (disch := omega) [go_sem, h, eI]
      refine a13 (by decide) fun s2 hs hep => ?_
      simp (disch := omega) [go_sem, hs, hep, h]
      refine hK (k, i + 1, l ++ [(a3s b s).1], (a3s b s).2) _ ⟨by simp only; omega, by simp only [List.length_append, List.length_cons, List.length_nil]; omega, a2, hm, by simp (disch := omega) [go_sem, hs, hep, h, c1x, d89]⟩ (by simp only; omega)
end
end Go.Ideal.Tryd
end
section
set_option linter.unusedVariables false
set_option linter.unusedSimpArgs false
set_option maxRecDepth 10000
namespace Go.Ideal.Tryd
def rP5 (b : List Int) (sz : Int) (vs : List Vw) (cs : List Tn) (ws : List Ds) (is : List In) (s : Rs) : Pl × Rs := (⟨sz, vs, cs, ws, is, (a01 b s).1, (a01 b (a01 b s).2).1⟩, (a01 b (a01 b s).2).2)
def rP4 (b : List Int) (sz : Int) (vs : List Vw) (cs : List Tn) (ws : List Ds) (s : Rs) : Pl × Rs :=
  rP5 b sz vs cs ws (a37 (fun i s => a3s b s) (a4w 2048 (a0m b) s).1.toNat 0 [] (a4w 2048 (a0m b) s).2).1 (a37 (fun i s => a3s b s) (a4w 2048 (a0m b) s).1.toNat 0 [] (a4w 2048 (a0m b) s).2).2
def rP3 (b : List Int) (sz : Int) (vs : List Vw) (cs : List Tn) (s : Rs) : Pl × Rs :=
  rP4 b sz vs cs (a37 (fun i s => a6u b s) (a4w 8 (a0m b) s).1.toNat 0 [] (a4w 8 (a0m b) s).2).1 (a37 (fun i s => a6u b s) (a4w 8 (a0m b) s).1.toNat 0 [] (a4w 8 (a0m b) s).2).2
def rP2 (b : List Int) (sz : Int) (vs : List Vw) (s : Rs) : Pl × Rs :=
  rP3 b sz vs (a37 (fun i s => a4n b i s) (a4w 64 (a0m b) s).1.toNat 0 [] (a4w 64 (a0m b) s).2).1 (a37 (fun i s => a4n b i s) (a4w 64 (a0m b) s).1.toNat 0 [] (a4w 64 (a0m b) s).2).2
def rP1 (b : List Int) (sz : Int) (s : Rs) : Pl × Rs :=
  rP2 b sz (a37 (fun i s => b0p b s) (a4w 128 (a0m b) s).1.toNat 0 [] (a4w 128 (a0m b) s).2).1 (a37 (fun i s => b0p b s) (a4w 128 (a0m b) s).1.toNat 0 [] (a4w 128 (a0m b) s).2).2
def b5y (b : List Int) (s : Rs) : Pl × Rs := rP1 b (a01 b s).1 (a01 b s).2
def b5i (b : List Int) : Pl × Er := if (c27 b (b5y b (a33 b 76 80 ⟨0, .nil⟩)).2).err.isNil = true then ((b5y b (a33 b 76 80 ⟨0, .nil⟩)).1, .nil) else (⟨0, [], [], [], [], 0, 0⟩, (c27 b (b5y b (a33 b 76 80 ⟨0, .nil⟩)).2).err)
section
variable {G : Nat → Option Value} {bk : Nat → Nat × Nat} {Q : Exit → St → Prop} {st : St} {b : List Int}
theorem b4a (hB : a2l b) (most : Int) (hm : 0 ≤ most) (s : Rs) (ha : s.at_ ≤ b.length) : ∃ n : Nat, (a4w most (a0m b) s).1 = n ∧ (n : Int) ≤ most ∧ (a4w most (a0m b) s).2.at_ ≤ b.length := by
  have h := d1n (most := most) (rd := a0m b) (fun s => (b5l hB s).1) hm s
  obtain ⟨n, hn⟩ := Int.eq_ofNat_of_zero_le h.1
  exact ⟨n, hn, by omega, d0i (fun s h => a5e s h) s ha⟩
theorem d9b (hS : Sent5 G bk) (hB : a2l b) (hl : b.length < 2 ^ 40) : ACalls pg G c9v [slU b] (.tup [.agg (eP (b5i b).1), a1p bk (b5i b).2]) := by
  refine c0r rfl ?_
  have h0 := d6k (b := b) (p := 76) (q := 80) (s := ⟨0, .nil⟩) (by simp)
  have c1 := e7y (bk := bk) hS hB hl 76 80 ⟨0, .nil⟩
  unfold b5i b5y
  generalize a33 b 76 80 ⟨0, .nil⟩ = s0 at *
  have c2 := a51 (G := G) (bk := bk) hS hB hl s0 h0
  have a2 := a1a (b := b) s0 h0
  generalize a01 b s0 = p1 at *
  obtain ⟨sz, s1⟩ := p1
  simp only at c2 a2 ⊢
  simp (disch := omega) [go_sem, b7i]
  refine a0y c1 rfl rfl rfl (by simp (disch := omega) [go_sem]) ?_
  simp (disch := omega) [go_sem]
  refine a0y c2 rfl rfl rfl (by simp (disch := omega) [go_sem]) ?_
  simp (disch := omega) [go_sem]
  unfold rP1
  obtain ⟨n1, e1, m1, q1⟩ := b4a hB 128 (by omega) s1 a2
  have w1 := d4x hS hl (c34 (G := G) (bk := bk) hS hB hl) 128 s1 a2
  generalize a4w 128 (a0m b) s1 = f1 at *
  obtain ⟨g1, t1⟩ := f1
  simp only at e1 m1 q1 w1 ⊢
  subst e1
  have v1 := b31 (rd := (fun i s => b0p b s)) n1 0 [] t1
  have at1 := fun (Q : Exit → St → Prop) (st : St) => d7q (Q := Q) (st := st) (G := G) (bk := bk) hS hB hl (n := n1) (s0 := t1) (sz := sz) (by omega) q1
  simp only [Int.toNat_natCast] at v1 at1 ⊢
  generalize a37 (fun i s => b0p b s) n1 0 [] t1 = r1 at *
  obtain ⟨vs, s2⟩ := r1
  simp only [List.length_nil] at v1 at1 ⊢
  refine a0y w1 rfl rfl rfl (by simp (disch := omega) [go_sem]) ?_
  simp (disch := omega) [go_sem]
  refine at1 _ _ (by simp (disch := omega) [go_sem, fm]) fun s a3 h => ?_
  simp (disch := omega) [go_sem, h]
  unfold rP2
  obtain ⟨n2, e2, m2, q2⟩ := b4a hB 64 (by omega) s2 a3
  have w2 := d4x hS hl (c34 (G := G) (bk := bk) hS hB hl) 64 s2 a3
  generalize a4w 64 (a0m b) s2 = f2 at *
  obtain ⟨g2, t2⟩ := f2
  simp only at e2 m2 q2 w2 ⊢
  subst e2
  have v2 := b31 (rd := (fun i s => a4n b i s)) n2 0 [] t2
  have at2 := fun (Q : Exit → St → Prop) (st : St) => d6y (Q := Q) (vs := vs) (st := st) (G := G) (bk := bk) hS hB hl (n := n2) (s0 := t2) (sz := sz) (by omega) (by omega) q2
  simp only [Int.toNat_natCast] at v2 at2 ⊢
  generalize a37 (fun i s => a4n b i s) n2 0 [] t2 = r2 at *
  obtain ⟨cs, s3⟩ := r2
  simp only [List.length_nil] at v2 at2 ⊢
  refine a0y w2 rfl rfl rfl (by simp (disch := omega) [go_sem, h]) ?_
  simp (disch := omega) [go_sem, h]
  refine at2 _ _ (by simp (disch := omega) [go_sem, h, fm]) fun s a4 h => ?_
  simp (disch := omega) [go_sem, h]
  unfold rP3
  obtain ⟨n3, e3, m3, q3⟩ := b4a hB 8 (by omega) s3 a4
  have w3 := d4x hS hl (c34 (G := G) (bk := bk) hS hB hl) 8 s3 a4
  generalize a4w 8 (a0m b) s3 = f3 at *
  obtain ⟨g3, t3⟩ := f3
  simp only at e3 m3 q3 w3 ⊢
  subst e3
  have v3 := b31 (rd := (fun i s => a6u b s)) n3 0 [] t3
  have at3 := fun (Q : Exit → St → Prop) (st : St) => d54 (Q := Q) (vs := vs) (cs := cs) (st := st) (G := G) (bk := bk) hS hB hl (n := n3) (s0 := t3) (sz := sz) (by omega) (by omega) (by omega) q3
  simp only [Int.toNat_natCast] at v3 at3 ⊢
  generalize a37 (fun i s => a6u b s) n3 0 [] t3 = r3 at *
  obtain ⟨ws, s4⟩ := r3
  simp only [List.length_nil] at v3 at3 ⊢
  refine a0y w3 rfl rfl rfl (by simp (disch := omega) [go_sem, h]) ?_
  simp (disch := omega) [go_sem, h]
  refine at3 _ _ (by simp (disch := omega) [go_sem, h, fm]) fun s a5 h => ?_
  simp (disch := omega) [go_sem, h]
  unfold rP4
  obtain ⟨n4, e4, m4, q4⟩ := b4a hB 2048 (by omega) s4 a5
  have w4 := d4x hS hl (c34 (G := G) (bk := bk) hS hB hl) 2048 s4 a5
  generalize a4w 2048 (a0m b) s4 = f4 at *
  obtain ⟨g4, t4⟩ := f4
  simp only at e4 m4 q4 w4 ⊢
  subst e4
  have v4 := b31 (rd := (fun i s => a3s b s)) n4 0 [] t4
  have at4 := fun (Q : Exit → St → Prop) (st : St) => d56 (Q := Q) (vs := vs) (cs := cs) (ws := ws) (st := st) (G := G) (bk := bk) hS hB hl (n := n4) (s0 := t4) (sz := sz) (by omega) (by omega) (by omega) (by omega) q4
  simp only [Int.toNat_natCast] at v4 at4 ⊢
  generalize a37 (fun i s => a3s b s) n4 0 [] t4 = r4 at *
  obtain ⟨is, s5⟩ := r4
  simp only [List.length_nil] at v4 at4 ⊢
  refine a0y w4 rfl rfl rfl (by simp (disch := omega) [go_sem, h]) ?_
  simp (disch := omega) [go_sem, h]
  refine at4 _ _ (by simp (disch := omega) [go_sem, h, fm]) fun s a6 h => ?_
  simp (disch := omega) [go_sem, h]
  have a7 := a1a (b := b) s5 a6
  refine a0y (a51 hS hB hl s5 a6) rfl rfl rfl (by simp (disch := omega) [go_sem, h]) ?_
  simp (disch := omega) [go_sem, h]
  refine a0y (a51 hS hB hl _ a7) rfl rfl rfl (by simp (disch := omega) [go_sem, h]) ?_
  simp (disch := omega) [go_sem, h]
  refine a0y (g0p hS hl _ (a1a (b := b) _ a7)) (c1j _) rfl rfl (by simp (disch := omega) [go_sem, h]) ?_
  unfold rP5
  cases he : (c27 b (a01 b (a01 b s5).2).2).err.isNil with
  | true =>
    simp (disch := omega) [go_sem, h, he, a1p, eP]
  | false =>
    simp (disch := omega) [go_sem, h, he, eP, fm]
end
end Go.Ideal.Tryd
end
section
set_option linter.unusedVariables false
set_option linter.unusedSimpArgs false
namespace Go.Ideal.Tryd
instance : Inhabited Ds := ⟨⟨[], false⟩⟩
instance : Inhabited Tn := ⟨⟨[], false, []⟩⟩
instance : Inhabited Vw := ⟨⟨0, [], false⟩⟩
instance : Inhabited In := ⟨⟨0, 0, [], [], 0, 0⟩⟩
theorem b5u : Fmt (fun b s => ((a1m b s).1, b13 b s)) (fun x => 0 ≤ x ∧ x ≤ 15) (fun x => [x]) where
  keep := fun b s h => by
    have := a3d.keep b s h
    simp only
    unfold b13
    rw [this, if_neg (by rw [h]; simp)]
  comp := fun b a v r h1 h2 => by
    have := a3d.comp b a v r ⟨h1.1, by omega⟩ h2
    unfold b13
    rw [this, if_neg (by simp only; omega)]
  short := fun b a v r h1 h2 h3 h4 => by
    have := a3d.short b a v r ⟨h1.1, by omega⟩ h2 h3 h4
    simp only
    unfold b13
    rw [if_neg (by rw [a60 this]; simp)]
    exact this
  sound := fun b a h1 h2 h3 => by
    simp only at h3 ⊢
    unfold b13 at h3 ⊢
    by_cases hc : (a1m b ⟨a, .nil⟩).2.err.isNil = true ∧ 16 ≤ (a1m b ⟨a, .nil⟩).1
    · rw [if_pos hc] at h3
      exact absurd h3 (b6o hc.1 rfl)
    · rw [if_neg hc] at h3 ⊢
      obtain ⟨g1, g2, g3⟩ := a3d.sound b a h1 h2 h3
      refine ⟨⟨g1.1, ?_⟩, g2, g3⟩
      have : ¬ 16 ≤ (a1m b ⟨a, .nil⟩).1 := fun hh => hc ⟨by rw [h3]; rfl, hh⟩
      omega
def d50 (d : Ds) : Prop := d.shape.length ≤ 7 ∧ ∀ x ∈ d.shape, 0 ≤ x ∧ x ≤ 65535
theorem b6v : Fmt a6u d50 (fun d => a3h d.shape d.wide) := by
  refine ((b5u.pair (rd2 := fun x b s => a1y (a0m b) (c9p x).toNat [] s) (ok2 := fun x l => l.length = (c9p x).toNat ∧ ∀ y ∈ l, 0 ≤ y ∧ y ≤ 65535) (enc2 := fun x l => l.flatMap le2) (fun x => (b0u (c9p x).toNat).keep) fun x _ => b0u (c9p x).toNat).map (fun p => (⟨p.2, decide (p.1 / 8 % 2 = 1)⟩ : Ds)) (fun d => ((if d.wide = true then (d.shape.length : Int) + 8 else d.shape.length), d.shape)) fun p h => ?_).of (fun b s h => ?_) (fun b a => rfl) (fun v => ?_) fun v h => ?_
  · obtain ⟨x, l⟩ := p
    have h1 : (0 ≤ x ∧ x ≤ 15) ∧ l.length = (c9p x).toNat ∧ ∀ y ∈ l, 0 ≤ y ∧ y ≤ 65535 := h
    simp only [decide_eq_true_eq]
    rw [Prod.mk.injEq]
    refine ⟨?_, rfl⟩
    have := h1.2.1
    unfold c9p at this
    split at this <;> rename_i hk <;> simp only [hk, if_true, if_false] <;> omega
  · unfold a6u
    have := b5u.keep b s h
    simp only at this ⊢
    rw [this]
    exact (b0u _).keep b s h
  · obtain ⟨sh, w⟩ := v
    simp only [d50]
    have e1 : ∀ n : Nat, n ≤ 7 → c9p (if w = true then (n : Int) + 8 else n) = n := fun n hn => by
      unfold c9p
      cases w <;> simp <;> omega
    constructor
    · rintro ⟨⟨⟨h1, h2⟩, h3, h4⟩, h5⟩
      refine ⟨?_, h4⟩
      generalize (if w = true then (sh.length : Int) + 8 else sh.length) = x at h1 h2 h3
      have : c9p x ≤ 7 := by unfold c9p; split <;> omega
      omega
    · rintro ⟨h1, h2⟩
      refine ⟨⟨?_, by rw [e1 _ h1]; simp, h2⟩, ?_⟩
      · cases w <;> simp <;> omega
      · cases w <;> simp <;> omega
  · obtain ⟨sh, w⟩ := v
    have h1 : sh.length ≤ 7 := h.1
    simp only [a3h, List.singleton_append, List.cons.injEq, and_true, c5x]
    cases w <;> simp <;> omega
theorem d6v : Fmt b0p (fun v => (-2147483648 ≤ v.off ∧ v.off ≤ 2147483647) ∧ d50 ⟨v.shape, v.wide⟩) (fun v => a4q true v.off ++ a3h v.shape v.wide) :=
  ((a6z.pair (rd2 := fun _ => a6u) (ok2 := fun _ => d50) (enc2 := fun _ d => a3h d.shape d.wide) (fun _ => b6v.keep) fun _ _ => b6v).map (fun p => (⟨p.1, p.2.shape, p.2.wide⟩ : Vw)) (fun v => (v.off, ⟨v.shape, v.wide⟩)) fun p h => rfl).of
    (fun b s h => by unfold b0p; simp only; rw [a6z.keep b s h]; exact b6v.keep b s h) (fun b a => rfl) (fun v => by simp only [and_true]) fun v h => rfl
theorem d3p (i : Nat) : Fmt (fun b s => a4n b i s) (fun t => a4o t.shape t.wide t.data = .nil) (fun t => a29 t.shape t.wide t.data) :=
  ((c1r i).map (fun p => (⟨p.1, p.2.1, p.2.2⟩ : Tn)) (fun t => (t.shape, t.wide, t.data)) fun p h => rfl).of
    (fun b s h => by unfold a4n; exact (c1r i).keep b s h) (fun b a => rfl) (fun v => by simp only [and_true]) fun v h => rfl
def r32 (x : Int) : Prop := -2147483648 ≤ x ∧ x ≤ 2147483647
def e9i (i : In) : Prop := (0 ≤ i.op ∧ i.op ≤ 255) ∧ r32 i.dst ∧ (i.ins.length ≤ 8 ∧ ∀ x ∈ i.ins, r32 x) ∧ (i.args.length ≤ 8 ∧ ∀ x ∈ i.args, r32 x) ∧ r32 i.frm ∧ r32 i.to
def a7b (i : In) : List Int := [i.op] ++ (a4q true i.dst ++ ((u8 i.ins.length :: i.ins.flatMap (a4q true)) ++ ((u8 i.args.length :: i.args.flatMap (a4q true)) ++ (a4q true i.frm ++ a4q true i.to))))
theorem d3t : Fmt a3s e9i a7b := by
  have n := a6z
  have m := a6z.nums
  have f1 := n.pair (rd2 := fun _ => a01) (ok2 := fun _ x => r32 x) (enc2 := fun _ => a4q true) (fun _ => n.keep) fun _ _ => n
  have f2 := m.pair (rd2 := fun _ b s => _) (ok2 := fun _ => _) (enc2 := fun _ => _) (fun _ => f1.keep) fun _ _ => f1
  have f3 := m.pair (rd2 := fun _ b s => _) (ok2 := fun _ => _) (enc2 := fun _ => _) (fun _ => f2.keep) fun _ _ => f2
  have f4 := n.pair (rd2 := fun _ b s => _) (ok2 := fun _ => _) (enc2 := fun _ => _) (fun _ => f3.keep) fun _ _ => f3
  have f5 := a3d.pair (rd2 := fun _ b s => _) (ok2 := fun _ => _) (enc2 := fun _ => _) (fun _ => f4.keep) fun _ _ => f4
  refine (f5.map (fun p => (⟨p.1, p.2.1, p.2.2.1, p.2.2.2.1, p.2.2.2.2.1, p.2.2.2.2.2⟩ : In)) (fun i => (i.op, i.dst, i.ins, i.args, i.frm, i.to)) fun p h => rfl).of (fun b s h => ?_) (fun b a => rfl) (fun v => ?_) fun v h => rfl
  · have k1 := a3d.keep b s h
    have k2 := n.keep b s h
    have k3 := m.keep b s h
    unfold a3s
    simp only [k1, k2, k3]
  · simp only [and_true]
    exact Iff.rfl
theorem c30 {α : Type} {rd : Nat → List Int → Rs → α × Rs} {b : List Int} : ∀ (n i : Nat) (l : List α) (s : Rs), a37 (fun i s => rd i b s) n i l s = a6p rd b n i l s
  | 0, _, _, _ => rfl
  | n + 1, i, l, s => by rw [a37, a6p, c30 n (i + 1)]
theorem Fmt.many {α : Type} [Inhabited α] {rd : Nat → List Int → Rs → α × Rs} {ok : α → Prop} {enc : α → List Int} (F : ∀ i, Fmt (rd i) ok enc) (most : Nat) (hm : most ≤ 65535) :
    Fmt (fun b s => a37 (fun i s => rd i b s) (a4w most (a0m b) s).1.toNat 0 [] (a4w most (a0m b) s).2) (fun l => l.length ≤ most ∧ ∀ x ∈ l, ok x) (fun l => le2 l.length ++ l.flatMap enc) := by
  have fc := a5d.few most
  refine ((fc.pair (rd2 := fun m b s => a6p rd b m.toNat 0 [] s) (ok2 := fun m l => l.length = m.toNat ∧ ∀ x ∈ l, ok x) (enc2 := fun _ l => l.flatMap enc) (fun m b s h => by rw [a3g h]) fun m _ => Fmt.loop F m.toNat 0).map (fun p => p.2) (fun l => ((l.length : Int), l)) fun p h => ?_).of (fun b s h => ?_) (fun b a => ?_) (fun v => ?_) fun v h => rfl
  · obtain ⟨m, l⟩ := p
    simp only at h ⊢
    rw [Prod.mk.injEq]
    exact ⟨by omega, rfl⟩
  · have := fc.keep b s h
    rw [this, c30, a3g h]
  · rw [c30]
  · simp only [Int.toNat_natCast, and_true, true_and]
    constructor
    · intro h; exact ⟨by omega, h.2⟩
    · intro h; exact ⟨by omega, h.2⟩
def e39 (p : Pl) : Prop := r32 p.size ∧ (p.views.length ≤ 128 ∧ ∀ v ∈ p.views, r32 v.off ∧ d50 ⟨v.shape, v.wide⟩) ∧ (p.consts.length ≤ 64 ∧ ∀ t ∈ p.consts, a4o t.shape t.wide t.data = .nil) ∧ (p.weights.length ≤ 8 ∧ ∀ d ∈ p.weights, d50 d) ∧ (p.code.length ≤ 2048 ∧ ∀ i ∈ p.code, e9i i) ∧ r32 p.input ∧ r32 p.output
def f12 (p : Pl) : List Int := a4q true p.size ++ ((le2 p.views.length ++ p.views.flatMap fun v => a4q true v.off ++ a3h v.shape v.wide) ++ ((le2 p.consts.length ++ p.consts.flatMap fun t => a29 t.shape t.wide t.data) ++ ((le2 p.weights.length ++ p.weights.flatMap fun d => a3h d.shape d.wide) ++ ((le2 p.code.length ++ p.code.flatMap a7b) ++ (a4q true p.input ++ a4q true p.output)))))
theorem d6x : Fmt b5y e39 f12 := by
  have n := a6z
  have fv := Fmt.many (fun _ => d6v) 128 (by omega)
  have fc := Fmt.many d3p 64 (by omega)
  have fw := Fmt.many (fun _ => b6v) 8 (by omega)
  have fi := Fmt.many (fun _ => d3t) 2048 (by omega)
  have f1 := n.pair (rd2 := fun _ => a01) (ok2 := fun _ x => r32 x) (enc2 := fun _ => a4q true) (fun _ => n.keep) fun _ _ => n
  have f2 := fi.pair (rd2 := fun _ b s => _) (ok2 := fun _ => _) (enc2 := fun _ => _) (fun _ => f1.keep) fun _ _ => f1
  have f3 := fw.pair (rd2 := fun _ b s => _) (ok2 := fun _ => _) (enc2 := fun _ => _) (fun _ => f2.keep) fun _ _ => f2
  have f4 := fc.pair (rd2 := fun _ b s => _) (ok2 := fun _ => _) (enc2 := fun _ => _) (fun _ => f3.keep) fun _ _ => f3
  have f5 := fv.pair (rd2 := fun _ b s => _) (ok2 := fun _ => _) (enc2 := fun _ => _) (fun _ => f4.keep) fun _ _ => f4
  have f6 := n.pair (rd2 := fun _ b s => _) (ok2 := fun _ => _) (enc2 := fun _ => _) (fun _ => f5.keep) fun _ _ => f5
  refine (f6.map (fun p => (⟨p.1, p.2.1, p.2.2.1, p.2.2.2.1, p.2.2.2.2.1, p.2.2.2.2.2.1, p.2.2.2.2.2.2⟩ : Pl)) (fun p => (p.size, p.views, p.consts, p.weights, p.code, p.input, p.output)) fun p h => rfl).of (fun b s h => ?_) (fun b a => rfl) (fun v => ?_) fun v h => rfl
  · have k1 := n.keep b s h
    have k2 : (a37 (fun i s => b0p b s) (a4w 128 (a0m b) s).1.toNat 0 [] (a4w 128 (a0m b) s).2).2 = s := fv.keep b s h
    have k3 : (a37 (fun i s => a4n b i s) (a4w 64 (a0m b) s).1.toNat 0 [] (a4w 64 (a0m b) s).2).2 = s := fc.keep b s h
    have k4 : (a37 (fun i s => a6u b s) (a4w 8 (a0m b) s).1.toNat 0 [] (a4w 8 (a0m b) s).2).2 = s := fw.keep b s h
    have k5 : (a37 (fun i s => a3s b s) (a4w 2048 (a0m b) s).1.toNat 0 [] (a4w 2048 (a0m b) s).2).2 = s := fi.keep b s h
    unfold b5y rP1 rP2 rP3 rP4 rP5
    simp only
    rw [k1, k2, k3, k4, k5, k1, k1]
  · simp only [and_true]
    exact Iff.rfl
theorem e59 : Whole b5y 76 80 f12 e39 := d6x.whole 76 80
end Go.Ideal.Tryd
end
