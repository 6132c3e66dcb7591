/- Part Pr of the proof: a machine with trees for values, its soundness, and walks on it. -/
import Derived.Test.YtfdhkijgolgnfaaDoorPq
import Derived.Test.YtfdhkijgolgnfaaDoorPn

section
set_option linter.unusedVariables false
set_option linter.unusedSimpArgs false
set_option maxRecDepth 10000
namespace Go.Ideal
section
variable {x : Int}
theorem and8i : ∀ n : Nat, n < 256 → (BitVec.ofNat 64 n &&& 8#64).toNat = if n / 8 % 2 = 1 then 8 else 0 := by decide
@[go_sem] theorem ba_and8i (h : 0 ≤ x ∧ x ≤ 255) : binAV .and 0 (.lit (.int .i64 x)) (.lit (.int .i64 8)) = some (.lit (.int .i64 (if x / 8 % 2 = 1 then 8 else 0))) := by
  obtain ⟨n, rfl⟩ := Int.eq_ofNat_of_zero_le h.1
  have h1 := and8i n (by omega)
  have h2 : Op.intBits .and .i64 (n : Int) 8 = Sem.pure (.int .i64 (IntKind.i64.wrap (BitVec.ofInt 64 (n : Int) &&& BitVec.ofInt 64 8).toNat)) := rfl
  have h3 : BitVec.ofInt 64 (n : Int) = BitVec.ofNat 64 n := BitVec.ofInt_natCast ..
  simp only [binAV, litOp, binLit, if_true, h2, h3, pureOf, Option.map_some]
  have h4 : (BitVec.ofNat 64 n &&& BitVec.ofInt 64 8).toNat = if n / 8 % 2 = 1 then 8 else 0 := h1
  rw [h4, IntKind.wrap_i64]
  by_cases k : n / 8 % 2 = 1
  · have k' : (n : Int) / 8 % 2 = 1 := by omega
    simp [k, k']
  · have k' : ¬ (n : Int) / 8 % 2 = 1 := by omega
    simp [k, k']
end
@[go_sem] theorem lentK_e {u : Nat} {q : List Nat} : lentK [] u q = false := by cases q <;> rfl
@[go_sem] theorem lentK_ne {T : List (Nat × AV)} {t u : Nat} {v : AV} {q : List Nat} (h : u ≠ t) : lentK ((t, v) :: T) u q = lentK T u q := by
  unfold lentK
  have : (u == t) = false := by simpa using h
  rw [List.lookup_cons, this]
namespace Tryd
/-! ### plan.Reader: shapes, instructions -/
def rDescS (b : List Int) (s : Rs) : Rs := if (rByte b s).2.err.isNil = true ∧ 16 ≤ (rByte b s).1 then rdBad (rByte b s).2 s.at_ (.s 5) else (rByte b s).2
def low8 (x : Int) : Int := if x / 8 % 2 = 1 then x - 8 else x
def rDesc (b : List Int) (s : Rs) : Ds × Rs :=
  (⟨(rNumsL (rCount b) (low8 (rByte b s).1).toNat [] (rDescS b s)).1, decide ((rByte b s).1 / 8 % 2 = 1)⟩, (rNumsL (rCount b) (low8 (rByte b s).1).toNat [] (rDescS b s)).2)
theorem rDescS_at {b : List Int} (s : Rs) (h : s.at_ ≤ b.length) : (rDescS b s).at_ ≤ b.length := by
  unfold rDescS
  split
  · rw [rdBad_at]; exact rByte_at s h
  · exact rByte_at s h
theorem rDesc_at {b : List Int} (s : Rs) (h : s.at_ ≤ b.length) : (rDesc b s).2.at_ ≤ b.length := rNumsL_at (fun s h => rCount_at s h) _ _ _ (rDescS_at s h)
section
variable {G : Nat → Option Value} {bk : Nat → Nat × Nat} {Q : Exit → St → Prop} {st : St} {b : List Int}
theorem desc_l0 (hS : Sent G bk) (hB : byteL b) (hl : b.length < 2 ^ 40) {w : Bool} {n : Nat} (hn : n < 256) {s0 : Rs} (ha : s0.at_ ≤ b.length) (h0 : st.ep 0 = 0) (h : st.s 0 = rdAV bk b s0 ∧ st.s 2 = .var [.own 1 0 [], lb false] ∧ st.s 5 = .var [owI ([] : List Int), lb w] ∧ st.s 6 = li n)
    (hex : ∀ s, s.ep 0 = 0 → s.s 0 = rdAV bk b (rNumsL (rCount b) n [] s0).2 ∧ s.s 2 = .var [.own 1 0 [], lb false] ∧ s.s 5 = .var [owI (rNumsL (rCount b) n [] s0).1, lb w] → Q (.exit 0) s) : AW pg G 51 (.loop plan_Reader_Desc_l0) Q st := by
  refine aw_loop (Nat × List Int × Rs) (fun p st => p.1 ≤ n ∧ p.2.1.length + p.1 = n ∧ p.2.2.at_ ≤ b.length ∧ rNumsL (rCount b) p.1 p.2.1 p.2.2 = rNumsL (rCount b) n [] s0 ∧ st.ep 0 = 0 ∧ st.s 0 = rdAV bk b p.2.2 ∧ st.s 2 = .var [.own 1 0 [], lb false] ∧ st.s 5 = .var [owI p.2.1, lb w] ∧ st.s 6 = li p.1) (fun p => p.1) (n, [], s0) ⟨by simp, by simp, ha, rfl, h0, by simp (disch := omega) [go_sem, h]⟩ ?_
  clear h h0
  rintro ⟨n, l, a, e⟩ st K ⟨hi, hlen, h1, hm, h0, h⟩ hK
  simp only at hi hlen h1 hm h
  cases n with
  | zero =>
    rw [rNumsL] at hm
    simp (disch := omega) [go_sem, plan_Reader_Desc_l0, h]
    exact hex _ (by simp (disch := omega) [go_sem, h0]) (by rw [← hm]; simp (disch := omega) [go_sem, h])
  | succ n =>
    rw [rNumsL] at hm
    have hpos : (0 : Int) < ((n + 1 : Nat) : Int) := by omega
    cases he : e.isNil with
    | true =>
      simp only [he, if_true] at hm
      simp (disch := omega) [go_sem, plan_Reader_Desc_l0, h, h0, he, hpos]
      refine aw_drawV [(0, st.ep 0)] (by simp) (by simp (disch := omega) [go_sem, h, h0]) ?_
      simp (disch := omega) [go_sem, h, h0]
      refine dCx_i (fs := []) (cs := []) (L := [(0, 0)]) [0, 45] (count83 hS hB hl ⟨a, e⟩ h1) rfl (by simp (disch := omega) [go_sem, h, h0]) ?_
      simp (disch := omega) [go_sem, h, h0]
      refine dFin_i (by decide) fun s2 hs hep => ?_
      simp (disch := omega) [go_sem, hs, hep, h, h0]
      exact hK (n, l ++ [(rCount b ⟨a, e⟩).1], (rCount b ⟨a, e⟩).2) _ ⟨by simp only; omega, by simp only [List.length_append, List.length_cons, List.length_nil]; omega, rCount_at _ h1, hm, by simp (disch := omega) [go_sem, hs, hep, h0], by simp (disch := omega) [go_sem, hs, hep, h, h0]⟩ (by simp only; omega)
    | false =>
      simp only [he, Bool.false_eq_true, if_false] at hm
      simp (disch := omega) [go_sem, plan_Reader_Desc_l0, h, h0, he, hpos]
      exact hex _ (by simp (disch := omega) [go_sem, h0]) (by rw [← hm]; simp (disch := omega) [go_sem, h])
theorem desc92 (hS : Sent G bk) (hB : byteL b) (hl : b.length < 2 ^ 40) (s : Rs) (ha : s.at_ ≤ b.length) : ACallsX pg G F_plan_Reader_Desc [rdAV bk b s] (.agg (eD (rDesc b s).1)) [(0, rdAV bk b (rDesc b s).2)] := by
  refine plan_Reader_Desc_callX (pins := [0]) (by kernel_rfl) rfl rfl (by simp [go_sem]) rfl ?_
  have h5 := hS.val 5 (by decide)
  have r1 := rByte_rng hB s
  have a1 := rByte_at s ha
  have a2 := rDescS_at s ha
  have hc := byte84 (G := G) hS hB hl s ha
  simp (disch := omega) [go_sem, plan_Reader_Desc_c]
  refine clx_same hc rfl rfl rfl (by simp (disch := omega) [go_sem]) ?_
  unfold rDesc rDescS at *
  generalize rByte b s = p at *
  obtain ⟨x, s1⟩ := p
  simp only at r1 a1 a2 ⊢
  have hlow : 0 ≤ low8 x ∧ low8 x < 256 := by unfold low8; split <;> omega
  obtain ⟨n, hn⟩ := Int.eq_ofNat_of_zero_le hlow.1
  have hlow' : (if x / 8 % 2 = 1 then x - 8 else x) = n := by rw [← hn]; rfl
  have hw : (!decide ((if x / 8 % 2 = 1 then (8 : Int) else 0) = 0)) = decide (x / 8 % 2 = 1) := by by_cases k : x / 8 % 2 = 1 <;> simp [k]
  generalize hwide : decide (x / 8 % 2 = 1) = w at *
  rw [hn]
  simp only [Int.toNat_natCast]
  have hn256 : n < 256 := by omega
  by_cases hc : s1.err.isNil = true ∧ 16 ≤ x
  · obtain ⟨hc1, hc2⟩ := hc
    rw [if_pos ⟨hc1, hc2⟩] at a2 ⊢
    simp (disch := omega) [go_sem, hc1, hc2, h5]
    refine clx_same (bad121 (bk := bk) (b := b) s1 s.at_ (.s 5)) rfl rfl rfl (by simp (disch := omega) [go_sem]) ?_
    simp (disch := omega) [go_sem, hlow', hw, hwide]
    refine desc_l0 hS hB hl (w := w) (n := n) hn256 a2 (by simp (disch := omega) [go_sem]) (by simp (disch := omega) [go_sem]) fun s h0 h => ?_
    simp (disch := omega) [go_sem, h, h0, eD]
  · rw [if_neg hc] at a2 ⊢
    have hcc : (s1.err.isNil && decide (16 ≤ x)) = false := by
      cases h1 : s1.err.isNil
      · rfl
      · simp only [Bool.true_and, decide_eq_false_iff_not]; exact fun h2 => hc ⟨h1, h2⟩
    cases h1 : s1.err.isNil with
    | true =>
      rw [h1] at hcc
      have h2 : ¬ 16 ≤ x := by simpa using hcc
      simp (disch := omega) [go_sem, h1, h2, hlow', hw, hwide]
      refine desc_l0 hS hB hl (w := w) (n := n) hn256 a2 (by simp (disch := omega) [go_sem]) (by simp (disch := omega) [go_sem]) fun s h0 h => ?_
      simp (disch := omega) [go_sem, h, h0, eD]
    | false =>
      simp (disch := omega) [go_sem, h1, hlow', hw, hwide]
      refine desc_l0 hS hB hl (w := w) (n := n) hn256 a2 (by simp (disch := omega) [go_sem]) (by simp (disch := omega) [go_sem]) fun s h0 h => ?_
      simp (disch := omega) [go_sem, h, h0, eD]
end
end Tryd
end Go.Ideal
end

section
set_option linter.unusedVariables false
set_option linter.unusedSimpArgs false
set_option maxRecDepth 10000
namespace Go.Ideal.Tryd
/-! ### plan.Read -/
def rInstr (b : List Int) (s : Rs) : In × Rs :=
  let s1 := (rByte b s).2
  let s2 := (rNumber b s1).2
  let s3 := (rNums b (rNumber b) s2).2
  let s4 := (rNums b (rNumber b) s3).2
  let s5 := (rNumber b s4).2
  (⟨(rByte b s).1, (rNumber b s1).1, (rNums b (rNumber b) s2).1, (rNums b (rNumber b) s3).1, (rNumber b s4).1, (rNumber b s5).1⟩, (rNumber b s5).2)
def rView (b : List Int) (s : Rs) : Vw × Rs :=
  let d := rDesc b (rNumber b s).2
  (⟨(rNumber b s).1, d.1.shape, d.1.wide⟩, d.2)
def rConst (b : List Int) (i : Nat) (s : Rs) : Tn × Rs := (⟨(rTensor b i s).1.1, (rTensor b i s).1.2.1, (rTensor b i s).1.2.2⟩, (rTensor b i s).2)
section
variable {α : Type}
/-- So many, one after another; the place goes up. -/
def rSeq (rd : Nat → Rs → α × Rs) : Nat → Nat → List α → Rs → List α × Rs
  | 0, _, l, s => (l, s)
  | n + 1, i, l, s => if s.err.isNil = true then rSeq rd n (i + 1) (l ++ [(rd i s).1]) (rd i s).2 else (l, s)
theorem rSeq_len {rd : Nat → Rs → α × Rs} : ∀ (n i : Nat) (l : List α) (s : Rs), (rSeq rd n i l s).1.length ≤ l.length + n
  | 0, i, l, s => by simp [rSeq]
  | n + 1, i, l, s => by
    rw [rSeq]
    split
    · have := rSeq_len (rd := rd) n (i + 1) (l ++ [(rd i s).1]) (rd i s).2
      simp only [List.length_append, List.length_cons, List.length_nil] at this
      omega
    · simp
end
theorem rInstr_at {b : List Int} (s : Rs) (h : s.at_ ≤ b.length) : (rInstr b s).2.at_ ≤ b.length :=
  rNumber_at _ (rNumber_at _ (rNums_at (fun s h => rNumber_at s h) _ (rNums_at (fun s h => rNumber_at s h) _ (rNumber_at _ (rByte_at s h)))))
theorem rView_at {b : List Int} (s : Rs) (h : s.at_ ≤ b.length) : (rView b s).2.at_ ≤ b.length := rDesc_at _ (rNumber_at s h)
theorem rConst_at {b : List Int} (i : Nat) (s : Rs) (h : s.at_ ≤ b.length) : (rConst b i s).2.at_ ≤ b.length := rTensor_at _ s h
section
variable {G : Nat → Option Value} {bk : Nat → Nat × Nat} {Q : Exit → St → Prop} {st : St} {b : List Int}
theorem instr93 (hS : Sent G bk) (hB : byteL b) (hl : b.length < 2 ^ 40) (s : Rs) (ha : s.at_ ≤ b.length) : ACallsX pg G F_plan_Reader_instr [rdAV bk b s] (.agg (eI (rInstr b s).1)) [(0, rdAV bk b (rInstr b s).2)] := by
  refine plan_Reader_instr_callX (pins := [0]) (by kernel_rfl) rfl rfl (by simp [go_sem]) rfl ?_
  have a1 := rByte_at s ha
  have a2 := rNumber_at _ a1
  have a3 := rNums_at (b := b) (rd := rNumber b) (fun s h => rNumber_at s h) _ a2
  have a4 := rNums_at (b := b) (rd := rNumber b) (fun s h => rNumber_at s h) _ a3
  have a5 := rNumber_at _ a4
  simp (disch := omega) [go_sem, plan_Reader_instr_c]
  refine clx_same (byte84 hS hB hl s ha) rfl rfl rfl (by simp (disch := omega) [go_sem]) ?_
  simp (disch := omega) [go_sem]
  refine clx_same (number86 hS hB hl _ a1) rfl rfl rfl (by simp (disch := omega) [go_sem]) ?_
  simp (disch := omega) [go_sem]
  refine clx_same (numbers85 hS hB hl (reads86 hS hB hl) _ a2) rfl rfl rfl (by simp (disch := omega) [go_sem]) ?_
  simp (disch := omega) [go_sem]
  refine clx_same (numbers85 hS hB hl (reads86 hS hB hl) _ a3) rfl rfl rfl (by simp (disch := omega) [go_sem]) ?_
  simp (disch := omega) [go_sem]
  refine clx_same (number86 hS hB hl _ a4) rfl rfl rfl (by simp (disch := omega) [go_sem]) ?_
  simp (disch := omega) [go_sem]
  refine clx_same (number86 hS hB hl _ a5) rfl rfl rfl (by simp (disch := omega) [go_sem]) ?_
  simp (disch := omega) [go_sem, rInstr, eI]
end
end Go.Ideal.Tryd
end

section
set_option linter.unusedVariables false
set_option linter.unusedSimpArgs false
set_option maxRecDepth 10000
namespace Go.Ideal.Tryd
theorem fmV_one (n : Vw) : fm eV [n] = [li n.off, slI n.shape, lb n.wide] := by simp [fm, eV]
theorem fmT_one (n : Tn) : fm eT [n] = [slI n.shape, lb n.wide, slI n.data] := by simp [fm, eT]
theorem fmD_one (n : Ds) : fm eD [n] = [slI n.shape, lb n.wide] := by simp [fm, eD]
theorem fmI_one (n : In) : fm eI [n] = [li n.op, li n.dst, slI n.ins, slI n.args, li n.frm, li n.to] := by simp [fm, eI]
section
variable {G : Nat → Option Value} {bk : Nat → Nat × Nat} {Q : Exit → St → Prop} {st : St} {b : List Int}
theorem pread_l0 (hS : Sent G bk) (hB : byteL b) (hl : b.length < 2 ^ 40) {n : Nat} (hn : n ≤ 2048) {s0 : Rs} {sz : Int} (ha : s0.at_ ≤ b.length) (h : st.s 2 = .var [li 0, .own 3 0 [], .own 3 0 [], .own 2 0 [], .own 6 0 [], li 0, li 0] ∧ st.s 3 = .lit .nilIface ∧ st.s 4 = rdAV bk b s0 ∧ st.s 5 = .var [li sz, .own 3 (([] : List Vw)).length (fm eV ([] : List Vw)), .own 3 (([] : List Tn)).length (fm eT ([] : List Tn)), .own 2 (([] : List Ds)).length (fm eD ([] : List Ds)), .own 6 (([] : List In)).length (fm eI ([] : List In)), li 0, li 0] ∧ st.s 6 = li n)
    (hex : ∀ s, (rSeq (fun i s => rView b s) n 0 [] s0).2.at_ ≤ b.length → s.s 2 = .var [li 0, .own 3 0 [], .own 3 0 [], .own 2 0 [], .own 6 0 [], li 0, li 0] ∧ s.s 3 = .lit .nilIface ∧ s.s 4 = rdAV bk b (rSeq (fun i s => rView b s) n 0 [] s0).2 ∧ s.s 5 = .var [li sz, .own 3 ((rSeq (fun i s => rView b s) n 0 [] s0).1).length (fm eV (rSeq (fun i s => rView b s) n 0 [] s0).1), .own 3 (([] : List Tn)).length (fm eT ([] : List Tn)), .own 2 (([] : List Ds)).length (fm eD ([] : List Ds)), .own 6 (([] : List In)).length (fm eI ([] : List In)), li 0, li 0] → Q (.exit 0) s) : AW pg G 128 (.loop plan_Read_l0) Q st := by
  refine aw_loop (Nat × Nat × List Vw × Rs) (fun p st => p.1 + p.2.1 = n ∧ p.2.2.1.length = p.2.1 ∧ p.2.2.2.at_ ≤ b.length ∧ rSeq (fun i s => rView b s) p.1 p.2.1 p.2.2.1 p.2.2.2 = rSeq (fun i s => rView b s) n 0 [] s0 ∧ st.s 2 = .var [li 0, .own 3 0 [], .own 3 0 [], .own 2 0 [], .own 6 0 [], li 0, li 0] ∧ st.s 3 = .lit .nilIface ∧ st.s 4 = rdAV bk b p.2.2.2 ∧ st.s 5 = .var [li sz, .own 3 (p.2.2.1).length (fm eV p.2.2.1), .own 3 (([] : List Tn)).length (fm eT ([] : List Tn)), .own 2 (([] : List Ds)).length (fm eD ([] : List Ds)), .own 6 (([] : List In)).length (fm eI ([] : List In)), li 0, li 0] ∧ st.s 6 = li p.1) (fun p => p.1) (n, 0, [], s0) ⟨by simp, rfl, ha, rfl, by simp (disch := omega) [go_sem, h]⟩ ?_
  clear h
  rintro ⟨k, i, l, s⟩ st K ⟨hi, hlen, ha, hm, h⟩ hK
  simp only at hi hlen ha hm h
  cases k with
  | zero =>
    rw [rSeq] at hm
    simp (disch := omega) [go_sem, plan_Read_l0, h]
    exact hex _ (by rw [← hm]; exact ha) (by rw [← hm]; simp (disch := omega) [go_sem, h])
  | succ k =>
    rw [rSeq] at hm
    have hpos : (0 : Int) < ((k + 1 : Nat) : Int) := by omega
    cases he : s.err.isNil with
    | false =>
      rw [he] at hm
      simp only [Bool.false_eq_true, if_false] at hm
      simp (disch := omega) [go_sem, plan_Read_l0, h, hpos, he]
      exact hex _ (by rw [← hm]; exact ha) (by rw [← hm]; simp (disch := omega) [go_sem, h])
    | true =>
      rw [he] at hm
      simp only [if_true] at hm
      have a1 := rNumber_at (b := b) s ha
      have a2 := rView_at (b := b) s ha
      simp (disch := omega) [go_sem, plan_Read_l0, h, hpos, he]
      refine clx_same (number86 hS hB hl s ha) rfl rfl rfl (by simp (disch := omega) [go_sem, h]) ?_
      simp (disch := omega) [go_sem, h]
      refine aw_drawV [(4, st.ep 4)] (by simp) (by simp (disch := omega) [go_sem, h]) ?_
      simp (disch := omega) [go_sem, h]
      refine dCx_i (fs := []) (cs := []) (L := [(4, 0)]) [4, 41] (desc92 hS hB hl _ a1) rfl (by simp (disch := omega) [go_sem, h]) ?_
      simp (disch := omega) [go_sem, h, eD]
      refine dFin_i (by decide) fun s2 hs hep => ?_
      simp (disch := omega) [go_sem, hs, hep, h]
      refine hK (k, i + 1, l ++ [(rView b s).1], (rView b s).2) _ ⟨by simp only; omega, by simp only [List.length_append, List.length_cons, List.length_nil]; omega, a2, hm, by simp (disch := omega) [go_sem, hs, hep, h, fm_app, fmV_one, rView]⟩ (by simp only; omega)
theorem pread_l1 (hS : Sent G bk) (hB : byteL b) (hl : b.length < 2 ^ 40) {n : Nat} (hn : n ≤ 2048) {s0 : Rs} {sz : Int} {vs : List Vw} (hvs : vs.length < 2 ^ 20) (ha : s0.at_ ≤ b.length) (h : st.s 2 = .var [li 0, .own 3 0 [], .own 3 0 [], .own 2 0 [], .own 6 0 [], li 0, li 0] ∧ st.s 3 = .lit .nilIface ∧ st.s 4 = rdAV bk b s0 ∧ st.s 5 = .var [li sz, .own 3 (vs).length (fm eV vs), .own 3 (([] : List Tn)).length (fm eT ([] : List Tn)), .own 2 (([] : List Ds)).length (fm eD ([] : List Ds)), .own 6 (([] : List In)).length (fm eI ([] : List In)), li 0, li 0] ∧ st.s 8 = li (0 : Nat) ∧ st.s 9 = li n)
    (hex : ∀ s, (rSeq (fun i s => rConst b i s) n 0 [] s0).2.at_ ≤ b.length → s.s 2 = .var [li 0, .own 3 0 [], .own 3 0 [], .own 2 0 [], .own 6 0 [], li 0, li 0] ∧ s.s 3 = .lit .nilIface ∧ s.s 4 = rdAV bk b (rSeq (fun i s => rConst b i s) n 0 [] s0).2 ∧ s.s 5 = .var [li sz, .own 3 (vs).length (fm eV vs), .own 3 (((rSeq (fun i s => rConst b i s) n 0 [] s0).1)).length (fm eT ((rSeq (fun i s => rConst b i s) n 0 [] s0).1)), .own 2 (([] : List Ds)).length (fm eD ([] : List Ds)), .own 6 (([] : List In)).length (fm eI ([] : List In)), li 0, li 0] → Q (.exit 2) s) : AW pg G 128 (.loop plan_Read_l1) Q st := by
  refine aw_loop (Nat × Nat × List Tn × Rs) (fun p st => p.1 + p.2.1 = n ∧ p.2.2.1.length = p.2.1 ∧ p.2.2.2.at_ ≤ b.length ∧ rSeq (fun i s => rConst b i s) p.1 p.2.1 p.2.2.1 p.2.2.2 = rSeq (fun i s => rConst b i s) n 0 [] s0 ∧ st.s 2 = .var [li 0, .own 3 0 [], .own 3 0 [], .own 2 0 [], .own 6 0 [], li 0, li 0] ∧ st.s 3 = .lit .nilIface ∧ st.s 4 = rdAV bk b p.2.2.2 ∧ st.s 5 = .var [li sz, .own 3 (vs).length (fm eV vs), .own 3 ((p.2.2.1)).length (fm eT (p.2.2.1)), .own 2 (([] : List Ds)).length (fm eD ([] : List Ds)), .own 6 (([] : List In)).length (fm eI ([] : List In)), li 0, li 0] ∧ st.s 8 = li p.2.1 ∧ st.s 9 = li n) (fun p => p.1) (n, 0, [], s0) ⟨by simp, rfl, ha, rfl, by simp (disch := omega) [go_sem, h]⟩ ?_
  clear h
  rintro ⟨k, i, l, s⟩ st K ⟨hi, hlen, ha, hm, h⟩ hK
  simp only at hi hlen ha hm h
  cases k with
  | zero =>
    rw [rSeq] at hm
    have hlt : ¬ (i : Int) < n := by omega
    simp (disch := omega) [go_sem, plan_Read_l1, h, hlt]
    exact hex _ (by rw [← hm]; exact ha) (by rw [← hm]; simp (disch := omega) [go_sem, h])
  | succ k =>
    rw [rSeq] at hm
    have hpos : (i : Int) < n := by omega
    cases he : s.err.isNil with
    | false =>
      rw [he] at hm
      simp only [Bool.false_eq_true, if_false] at hm
      simp (disch := omega) [go_sem, plan_Read_l1, h, hpos, he]
      exact hex _ (by rw [← hm]; exact ha) (by rw [← hm]; simp (disch := omega) [go_sem, h])
    | true =>
      rw [he] at hm
      simp only [if_true] at hm
      have a2 := rConst_at (b := b) i s ha
      simp (disch := omega) [go_sem, plan_Read_l1, h, hpos, he]
      refine aw_drawV [(4, st.ep 4)] (by simp) (by simp (disch := omega) [go_sem, h]) ?_
      simp (disch := omega) [go_sem, h]
      refine dCx_i (fs := []) (cs := []) (L := [(4, 0)]) [4, 65, 66] (tensor87 hS hB hl i s ha) rfl (by simp (disch := omega) [go_sem, h]) ?_
      simp (disch := omega) [go_sem, h]
      refine dFin_i (by decide) fun s2 hs hep => ?_
      simp (disch := omega) [go_sem, hs, hep, h]
      refine hK (k, i + 1, l ++ [(rConst b i s).1], (rConst b i s).2) _ ⟨by simp only; omega, by simp only [List.length_append, List.length_cons, List.length_nil]; omega, a2, hm, by simp (disch := omega) [go_sem, hs, hep, h, fm_app, fmT_one, rConst]⟩ (by simp only; omega)
theorem pread_l2 (hS : Sent G bk) (hB : byteL b) (hl : b.length < 2 ^ 40) {n : Nat} (hn : n ≤ 2048) {s0 : Rs} {sz : Int} {vs : List Vw} {cs : List Tn} (hvs : vs.length < 2 ^ 20) (hcs : cs.length < 2 ^ 20) (ha : s0.at_ ≤ b.length) (h : st.s 2 = .var [li 0, .own 3 0 [], .own 3 0 [], .own 2 0 [], .own 6 0 [], li 0, li 0] ∧ st.s 3 = .lit .nilIface ∧ st.s 4 = rdAV bk b s0 ∧ st.s 5 = .var [li sz, .own 3 (vs).length (fm eV vs), .own 3 (cs).length (fm eT cs), .own 2 (([] : List Ds)).length (fm eD ([] : List Ds)), .own 6 (([] : List In)).length (fm eI ([] : List In)), li 0, li 0] ∧ st.s 10 = li n)
    (hex : ∀ s, (rSeq (fun i s => rDesc b s) n 0 [] s0).2.at_ ≤ b.length → s.s 2 = .var [li 0, .own 3 0 [], .own 3 0 [], .own 2 0 [], .own 6 0 [], li 0, li 0] ∧ s.s 3 = .lit .nilIface ∧ s.s 4 = rdAV bk b (rSeq (fun i s => rDesc b s) n 0 [] s0).2 ∧ s.s 5 = .var [li sz, .own 3 (vs).length (fm eV vs), .own 3 (cs).length (fm eT cs), .own 2 (((rSeq (fun i s => rDesc b s) n 0 [] s0).1)).length (fm eD ((rSeq (fun i s => rDesc b s) n 0 [] s0).1)), .own 6 (([] : List In)).length (fm eI ([] : List In)), li 0, li 0] → Q (.exit 4) s) : AW pg G 128 (.loop plan_Read_l2) Q st := by
  refine aw_loop (Nat × Nat × List Ds × Rs) (fun p st => p.1 + p.2.1 = n ∧ p.2.2.1.length = p.2.1 ∧ p.2.2.2.at_ ≤ b.length ∧ rSeq (fun i s => rDesc b s) p.1 p.2.1 p.2.2.1 p.2.2.2 = rSeq (fun i s => rDesc b s) n 0 [] s0 ∧ st.s 2 = .var [li 0, .own 3 0 [], .own 3 0 [], .own 2 0 [], .own 6 0 [], li 0, li 0] ∧ st.s 3 = .lit .nilIface ∧ st.s 4 = rdAV bk b p.2.2.2 ∧ st.s 5 = .var [li sz, .own 3 (vs).length (fm eV vs), .own 3 (cs).length (fm eT cs), .own 2 ((p.2.2.1)).length (fm eD (p.2.2.1)), .own 6 (([] : List In)).length (fm eI ([] : List In)), li 0, li 0] ∧ st.s 10 = li p.1) (fun p => p.1) (n, 0, [], s0) ⟨by simp, rfl, ha, rfl, by simp (disch := omega) [go_sem, h]⟩ ?_
  clear h
  rintro ⟨k, i, l, s⟩ st K ⟨hi, hlen, ha, hm, h⟩ hK
  simp only at hi hlen ha hm h
  cases k with
  | zero =>
    rw [rSeq] at hm
    have hlt : True := trivial
    simp (disch := omega) [go_sem, plan_Read_l2, h, hlt]
    exact hex _ (by rw [← hm]; exact ha) (by rw [← hm]; simp (disch := omega) [go_sem, h])
  | succ k =>
    rw [rSeq] at hm
    have hpos : (0 : Int) < ((k + 1 : Nat) : Int) := by omega
    cases he : s.err.isNil with
    | false =>
      rw [he] at hm
      simp only [Bool.false_eq_true, if_false] at hm
      simp (disch := omega) [go_sem, plan_Read_l2, h, hpos, he]
      exact hex _ (by rw [← hm]; exact ha) (by rw [← hm]; simp (disch := omega) [go_sem, h])
    | true =>
      rw [he] at hm
      simp only [if_true] at hm
      have a2 := rDesc_at (b := b) s ha
      simp (disch := omega) [go_sem, plan_Read_l2, h, hpos, he]
      refine aw_drawV [(4, st.ep 4)] (by simp) (by simp (disch := omega) [go_sem, h]) ?_
      simp (disch := omega) [go_sem, h]
      refine dCx_i (fs := []) (cs := []) (L := [(4, 0)]) [4, 88] (desc92 hS hB hl s ha) rfl (by simp (disch := omega) [go_sem, h]) ?_
      simp (disch := omega) [go_sem, h, eD]
      refine dFin_i (by decide) fun s2 hs hep => ?_
      simp (disch := omega) [go_sem, hs, hep, h]
      refine hK (k, i + 1, l ++ [(rDesc b s).1], (rDesc b s).2) _ ⟨by simp only; omega, by simp only [List.length_append, List.length_cons, List.length_nil]; omega, a2, hm, by simp (disch := omega) [go_sem, hs, hep, h, fm_app, fmD_one]⟩ (by simp only; omega)
theorem pread_l3 (hS : Sent G bk) (hB : byteL b) (hl : b.length < 2 ^ 40) {n : Nat} (hn : n ≤ 2048) {s0 : Rs} {sz : Int} {vs : List Vw} {cs : List Tn} {ws : List Ds} (hvs : vs.length < 2 ^ 20) (hcs : cs.length < 2 ^ 20) (hws : ws.length < 2 ^ 20) (ha : s0.at_ ≤ b.length) (h : st.s 2 = .var [li 0, .own 3 0 [], .own 3 0 [], .own 2 0 [], .own 6 0 [], li 0, li 0] ∧ st.s 3 = .lit .nilIface ∧ st.s 4 = rdAV bk b s0 ∧ st.s 5 = .var [li sz, .own 3 (vs).length (fm eV vs), .own 3 (cs).length (fm eT cs), .own 2 (ws).length (fm eD ws), .own 6 (([] : List In)).length (fm eI ([] : List In)), li 0, li 0] ∧ st.s 11 = li n)
    (hex : ∀ s, (rSeq (fun i s => rInstr b s) n 0 [] s0).2.at_ ≤ b.length → s.s 2 = .var [li 0, .own 3 0 [], .own 3 0 [], .own 2 0 [], .own 6 0 [], li 0, li 0] ∧ s.s 3 = .lit .nilIface ∧ s.s 4 = rdAV bk b (rSeq (fun i s => rInstr b s) n 0 [] s0).2 ∧ s.s 5 = .var [li sz, .own 3 (vs).length (fm eV vs), .own 3 (cs).length (fm eT cs), .own 2 (ws).length (fm eD ws), .own 6 (((rSeq (fun i s => rInstr b s) n 0 [] s0).1)).length (fm eI ((rSeq (fun i s => rInstr b s) n 0 [] s0).1)), li 0, li 0] → Q (.exit 6) s) : AW pg G 128 (.loop plan_Read_l3) Q st := by
  refine aw_loop (Nat × Nat × List In × Rs) (fun p st => p.1 + p.2.1 = n ∧ p.2.2.1.length = p.2.1 ∧ p.2.2.2.at_ ≤ b.length ∧ rSeq (fun i s => rInstr b s) p.1 p.2.1 p.2.2.1 p.2.2.2 = rSeq (fun i s => rInstr b s) n 0 [] s0 ∧ st.s 2 = .var [li 0, .own 3 0 [], .own 3 0 [], .own 2 0 [], .own 6 0 [], li 0, li 0] ∧ st.s 3 = .lit .nilIface ∧ st.s 4 = rdAV bk b p.2.2.2 ∧ st.s 5 = .var [li sz, .own 3 (vs).length (fm eV vs), .own 3 (cs).length (fm eT cs), .own 2 (ws).length (fm eD ws), .own 6 ((p.2.2.1)).length (fm eI (p.2.2.1)), li 0, li 0] ∧ st.s 11 = li p.1) (fun p => p.1) (n, 0, [], s0) ⟨by simp, rfl, ha, rfl, by simp (disch := omega) [go_sem, h]⟩ ?_
  clear h
  rintro ⟨k, i, l, s⟩ st K ⟨hi, hlen, ha, hm, h⟩ hK
  simp only at hi hlen ha hm h
  cases k with
  | zero =>
    rw [rSeq] at hm
    have hlt : True := trivial
    simp (disch := omega) [go_sem, plan_Read_l3, h, hlt]
    exact hex _ (by rw [← hm]; exact ha) (by rw [← hm]; simp (disch := omega) [go_sem, h])
  | succ k =>
    rw [rSeq] at hm
    have hpos : (0 : Int) < ((k + 1 : Nat) : Int) := by omega
    cases he : s.err.isNil with
    | false =>
      rw [he] at hm
      simp only [Bool.false_eq_true, if_false] at hm
      simp (disch := omega) [go_sem, plan_Read_l3, h, hpos, he]
      exact hex _ (by rw [← hm]; exact ha) (by rw [← hm]; simp (disch := omega) [go_sem, h])
    | true =>
      rw [he] at hm
      simp only [if_true] at hm
      have a2 := rInstr_at (b := b) s ha
      simp (disch := omega) [go_sem, plan_Read_l3, h, hpos, he]
      refine aw_drawV [(4, st.ep 4)] (by simp) (by simp (disch := omega) [go_sem, h]) ?_
      simp (disch := omega) [go_sem, h]
      refine dCx_i (fs := []) (cs := []) (L := [(4, 0)]) [4, 110] (instr93 hS hB hl s ha) rfl (by simp (disch := omega) [go_sem, h]) ?_
      simp (disch := omega) [go_sem, h, eI]
      refine dFin_i (by decide) fun s2 hs hep => ?_
      simp (disch := omega) [go_sem, hs, hep, h]
      refine hK (k, i + 1, l ++ [(rInstr b s).1], (rInstr b s).2) _ ⟨by simp only; omega, by simp only [List.length_append, List.length_cons, List.length_nil]; omega, a2, hm, by simp (disch := omega) [go_sem, hs, hep, h, fm_app, fmI_one]⟩ (by simp only; omega)
end
end Go.Ideal.Tryd
end

section
set_option linter.unusedVariables false
set_option linter.unusedSimpArgs false
set_option maxRecDepth 10000
namespace Go.Ideal.Tryd
def rP5 (b : List Int) (sz : Int) (vs : List Vw) (cs : List Tn) (ws : List Ds) (is : List In) (s : Rs) : Pl × Rs := (⟨sz, vs, cs, ws, is, (rNumber b s).1, (rNumber b (rNumber b s).2).1⟩, (rNumber b (rNumber b s).2).2)
def rP4 (b : List Int) (sz : Int) (vs : List Vw) (cs : List Tn) (ws : List Ds) (s : Rs) : Pl × Rs :=
  rP5 b sz vs cs ws (rSeq (fun i s => rInstr b s) (rFew 2048 (rCount b) s).1.toNat 0 [] (rFew 2048 (rCount b) s).2).1 (rSeq (fun i s => rInstr b s) (rFew 2048 (rCount b) s).1.toNat 0 [] (rFew 2048 (rCount b) s).2).2
def rP3 (b : List Int) (sz : Int) (vs : List Vw) (cs : List Tn) (s : Rs) : Pl × Rs :=
  rP4 b sz vs cs (rSeq (fun i s => rDesc b s) (rFew 8 (rCount b) s).1.toNat 0 [] (rFew 8 (rCount b) s).2).1 (rSeq (fun i s => rDesc b s) (rFew 8 (rCount b) s).1.toNat 0 [] (rFew 8 (rCount b) s).2).2
def rP2 (b : List Int) (sz : Int) (vs : List Vw) (s : Rs) : Pl × Rs :=
  rP3 b sz vs (rSeq (fun i s => rConst b i s) (rFew 64 (rCount b) s).1.toNat 0 [] (rFew 64 (rCount b) s).2).1 (rSeq (fun i s => rConst b i s) (rFew 64 (rCount b) s).1.toNat 0 [] (rFew 64 (rCount b) s).2).2
def rP1 (b : List Int) (sz : Int) (s : Rs) : Pl × Rs :=
  rP2 b sz (rSeq (fun i s => rView b s) (rFew 128 (rCount b) s).1.toNat 0 [] (rFew 128 (rCount b) s).2).1 (rSeq (fun i s => rView b s) (rFew 128 (rCount b) s).1.toNat 0 [] (rFew 128 (rCount b) s).2).2
def rPRest (b : List Int) (s : Rs) : Pl × Rs := rP1 b (rNumber b s).1 (rNumber b s).2
def rPlan (b : List Int) : Pl × Er := if (rEnd b (rPRest b (rHead b 76 80 ⟨0, .nil⟩)).2).err.isNil = true then ((rPRest b (rHead b 76 80 ⟨0, .nil⟩)).1, .nil) else (⟨0, [], [], [], [], 0, 0⟩, (rEnd b (rPRest b (rHead b 76 80 ⟨0, .nil⟩)).2).err)
section
variable {G : Nat → Option Value} {bk : Nat → Nat × Nat} {Q : Exit → St → Prop} {st : St} {b : List Int}
theorem few_facts (hB : byteL b) (most : Int) (hm : 0 ≤ most) (s : Rs) (ha : s.at_ ≤ b.length) : ∃ n : Nat, (rFew most (rCount b) s).1 = n ∧ (n : Int) ≤ most ∧ (rFew most (rCount b) s).2.at_ ≤ b.length := by
  have h := rFew_rng (most := most) (rd := rCount b) (fun s => (rCount_rng hB s).1) hm s
  obtain ⟨n, hn⟩ := Int.eq_ofNat_of_zero_le h.1
  exact ⟨n, hn, by omega, rFew_at (fun s h => rCount_at s h) s ha⟩
theorem pread42 (hS : Sent G bk) (hB : byteL b) (hl : b.length < 2 ^ 40) : ACalls pg G F_plan_Read [slU b] (.tup [.agg (eP (rPlan b).1), encE bk (rPlan b).2]) := by
  refine plan_Read_call rfl ?_
  have h0 := rHead_at (b := b) (p := 76) (q := 80) (s := ⟨0, .nil⟩) (by simp)
  have c1 := head81 (bk := bk) hS hB hl 76 80 ⟨0, .nil⟩
  unfold rPlan rPRest
  generalize rHead b 76 80 ⟨0, .nil⟩ = s0 at *
  have c2 := number86 (G := G) (bk := bk) hS hB hl s0 h0
  have a2 := rNumber_at (b := b) s0 h0
  generalize rNumber b s0 = p1 at *
  obtain ⟨sz, s1⟩ := p1
  simp only at c2 a2 ⊢
  simp (disch := omega) [go_sem, plan_Read_c]
  refine clx_same c1 rfl rfl rfl (by simp (disch := omega) [go_sem]) ?_
  simp (disch := omega) [go_sem]
  refine clx_same c2 rfl rfl rfl (by simp (disch := omega) [go_sem]) ?_
  simp (disch := omega) [go_sem]
  unfold rP1
  obtain ⟨n1, e1, m1, q1⟩ := few_facts hB 128 (by omega) s1 a2
  have w1 := few82 hS hl (reads83 (G := G) (bk := bk) hS hB hl) 128 s1 a2
  generalize rFew 128 (rCount b) s1 = f1 at *
  obtain ⟨g1, t1⟩ := f1
  simp only at e1 m1 q1 w1 ⊢
  subst e1
  have v1 := rSeq_len (rd := (fun i s => rView b s)) n1 0 [] t1
  have at1 := fun (Q : Exit → St → Prop) (st : St) => pread_l0 (Q := Q) (st := st) (G := G) (bk := bk) hS hB hl (n := n1) (s0 := t1) (sz := sz) (by omega) q1
  simp only [Int.toNat_natCast] at v1 at1 ⊢
  generalize rSeq (fun i s => rView b s) n1 0 [] t1 = r1 at *
  obtain ⟨vs, s2⟩ := r1
  simp only [List.length_nil] at v1 at1 ⊢
  refine clx_same w1 rfl rfl rfl (by simp (disch := omega) [go_sem]) ?_
  simp (disch := omega) [go_sem]
  refine at1 _ _ (by simp (disch := omega) [go_sem, fm]) fun s a3 h => ?_
  simp (disch := omega) [go_sem, h]
  unfold rP2
  obtain ⟨n2, e2, m2, q2⟩ := few_facts hB 64 (by omega) s2 a3
  have w2 := few82 hS hl (reads83 (G := G) (bk := bk) hS hB hl) 64 s2 a3
  generalize rFew 64 (rCount b) s2 = f2 at *
  obtain ⟨g2, t2⟩ := f2
  simp only at e2 m2 q2 w2 ⊢
  subst e2
  have v2 := rSeq_len (rd := (fun i s => rConst b i s)) n2 0 [] t2
  have at2 := fun (Q : Exit → St → Prop) (st : St) => pread_l1 (Q := Q) (vs := vs) (st := st) (G := G) (bk := bk) hS hB hl (n := n2) (s0 := t2) (sz := sz) (by omega) (by omega) q2
  simp only [Int.toNat_natCast] at v2 at2 ⊢
  generalize rSeq (fun i s => rConst b i s) n2 0 [] t2 = r2 at *
  obtain ⟨cs, s3⟩ := r2
  simp only [List.length_nil] at v2 at2 ⊢
  refine clx_same w2 rfl rfl rfl (by simp (disch := omega) [go_sem, h]) ?_
  simp (disch := omega) [go_sem, h]
  refine at2 _ _ (by simp (disch := omega) [go_sem, h, fm]) fun s a4 h => ?_
  simp (disch := omega) [go_sem, h]
  unfold rP3
  obtain ⟨n3, e3, m3, q3⟩ := few_facts hB 8 (by omega) s3 a4
  have w3 := few82 hS hl (reads83 (G := G) (bk := bk) hS hB hl) 8 s3 a4
  generalize rFew 8 (rCount b) s3 = f3 at *
  obtain ⟨g3, t3⟩ := f3
  simp only at e3 m3 q3 w3 ⊢
  subst e3
  have v3 := rSeq_len (rd := (fun i s => rDesc b s)) n3 0 [] t3
  have at3 := fun (Q : Exit → St → Prop) (st : St) => pread_l2 (Q := Q) (vs := vs) (cs := cs) (st := st) (G := G) (bk := bk) hS hB hl (n := n3) (s0 := t3) (sz := sz) (by omega) (by omega) (by omega) q3
  simp only [Int.toNat_natCast] at v3 at3 ⊢
  generalize rSeq (fun i s => rDesc b s) n3 0 [] t3 = r3 at *
  obtain ⟨ws, s4⟩ := r3
  simp only [List.length_nil] at v3 at3 ⊢
  refine clx_same w3 rfl rfl rfl (by simp (disch := omega) [go_sem, h]) ?_
  simp (disch := omega) [go_sem, h]
  refine at3 _ _ (by simp (disch := omega) [go_sem, h, fm]) fun s a5 h => ?_
  simp (disch := omega) [go_sem, h]
  unfold rP4
  obtain ⟨n4, e4, m4, q4⟩ := few_facts hB 2048 (by omega) s4 a5
  have w4 := few82 hS hl (reads83 (G := G) (bk := bk) hS hB hl) 2048 s4 a5
  generalize rFew 2048 (rCount b) s4 = f4 at *
  obtain ⟨g4, t4⟩ := f4
  simp only at e4 m4 q4 w4 ⊢
  subst e4
  have v4 := rSeq_len (rd := (fun i s => rInstr b s)) n4 0 [] t4
  have at4 := fun (Q : Exit → St → Prop) (st : St) => pread_l3 (Q := Q) (vs := vs) (cs := cs) (ws := ws) (st := st) (G := G) (bk := bk) hS hB hl (n := n4) (s0 := t4) (sz := sz) (by omega) (by omega) (by omega) (by omega) q4
  simp only [Int.toNat_natCast] at v4 at4 ⊢
  generalize rSeq (fun i s => rInstr b s) n4 0 [] t4 = r4 at *
  obtain ⟨is, s5⟩ := r4
  simp only [List.length_nil] at v4 at4 ⊢
  refine clx_same w4 rfl rfl rfl (by simp (disch := omega) [go_sem, h]) ?_
  simp (disch := omega) [go_sem, h]
  refine at4 _ _ (by simp (disch := omega) [go_sem, h, fm]) fun s a6 h => ?_
  simp (disch := omega) [go_sem, h]
  have a7 := rNumber_at (b := b) s5 a6
  refine clx_same (number86 hS hB hl s5 a6) rfl rfl rfl (by simp (disch := omega) [go_sem, h]) ?_
  simp (disch := omega) [go_sem, h]
  refine clx_same (number86 hS hB hl _ a7) rfl rfl rfl (by simp (disch := omega) [go_sem, h]) ?_
  simp (disch := omega) [go_sem, h]
  refine clx_same (end88 hS hl _ (rNumber_at (b := b) _ a7)) (encE_noRef _) rfl rfl (by simp (disch := omega) [go_sem, h]) ?_
  unfold rP5
  cases he : (rEnd b (rNumber b (rNumber b s5).2).2).err.isNil with
  | true =>
    simp (disch := omega) [go_sem, h, he, encE, eP]
  | false =>
    simp (disch := omega) [go_sem, h, he, eP, fm]
end
end Go.Ideal.Tryd
end

section
set_option linter.unusedVariables false
set_option linter.unusedSimpArgs false
namespace Go.Ideal.Tryd
/-! ### plans, as they are written -/
instance : Inhabited Ds := ⟨⟨[], false⟩⟩
instance : Inhabited Tn := ⟨⟨[], false, []⟩⟩
instance : Inhabited Vw := ⟨⟨0, [], false⟩⟩
instance : Inhabited In := ⟨⟨0, 0, [], [], 0, 0⟩⟩
theorem fmt_descByte : Fmt (fun b s => ((rByte b s).1, rDescS b s)) (fun x => 0 ≤ x ∧ x ≤ 15) (fun x => [x]) where
  keep := fun b s h => by
    have := fmt_byte.keep b s h
    simp only
    unfold rDescS
    rw [this, if_neg (by rw [h]; simp)]
  comp := fun b a v r h1 h2 => by
    have := fmt_byte.comp b a v r ⟨h1.1, by omega⟩ h2
    unfold rDescS
    rw [this, if_neg (by simp only; omega)]
  short := fun b a v r h1 h2 h3 h4 => by
    have := fmt_byte.short b a v r ⟨h1.1, by omega⟩ h2 h3 h4
    simp only
    unfold rDescS
    rw [if_neg (by rw [not_nil_s4 this]; simp)]
    exact this
  sound := fun b a h1 h2 h3 => by
    simp only at h3 ⊢
    unfold rDescS at h3 ⊢
    by_cases hc : (rByte b ⟨a, .nil⟩).2.err.isNil = true ∧ 16 ≤ (rByte b ⟨a, .nil⟩).1
    · rw [if_pos hc] at h3
      exact absurd h3 (rdBad_nn hc.1 rfl)
    · rw [if_neg hc] at h3 ⊢
      obtain ⟨g1, g2, g3⟩ := fmt_byte.sound b a h1 h2 h3
      refine ⟨⟨g1.1, ?_⟩, g2, g3⟩
      have : ¬ 16 ≤ (rByte b ⟨a, .nil⟩).1 := fun hh => hc ⟨by rw [h3]; rfl, hh⟩
      omega
def dsOk (d : Ds) : Prop := d.shape.length ≤ 7 ∧ ∀ x ∈ d.shape, 0 ≤ x ∧ x ≤ 65535
theorem fmt_desc : Fmt rDesc dsOk (fun d => dBytes d.shape d.wide) := by
  refine ((fmt_descByte.pair (rd2 := fun x b s => rNumsL (rCount b) (low8 x).toNat [] s) (ok2 := fun x l => l.length = (low8 x).toNat ∧ ∀ y ∈ l, 0 ≤ y ∧ y ≤ 65535) (enc2 := fun x l => l.flatMap le2) (fun x => (fmt_dims (low8 x).toNat).keep) fun x _ => fmt_dims (low8 x).toNat).map (fun p => (⟨p.2, decide (p.1 / 8 % 2 = 1)⟩ : Ds)) (fun d => ((if d.wide = true then (d.shape.length : Int) + 8 else d.shape.length), d.shape)) fun p h => ?_).of (fun b s h => ?_) (fun b a => rfl) (fun v => ?_) fun v h => ?_
  · obtain ⟨x, l⟩ := p
    have h1 : (0 ≤ x ∧ x ≤ 15) ∧ l.length = (low8 x).toNat ∧ ∀ y ∈ l, 0 ≤ y ∧ y ≤ 65535 := h
    simp only [decide_eq_true_eq]
    rw [Prod.mk.injEq]
    refine ⟨?_, rfl⟩
    have := h1.2.1
    unfold low8 at this
    split at this <;> rename_i hk <;> simp only [hk, if_true, if_false] <;> omega
  · unfold rDesc
    have := fmt_descByte.keep b s h
    simp only at this ⊢
    rw [this]
    exact (fmt_dims _).keep b s h
  · obtain ⟨sh, w⟩ := v
    simp only [dsOk]
    have e1 : ∀ n : Nat, n ≤ 7 → low8 (if w = true then (n : Int) + 8 else n) = n := fun n hn => by
      unfold low8
      cases w <;> simp <;> omega
    constructor
    · rintro ⟨⟨⟨h1, h2⟩, h3, h4⟩, h5⟩
      refine ⟨?_, h4⟩
      generalize (if w = true then (sh.length : Int) + 8 else sh.length) = x at h1 h2 h3
      have : low8 x ≤ 7 := by unfold low8; split <;> omega
      omega
    · rintro ⟨h1, h2⟩
      refine ⟨⟨?_, by rw [e1 _ h1]; simp, h2⟩, ?_⟩
      · cases w <;> simp <;> omega
      · cases w <;> simp <;> omega
  · obtain ⟨sh, w⟩ := v
    have h1 : sh.length ≤ 7 := h.1
    simp only [dBytes, List.singleton_append, List.cons.injEq, and_true, u8_eq]
    cases w <;> simp <;> omega
theorem fmt_view : Fmt rView (fun v => (-2147483648 ≤ v.off ∧ v.off ≤ 2147483647) ∧ dsOk ⟨v.shape, v.wide⟩) (fun v => put1 true v.off ++ dBytes v.shape v.wide) :=
  ((fmt_number.pair (rd2 := fun _ => rDesc) (ok2 := fun _ => dsOk) (enc2 := fun _ d => dBytes d.shape d.wide) (fun _ => fmt_desc.keep) fun _ _ => fmt_desc).map (fun p => (⟨p.1, p.2.shape, p.2.wide⟩ : Vw)) (fun v => (v.off, ⟨v.shape, v.wide⟩)) fun p h => rfl).of
    (fun b s h => by unfold rView; simp only; rw [fmt_number.keep b s h]; exact fmt_desc.keep b s h) (fun b a => rfl) (fun v => by simp only [and_true]) fun v h => rfl
theorem fmt_const (i : Nat) : Fmt (fun b s => rConst b i s) (fun t => tvErr t.shape t.wide t.data = .nil) (fun t => tBytes t.shape t.wide t.data) :=
  ((fmt_tensor i).map (fun p => (⟨p.1, p.2.1, p.2.2⟩ : Tn)) (fun t => (t.shape, t.wide, t.data)) fun p h => rfl).of
    (fun b s h => by unfold rConst; exact (fmt_tensor i).keep b s h) (fun b a => rfl) (fun v => by simp only [and_true]) fun v h => rfl
def r32 (x : Int) : Prop := -2147483648 ≤ x ∧ x ≤ 2147483647
def inOk (i : In) : Prop := (0 ≤ i.op ∧ i.op ≤ 255) ∧ r32 i.dst ∧ (i.ins.length ≤ 8 ∧ ∀ x ∈ i.ins, r32 x) ∧ (i.args.length ≤ 8 ∧ ∀ x ∈ i.args, r32 x) ∧ r32 i.frm ∧ r32 i.to
def iBytes (i : In) : List Int := [i.op] ++ (put1 true i.dst ++ ((u8 i.ins.length :: i.ins.flatMap (put1 true)) ++ ((u8 i.args.length :: i.args.flatMap (put1 true)) ++ (put1 true i.frm ++ put1 true i.to))))
theorem fmt_instr : Fmt rInstr inOk iBytes := by
  have n := fmt_number
  have m := fmt_number.nums
  have f1 := n.pair (rd2 := fun _ => rNumber) (ok2 := fun _ x => r32 x) (enc2 := fun _ => put1 true) (fun _ => n.keep) fun _ _ => n
  have f2 := m.pair (rd2 := fun _ b s => _) (ok2 := fun _ => _) (enc2 := fun _ => _) (fun _ => f1.keep) fun _ _ => f1
  have f3 := m.pair (rd2 := fun _ b s => _) (ok2 := fun _ => _) (enc2 := fun _ => _) (fun _ => f2.keep) fun _ _ => f2
  have f4 := n.pair (rd2 := fun _ b s => _) (ok2 := fun _ => _) (enc2 := fun _ => _) (fun _ => f3.keep) fun _ _ => f3
  have f5 := fmt_byte.pair (rd2 := fun _ b s => _) (ok2 := fun _ => _) (enc2 := fun _ => _) (fun _ => f4.keep) fun _ _ => f4
  refine (f5.map (fun p => (⟨p.1, p.2.1, p.2.2.1, p.2.2.2.1, p.2.2.2.2.1, p.2.2.2.2.2⟩ : In)) (fun i => (i.op, i.dst, i.ins, i.args, i.frm, i.to)) fun p h => rfl).of (fun b s h => ?_) (fun b a => rfl) (fun v => ?_) fun v h => rfl
  · have k1 := fmt_byte.keep b s h
    have k2 := n.keep b s h
    have k3 := m.keep b s h
    unfold rInstr
    simp only [k1, k2, k3]
  · simp only [and_true]
    exact Iff.rfl
theorem rSeq_seq {α : Type} {rd : Nat → List Int → Rs → α × Rs} {b : List Int} : ∀ (n i : Nat) (l : List α) (s : Rs), rSeq (fun i s => rd i b s) n i l s = rdSeq rd b n i l s
  | 0, _, _, _ => rfl
  | n + 1, i, l, s => by rw [rSeq, rdSeq, rSeq_seq n (i + 1)]
/-- A count, at most so many, and these. -/
theorem Fmt.many {α : Type} [Inhabited α] {rd : Nat → List Int → Rs → α × Rs} {ok : α → Prop} {enc : α → List Int} (F : ∀ i, Fmt (rd i) ok enc) (most : Nat) (hm : most ≤ 65535) :
    Fmt (fun b s => rSeq (fun i s => rd i b s) (rFew most (rCount b) s).1.toNat 0 [] (rFew most (rCount b) s).2) (fun l => l.length ≤ most ∧ ∀ x ∈ l, ok x) (fun l => le2 l.length ++ l.flatMap enc) := by
  have fc := fmt_count.few most
  refine ((fc.pair (rd2 := fun m b s => rdSeq rd b m.toNat 0 [] s) (ok2 := fun m l => l.length = m.toNat ∧ ∀ x ∈ l, ok x) (enc2 := fun _ l => l.flatMap enc) (fun m b s h => by rw [rdSeq_keep h]) fun m _ => Fmt.loop F m.toNat 0).map (fun p => p.2) (fun l => ((l.length : Int), l)) fun p h => ?_).of (fun b s h => ?_) (fun b a => ?_) (fun v => ?_) fun v h => rfl
  · obtain ⟨m, l⟩ := p
    simp only at h ⊢
    rw [Prod.mk.injEq]
    exact ⟨by omega, rfl⟩
  · have := fc.keep b s h
    rw [this, rSeq_seq, rdSeq_keep h]
  · rw [rSeq_seq]
  · simp only [Int.toNat_natCast, and_true, true_and]
    constructor
    · intro h; exact ⟨by omega, h.2⟩
    · intro h; exact ⟨by omega, h.2⟩
def plOk (p : Pl) : Prop := r32 p.size ∧ (p.views.length ≤ 128 ∧ ∀ v ∈ p.views, r32 v.off ∧ dsOk ⟨v.shape, v.wide⟩) ∧ (p.consts.length ≤ 64 ∧ ∀ t ∈ p.consts, tvErr t.shape t.wide t.data = .nil) ∧ (p.weights.length ≤ 8 ∧ ∀ d ∈ p.weights, dsOk d) ∧ (p.code.length ≤ 2048 ∧ ∀ i ∈ p.code, inOk i) ∧ r32 p.input ∧ r32 p.output
def pEnc (p : Pl) : List Int := put1 true p.size ++ ((le2 p.views.length ++ p.views.flatMap fun v => put1 true v.off ++ dBytes v.shape v.wide) ++ ((le2 p.consts.length ++ p.consts.flatMap fun t => tBytes t.shape t.wide t.data) ++ ((le2 p.weights.length ++ p.weights.flatMap fun d => dBytes d.shape d.wide) ++ ((le2 p.code.length ++ p.code.flatMap iBytes) ++ (put1 true p.input ++ put1 true p.output)))))
theorem fmt_plan : Fmt rPRest plOk pEnc := by
  have n := fmt_number
  have fv := Fmt.many (fun _ => fmt_view) 128 (by omega)
  have fc := Fmt.many fmt_const 64 (by omega)
  have fw := Fmt.many (fun _ => fmt_desc) 8 (by omega)
  have fi := Fmt.many (fun _ => fmt_instr) 2048 (by omega)
  have f1 := n.pair (rd2 := fun _ => rNumber) (ok2 := fun _ x => r32 x) (enc2 := fun _ => put1 true) (fun _ => n.keep) fun _ _ => n
  have f2 := fi.pair (rd2 := fun _ b s => _) (ok2 := fun _ => _) (enc2 := fun _ => _) (fun _ => f1.keep) fun _ _ => f1
  have f3 := fw.pair (rd2 := fun _ b s => _) (ok2 := fun _ => _) (enc2 := fun _ => _) (fun _ => f2.keep) fun _ _ => f2
  have f4 := fc.pair (rd2 := fun _ b s => _) (ok2 := fun _ => _) (enc2 := fun _ => _) (fun _ => f3.keep) fun _ _ => f3
  have f5 := fv.pair (rd2 := fun _ b s => _) (ok2 := fun _ => _) (enc2 := fun _ => _) (fun _ => f4.keep) fun _ _ => f4
  have f6 := n.pair (rd2 := fun _ b s => _) (ok2 := fun _ => _) (enc2 := fun _ => _) (fun _ => f5.keep) fun _ _ => f5
  refine (f6.map (fun p => (⟨p.1, p.2.1, p.2.2.1, p.2.2.2.1, p.2.2.2.2.1, p.2.2.2.2.2.1, p.2.2.2.2.2.2⟩ : Pl)) (fun p => (p.size, p.views, p.consts, p.weights, p.code, p.input, p.output)) fun p h => rfl).of (fun b s h => ?_) (fun b a => rfl) (fun v => ?_) fun v h => rfl
  · have k1 := n.keep b s h
    have k2 : (rSeq (fun i s => rView b s) (rFew 128 (rCount b) s).1.toNat 0 [] (rFew 128 (rCount b) s).2).2 = s := fv.keep b s h
    have k3 : (rSeq (fun i s => rConst b i s) (rFew 64 (rCount b) s).1.toNat 0 [] (rFew 64 (rCount b) s).2).2 = s := fc.keep b s h
    have k4 : (rSeq (fun i s => rDesc b s) (rFew 8 (rCount b) s).1.toNat 0 [] (rFew 8 (rCount b) s).2).2 = s := fw.keep b s h
    have k5 : (rSeq (fun i s => rInstr b s) (rFew 2048 (rCount b) s).1.toNat 0 [] (rFew 2048 (rCount b) s).2).2 = s := fi.keep b s h
    unfold rPRest rP1 rP2 rP3 rP4 rP5
    simp only
    rw [k1, k2, k3, k4, k5, k1, k1]
  · simp only [and_true]
    exact Iff.rfl
theorem wholeP : Whole rPRest 76 80 pEnc plOk := fmt_plan.whole 76 80
end Go.Ideal.Tryd
end
