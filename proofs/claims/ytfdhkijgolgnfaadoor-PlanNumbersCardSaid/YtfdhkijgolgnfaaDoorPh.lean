/- Part Ph of the proof: a machine with trees for values, its soundness, and walks on it. -/
import Derived.Test.YtfdhkijgolgnfaaDoorPg

section
set_option linter.unusedVariables false
set_option linter.unusedSimpArgs false
set_option maxRecDepth 10000
namespace Go.Ideal.Tryd
section
variable {G : Nat → Option Value} {Q : Exit → St → Prop} {st : St}
/-- The first place where p holds, from a place on; else -1. -/
def idxP {α : Type} (p : α → Bool) : List α → Nat → Int
  | [], _ => -1
  | x :: xs, i => if p x = true then i else idxP p xs (i + 1)
theorem idxP_drop {α : Type} {p : α → Bool} {bs : List α} {i k : Nat} (h : i < bs.length) : idxP p (bs.drop i) k = if p bs[i] = true then (k : Int) else idxP p (bs.drop (i + 1)) (k + 1) := by
  rw [List.drop_eq_getElem_cons h]; rfl
theorem idxP_any {α : Type} {p : α → Bool} : ∀ {bs : List α} {i : Nat}, decide (0 ≤ idxP p bs i) = bs.any p
  | [], i => by simp [idxP]
  | x :: xs, i => by
    simp only [idxP, List.any_cons]
    by_cases h : p x = true
    · simp [h]
    · simp only [h, Bool.false_eq_true, if_false]
      rw [idxP_any]; simp
theorem index143 {f : FuncId} (hf : fnB pg f = true) {p : Int → Bool} (xs : List Int) (hp : ∀ x ∈ xs, ACallsX pg G f [li x] (lb (p x)) []) (hlen : xs.length < 2 ^ 62) : ACallsX pg G F_slices_IndexFunc_int [slI xs, .fn f [] []] (li (idxP p xs 0)) [] := by
  refine slices_IndexFunc_int_callX (pins := []) (by kernel_rfl) rfl rfl rfl rfl ?_
  simp (disch := omega) [go_sem, slices_IndexFunc_int_c]
  refine aw_loop Nat (fun i st => st.s 0 = slI xs ∧ st.s 1 = .fn f [] [] ∧ st.s 7 = li xs.length ∧ st.s 8 = li i ∧ i ≤ xs.length ∧ idxP p (xs.drop i) i = idxP p xs 0) (fun i => xs.length - i) 0 ?_ ?_
  · simp (disch := omega) [go_sem]
  · rintro i st K ⟨h0, h1, h7, h8, hi, hno⟩ hK
    by_cases hlt : i < xs.length
    · rw [idxP_drop hlt] at hno
      simp (disch := omega) [go_sem, slices_IndexFunc_int_l0, h0, h1, h7, h8, hlt, hf]
      refine clx_pure (hp _ (List.getElem_mem hlt)) rfl rfl rfl rfl ?_
      by_cases hv : p xs[i] = true
      · rw [if_pos hv] at hno
        simp (disch := omega) [go_sem, h0, h1, h7, h8, hlt, hv, ← hno]
      · rw [if_neg hv] at hno
        have hv' : p xs[i] = false := by simpa using hv
        simp (disch := omega) [go_sem, h0, h1, h7, h8, hlt, hv']
        exact hK (i + 1) _ ⟨by simp (disch := omega) [go_sem, h0], by simp (disch := omega) [go_sem, h1], by simp (disch := omega) [go_sem, h7], by simp (disch := omega) [go_sem], by omega, hno⟩ (by omega)
    · rw [List.drop_eq_nil_of_le (by omega)] at hno
      simp (disch := omega) [go_sem, slices_IndexFunc_int_l0, h0, h1, h7, h8, hlt, ← hno, idxP]
theorem contains105 {f : FuncId} (hf : fnB pg f = true) {p : Int → Bool} (xs : List Int) (hp : ∀ x ∈ xs, ACallsX pg G f [li x] (lb (p x)) []) (hlen : xs.length < 2 ^ 62) : ACallsX pg G F_slices_ContainsFunc_int [slI xs, .fn f [] []] (lb (xs.any p)) [] := by
  refine slices_ContainsFunc_int_callX (pins := []) (by kernel_rfl) rfl rfl rfl rfl ?_
  simp (disch := omega) [go_sem, slices_ContainsFunc_int_c]
  refine clx_pure (index143 hf xs hp hlen) rfl rfl rfl rfl ?_
  simp (disch := omega) [go_sem, idxP_any]
end
end Go.Ideal.Tryd
end

section
set_option linter.unusedVariables false
set_option linter.unusedSimpArgs false
set_option maxRecDepth 10000
namespace Go.Ideal.Tryd
/-! ### shapes -/
def dimOk (k : Int) : Bool := decide (1 ≤ k ∧ k ≤ 256)
def prodI : List Int → Int → Int
  | [], n => n
  | k :: ks, n => prodI ks (n * k)
/-- What is amiss with a shape. -/
def dvErr (sh : List Int) : Er := if 4 < sh.length then .s 2 else if sh.all dimOk = true then (if 16384 < prodI sh 1 then .s 2 else .nil) else .s 3
def shOk (sh : List Int) : Bool := decide (sh.length ≤ 4) && sh.all dimOk && decide (prodI sh 1 ≤ 16384)
def elemsI (sh : List Int) : Int := if shOk sh = true then prodI sh 1 else 0
theorem prodI_ge : ∀ {ks : List Int} {n : Int}, ks.all dimOk = true → 0 ≤ n → n ≤ prodI ks n
  | [], n, _, _ => Int.le_refl _
  | k :: ks, n, h, hn => by
    simp only [List.all_cons, Bool.and_eq_true] at h
    obtain ⟨ha, hb⟩ := h
    simp only [dimOk, decide_eq_true_eq] at ha
    have h1 : n * 1 ≤ n * k := Int.mul_le_mul_of_nonneg_left ha.1 hn
    exact Int.le_trans (b := n * k) (by omega) (prodI_ge (ks := ks) (n := n * k) hb (by omega))
theorem dvErr_ok {sh : List Int} : dvErr sh = .nil ↔ shOk sh = true := by
  unfold dvErr shOk
  by_cases h1 : 4 < sh.length
  · have : ¬ sh.length ≤ 4 := by omega
    simp [h1, this]
  · have h1' : sh.length ≤ 4 := by omega
    by_cases h2 : sh.all dimOk = true
    · by_cases h3 : 16384 < prodI sh 1
      · have : ¬ prodI sh 1 ≤ 16384 := by omega
        simp [h1, h2, h3, this]
      · have : prodI sh 1 ≤ 16384 := by omega
        simp [h1, h1', h2, h3, this]
    · simp [h1, h2]
theorem dvErr_cases (sh : List Int) : dvErr sh = .nil ∨ dvErr sh = .s 2 ∨ dvErr sh = .s 3 := by
  unfold dvErr
  split
  · simp
  · split
    · split <;> simp
    · simp
@[go_sem] theorem encE_noRef {bk : Nat → Nat × Nat} (e : Er) : noRef (encE bk e) = true := (encE_nr e).1
@[go_sem] theorem encE_noOwn {bk : Nat → Nat × Nat} (e : Er) : noOwn (encE bk e) = true := (encE_nr e).2
theorem wrap_u8' {n : Int} (h : 0 ≤ n ∧ n ≤ 255) : IntKind.u8.wrap n = n := by rw [IntKind.wrap_u8]; omega
section
variable {G : Nat → Option Value} {bk : Nat → Nat × Nat} {Q : Exit → St → Prop} {st : St}
theorem valid_l0 (hS : Sent G bk) {sh : List Int} {w : Bool} (hl : sh.length ≤ 4) (h : st.s 1 = .var [slI sh, lb w] ∧ st.s 14 = slI sh ∧ st.s 15 = li sh.length ∧ st.s 16 = li 0 ∧ st.s 3 = li 1)
    (hex : sh.all dimOk = true → ∀ s, s.s 1 = .var [slI sh, lb w] ∧ s.s 3 = li 1 → Q (.exit 0) s) (hret : sh.all dimOk = false → ∀ s, s.s 2 = sv bk 3 → Q .ret s) : AW pg G 42 (.loop shape_Valid_l0) Q st := by
  refine aw_loop Nat (fun i st => i ≤ sh.length ∧ (sh.drop i).all dimOk = sh.all dimOk ∧ st.s 1 = .var [slI sh, lb w] ∧ st.s 14 = slI sh ∧ st.s 15 = li sh.length ∧ st.s 16 = li i ∧ st.s 3 = li 1) (fun i => sh.length - i) 0 ⟨by simp, rfl, h⟩ ?_
  clear h
  rintro i st K ⟨hi, hm, h⟩ hK
  by_cases hlt : i < sh.length
  · rw [List.drop_eq_getElem_cons hlt, List.all_cons] at hm
    by_cases k1 : sh[i] < 1
    · have d : dimOk sh[i] = false := by simp [dimOk]; omega
      rw [d] at hm
      simp (disch := omega) [go_sem, shape_Valid_l0, h, hlt, k1, hS.val]
      exact hret hm.symm _ (by simp (disch := omega) [go_sem])
    · by_cases k2 : 256 < sh[i]
      · have d : dimOk sh[i] = false := by simp [dimOk]; omega
        rw [d] at hm
        simp (disch := omega) [go_sem, shape_Valid_l0, h, hlt, k1, k2, hS.val]
        exact hret hm.symm _ (by simp (disch := omega) [go_sem])
      · have d : dimOk sh[i] = true := by simp [dimOk]; omega
        rw [d] at hm
        simp (disch := omega) [go_sem, shape_Valid_l0, h, hlt, k1, k2, hS.val]
        exact hK (i + 1) _ ⟨by omega, hm, by simp (disch := omega) [go_sem, h]⟩ (by omega)
  · obtain rfl : i = sh.length := by omega
    rw [List.drop_length] at hm
    simp (disch := omega) [go_sem, shape_Valid_l0, h]
    exact hex hm.symm _ (by simp (disch := omega) [go_sem, h])
theorem valid_l1 (hS : Sent G bk) {sh : List Int} (hl : sh.length ≤ 4) (hd : sh.all dimOk = true) (h : st.s 29 = slI sh ∧ st.s 30 = li sh.length ∧ st.s 31 = li 0 ∧ st.s 3 = li 1)
    (hex : prodI sh 1 ≤ 16384 → ∀ s, Q (.exit 2) s) (hret : 16384 < prodI sh 1 → ∀ s, s.s 2 = sv bk 2 → Q .ret s) : AW pg G 42 (.loop shape_Valid_l1) Q st := by
  refine aw_loop (Nat × Int) (fun p st => p.1 ≤ sh.length ∧ prodI (sh.drop p.1) p.2 = prodI sh 1 ∧ 1 ≤ p.2 ∧ p.2 ≤ 16384 ∧ (sh.drop p.1).all dimOk = true ∧ st.s 29 = slI sh ∧ st.s 30 = li sh.length ∧ st.s 31 = li p.1 ∧ st.s 3 = li p.2) (fun p => sh.length - p.1) (0, 1) ⟨by simp, rfl, by simp, by simp, by simpa using hd, h⟩ ?_
  clear h
  rintro ⟨i, n⟩ st K ⟨hi, hm, hn1, hn2, ha, h⟩ hK
  simp only at hi hm hn1 hn2 ha h
  by_cases hlt : i < sh.length
  · rw [List.drop_eq_getElem_cons hlt] at hm ha
    simp only [List.all_cons, Bool.and_eq_true] at ha
    have hd1 := ha.1
    simp only [dimOk, decide_eq_true_eq] at hd1
    simp only [prodI] at hm
    have b1 : n * 1 ≤ n * sh[i] := Int.mul_le_mul_of_nonneg_left hd1.1 (by omega)
    have b2 : n * sh[i] ≤ 16384 * 256 := Int.mul_le_mul hn2 hd1.2 (by omega) (by omega)
    by_cases k : 16384 < n * sh[i]
    · have g := prodI_ge ha.2 (show 0 ≤ n * sh[i] by omega)
      simp (disch := omega) [go_sem, shape_Valid_l1, h, hlt, k, hS.val]
      exact hret (by omega) _ (by simp (disch := omega) [go_sem])
    · simp (disch := omega) [go_sem, shape_Valid_l1, h, hlt, k, hS.val]
      exact hK (i + 1, n * sh[i]) _ ⟨by simp only; omega, hm, by simp only; omega, by simp only; omega, ha.2, by simp (disch := omega) [go_sem, h]⟩ (by simp only; omega)
  · obtain rfl : i = sh.length := by omega
    rw [List.drop_length, prodI] at hm
    simp (disch := omega) [go_sem, shape_Valid_l1, h]
    exact hex (by omega) _
theorem valid144 (hS : Sent G bk) (sh : List Int) (w : Bool) (hlen : sh.length < 2 ^ 62) : ACalls pg G F_shape_Valid [.agg [slI sh, lb w]] (encE bk (dvErr sh)) := by
  refine shape_Valid_call rfl ?_
  by_cases h4 : 4 < sh.length
  · have h4' : (4 : Int) < sh.length := by omega
    simp (disch := omega) [go_sem, shape_Valid_c, h4', dvErr, h4, hS.val, encE]
  · have h4' : ¬ (4 : Int) < sh.length := by omega
    simp (disch := omega) [go_sem, shape_Valid_c, h4', hS.val]
    refine valid_l0 (sh := sh) (w := w) hS (by omega) (by simp (disch := omega) [go_sem]) (fun hd s h => ?_) (fun hd s h => by simp (disch := omega) [go_sem, h, dvErr, h4, hd, encE])
    simp (disch := omega) [go_sem, h]
    refine valid_l1 (sh := sh) hS (by omega) hd (by simp (disch := omega) [go_sem, h]) (fun hp s => ?_) (fun hp s h => by simp (disch := omega) [go_sem, h, dvErr, h4, hd, hp, encE])
    have hp' : ¬ 16384 < prodI sh 1 := by omega
    simp (disch := omega) [go_sem, dvErr, h4, hd, hp', encE]
theorem fair167 (hS : Sent G bk) (sh : List Int) (hlen : sh.length < 2 ^ 62) : ACalls pg G F_shape_fair [slI sh] (lb (shOk sh)) := by
  refine shape_fair_call rfl ?_
  simp (disch := omega) [go_sem, shape_fair_c]
  have hv := valid144 (G := G) hS sh false hlen
  rcases dvErr_cases sh with e | e | e <;> rw [e] at hv <;> simp only [encE] at hv
  · refine cal_pure hv rfl rfl ?_
    simp (disch := omega) [go_sem, dvErr_ok.1 e]
  all_goals
    have n : shOk sh = false := by
      cases hh : shOk sh
      · rfl
      · rw [dvErr_ok.2 hh] at e; cases e
    refine cal_pure hv rfl rfl ?_
    simp (disch := omega) [go_sem, n]
theorem elems145 (hS : Sent G bk) (sh : List Int) (hlen : sh.length < 2 ^ 62) : ACalls pg G F_shape_Elems [slI sh] (li (elemsI sh)) := by
  refine shape_Elems_call rfl ?_
  simp (disch := omega) [go_sem, shape_Elems_c]
  refine cal_pure (fair167 hS sh hlen) rfl rfl ?_
  cases hok : shOk sh with
  | false => simp (disch := omega) [go_sem, hok, elemsI]
  | true =>
    simp (disch := omega) [go_sem, hok, elemsI]
    simp only [shOk, Bool.and_eq_true, decide_eq_true_eq] at hok
    refine aw_loop (Nat × Int) (fun p st => p.1 ≤ sh.length ∧ prodI (sh.drop p.1) p.2 = prodI sh 1 ∧ 1 ≤ p.2 ∧ (sh.drop p.1).all dimOk = true ∧ st.s 9 = slI sh ∧ st.s 10 = li sh.length ∧ st.s 11 = li p.1 ∧ st.s 3 = li p.2) (fun p => sh.length - p.1) (0, 1) ⟨by simp, rfl, by simp, by simpa using hok.1.2, by simp (disch := omega) [go_sem]⟩ ?_
    rintro ⟨i, n⟩ st K ⟨hi, hm, hn1, ha, h⟩ hK
    simp only at hi hm hn1 ha h
    by_cases hlt : i < sh.length
    · rw [List.drop_eq_getElem_cons hlt] at hm ha
      simp only [List.all_cons, Bool.and_eq_true] at ha
      have hd1 := ha.1
      simp only [dimOk, decide_eq_true_eq] at hd1
      simp only [prodI] at hm
      have b1 : n * 1 ≤ n * sh[i] := Int.mul_le_mul_of_nonneg_left hd1.1 (by omega)
      have g := prodI_ge ha.2 (show 0 ≤ n * sh[i] by omega)
      simp (disch := omega) [go_sem, shape_Elems_l0, h, hlt]
      exact hK (i + 1, n * sh[i]) _ ⟨by simp only; omega, hm, by simp only; omega, ha.2, by simp (disch := omega) [go_sem, h]⟩ (by simp only; omega)
    · obtain rfl : i = sh.length := by omega
      rw [List.drop_length, prodI] at hm
      simp (disch := omega) [go_sem, shape_Elems_l0, h, hm]
def bytesI (sh : List Int) (w : Bool) : Int := if w = true then 4 * elemsI sh else elemsI sh
theorem elemsI_rng (sh : List Int) : 0 ≤ elemsI sh ∧ elemsI sh ≤ 16384 := by
  unfold elemsI
  split
  · rename_i h
    simp only [shOk, Bool.and_eq_true, decide_eq_true_eq] at h
    have := prodI_ge (n := 1) h.1.2 (by omega)
    omega
  · omega
theorem bytes147 (hS : Sent G bk) (sh : List Int) (w : Bool) (hlen : sh.length < 2 ^ 62) : ACalls pg G F_shape_Bytes [.agg [slI sh, lb w]] (li (bytesI sh w)) := by
  refine shape_Bytes_call rfl ?_
  have hr := elemsI_rng sh
  cases w <;> simp (disch := omega) [go_sem, shape_Bytes_c] <;> refine cal_pure (elems145 hS sh hlen) rfl rfl ?_ <;> simp (disch := omega) [go_sem, bytesI]
/-! ### tensors -/
def fitsB (n : Int) (w : Bool) : Bool := if w = true then decide (-2147483648 ≤ n ∧ n ≤ 2147483647) else decide (-128 ≤ n ∧ n ≤ 127)
theorem fits146 (n : Int) (w : Bool) : ACalls pg G F_tens_fits [li n, lb w] (lb (fitsB n w)) := by
  refine tens_fits_call rfl ?_
  cases w
  · by_cases h1 : -128 ≤ n <;> by_cases h2 : n ≤ 127 <;> simp (disch := omega) [go_sem, tens_fits_c, fitsB, h1, h2]
  · by_cases h1 : -2147483648 ≤ n <;> by_cases h2 : n ≤ 2147483647 <;> simp (disch := omega) [go_sem, tens_fits_c, fitsB, h1, h2]
def firstBad (w : Bool) : List Int → Nat → Option Nat
  | [], _ => none
  | n :: ns, i => if fitsB n w = true then firstBad w ns (i + 1) else some i
def posErr : Option Nat → Er
  | none => .nil
  | some i => .at i (.s 3)
/-- What is amiss with a tensor. -/
def tvErr (sh : List Int) (w : Bool) (data : List Int) : Er := if shOk sh = true then (if (data.length : Int) = elemsI sh then posErr (firstBad w data 0) else .s 6) else dvErr sh
abbrev tnAV (sh : List Int) (w : Bool) (data : List Int) : AV := .agg [slI sh, lb w, slI data]
theorem tvalid_l0 (hS : Sent G bk) {sh : List Int} {w : Bool} {data : List Int} (hl : data.length < 2 ^ 62) (h : st.s 1 = .var [slI sh, lb w, slI data] ∧ st.s 22 = slI data ∧ st.s 23 = li data.length ∧ st.s 24 = li 0)
    (hex : firstBad w data 0 = none → ∀ s, Q (.exit 0) s) (hret : ∀ i, firstBad w data 0 = some i → ∀ s, s.s 2 = encE bk (.at i (.s 3)) → Q .ret s) : AW pg G 41 (.loop tens_Valid_l0) Q st := by
  refine aw_loop Nat (fun i st => i ≤ data.length ∧ firstBad w (data.drop i) i = firstBad w data 0 ∧ st.s 1 = .var [slI sh, lb w, slI data] ∧ st.s 22 = slI data ∧ st.s 23 = li data.length ∧ st.s 24 = li i) (fun i => data.length - i) 0 ⟨by simp, rfl, h⟩ ?_
  clear h
  rintro i st K ⟨hi, hm, h⟩ hK
  by_cases hlt : i < data.length
  · rw [List.drop_eq_getElem_cons hlt, firstBad] at hm
    simp (disch := omega) [go_sem, tens_Valid_l0, h, hlt]
    refine cal_pure (fits146 data[i] w) rfl rfl ?_
    cases hf : fitsB data[i] w with
    | true =>
      rw [if_pos hf] at hm
      simp (disch := omega) [go_sem, h, hf]
      exact hK (i + 1) _ ⟨by omega, hm, by simp (disch := omega) [go_sem, h]⟩ (by omega)
    | false =>
      rw [if_neg (by simp [hf])] at hm
      simp (disch := omega) [go_sem, h, hf, hS.val]
      exact hret i hm.symm _ (by simp (disch := omega) [go_sem, encE])
  · obtain rfl : i = data.length := by omega
    rw [List.drop_length, firstBad] at hm
    simp (disch := omega) [go_sem, tens_Valid_l0, h]
    exact hex hm.symm _
theorem tvalid108 (hS : Sent G bk) (sh : List Int) (w : Bool) (data : List Int) (hlen : sh.length < 2 ^ 62) (hl : data.length < 2 ^ 62) : ACalls pg G F_tens_Valid [tnAV sh w data] (encE bk (tvErr sh w data)) := by
  refine tens_Valid_call rfl ?_
  simp (disch := omega) [go_sem, tens_Valid_c]
  have hv := valid144 (G := G) hS sh w hlen
  rcases dvErr_cases sh with e | e | e
  · have ok := dvErr_ok.1 e
    rw [e] at hv
    simp only [encE] at hv
    refine cal_pure hv rfl rfl ?_
    simp (disch := omega) [go_sem]
    refine aw_draw ?_
    simp (disch := omega) [go_sem]
    refine dCal_pure (elems145 hS sh hlen) rfl rfl (by simp) [18] (by simp) (by simp (disch := omega) [go_sem]) ?_
    simp (disch := omega) [go_sem]
    refine dFin_i (by decide) fun s2 hs he => ?_
    by_cases hn : (data.length : Int) = elemsI sh
    · simp (disch := omega) [go_sem, hs, hn]
      refine tvalid_l0 (sh := sh) (w := w) (data := data) hS hl (by simp (disch := omega) [go_sem, hs, hn]) (fun hf s => ?_) (fun i hf s h => ?_)
      · simp (disch := omega) [go_sem, tvErr, ok, hn, hf, posErr, encE]
      · simp (disch := omega) [go_sem, tvErr, ok, hn, hf, posErr, h]
    · simp (disch := omega) [go_sem, hs, hn, hS.val, tvErr, ok, encE]
  all_goals
    have ok : shOk sh = false := by
      cases hh : shOk sh
      · rfl
      · rw [dvErr_ok.2 hh] at e; cases e
    rw [e] at hv
    simp only [encE] at hv
    refine cal_pure hv rfl rfl ?_
    simp (disch := omega) [go_sem, tvErr, ok, e, encE]
end
end Go.Ideal.Tryd
end

section
set_option linter.unusedVariables false
set_option linter.unusedSimpArgs false
set_option maxRecDepth 10000
namespace Go.Ideal.Tryd
/-! ### tensors as bytes -/
theorem noImm_owU (xs : List Int) : noImm (owU xs) = true := by simp only [noImm]; exact noImmL_map fun x => by simp only [noImm]
@[go_sem] theorem noImmL_lu (xs : List Int) : noImmL (xs.map lu) = true := noImmL_map fun x => by simp only [noImm]
@[go_sem] theorem noOwnL_lu (xs : List Int) : noOwnL (xs.map lu) = true := noOwnL_map fun x => by simp only [noOwn]
@[go_sem] theorem take_app1 {α : Type} {f : α → AV} {xs : List α} {a : AV} : List.take (xs.length + 1) (xs.map f ++ [a]) = xs.map f ++ [a] := List.take_of_length_le (by simp)
@[go_sem] theorem take_app2 {α : Type} {f : α → AV} {xs : List α} {a b : AV} : List.take (xs.length + 2) (xs.map f ++ [a, b]) = xs.map f ++ [a, b] := List.take_of_length_le (by simp)
def put1 (w : Bool) (n : Int) : List Int := if w = true then [u8 n, u8 (n.fdiv 256), u8 (n.fdiv 65536), u8 (n.fdiv 16777216)] else [u8 n]
def rawB (w : Bool) (data : List Int) : List Int := data.flatMap (put1 w)
def le2 (k : Int) : List Int := [u8 k, u8 (k.fdiv 256)]
def dBytes (sh : List Int) (w : Bool) : List Int := u8 (if w = true then (sh.length : Int) + 8 else sh.length) :: sh.flatMap le2
def tBytes (sh : List Int) (w : Bool) (data : List Int) : List Int := dBytes sh w ++ rawB w data
theorem put1_len (w : Bool) (n : Int) : (put1 w n).length ≤ 4 := by unfold put1; split <;> simp
theorem rawB_len (w : Bool) : ∀ data : List Int, (rawB w data).length ≤ 4 * data.length
  | [] => by simp [rawB]
  | n :: ns => by
    have h1 := put1_len w n
    have h2 := rawB_len w ns
    simp only [rawB, List.flatMap_cons, List.length_append, List.length_cons] at h2 ⊢
    omega
theorem le2_len : ∀ sh : List Int, (sh.flatMap le2).length = 2 * sh.length
  | [] => rfl
  | k :: ks => by simp only [List.flatMap_cons, List.length_append, le2_len ks, le2, List.length_cons, List.length_nil]; omega
theorem dBytes_len (sh : List Int) (w : Bool) : (dBytes sh w).length = 2 * sh.length + 1 := by simp only [dBytes, List.length_cons, le2_len]
section
variable {G : Nat → Option Value} {bk : Nat → Nat × Nat} {Q : Exit → St → Prop} {st : St}
theorem put148 (xs : List Int) (n : Int) (w : Bool) (h : xs.length < 2 ^ 40) : ACalls pg G F_tens_Put [owU xs, li n, lb w] (owU (xs ++ put1 w n)) := by
  refine tens_Put_call rfl ?_
  cases w <;> simp (disch := omega) [go_sem, tens_Put_c, put1]
theorem raw109 (hS : Sent G bk) (sh : List Int) (w : Bool) (data : List Int) (hlen : sh.length < 2 ^ 62) (hl : data.length < 2 ^ 36) (hv : tvErr sh w data = .nil) : ACalls pg G F_tens_Raw [tnAV sh w data] (owU (rawB w data)) := by
  refine tens_Raw_call rfl ?_
  have h0 := tvalid108 (G := G) hS sh w data hlen (by omega)
  rw [hv] at h0
  simp only [encE] at h0
  have hr := elemsI_rng sh
  have hb : 0 ≤ bytesI sh w ∧ bytesI sh w ≤ 65536 := by unfold bytesI; split <;> omega
  simp (disch := omega) [go_sem, tens_Raw_c]
  refine cal_pure h0 rfl rfl ?_
  simp (disch := omega) [go_sem]
  refine cal_pure (bytes147 hS sh w hlen) rfl rfl ?_
  simp (disch := omega) [go_sem]
  refine aw_loop (Nat × List Int) (fun p st => p.1 ≤ data.length ∧ p.2 ++ rawB w (data.drop p.1) = rawB w data ∧ p.2.length ≤ 4 * p.1 ∧ st.s 1 = .var [slI sh, lb w, slI data] ∧ st.s 14 = slI data ∧ st.s 15 = li data.length ∧ st.s 16 = li p.1 ∧ st.s 3 = owU p.2) (fun p => data.length - p.1) (0, []) ⟨by simp, rfl, by simp, by simp (disch := omega) [go_sem]⟩ ?_
  rintro ⟨i, bs⟩ st K ⟨hi, hm, hn, h⟩ hK
  simp only at hi hm hn h
  by_cases hlt : i < data.length
  · have hp := put1_len w data[i]
    rw [List.drop_eq_getElem_cons hlt, rawB, List.flatMap_cons, ← List.append_assoc] at hm
    simp (disch := omega) [go_sem, tens_Raw_l0, h, hlt]
    refine cal_pure (put148 bs data[i] w (by omega)) rfl (noImm_owU _) ?_
    simp (disch := omega) [go_sem, h]
    exact hK (i + 1, bs ++ put1 w data[i]) _ ⟨by simp only; omega, hm, by simp only [List.length_append]; omega, by simp (disch := omega) [go_sem, h]⟩ (by simp only; omega)
  · obtain rfl : i = data.length := by omega
    rw [List.drop_length, show rawB w [] = [] from rfl, List.append_nil] at hm
    subst hm
    simp (disch := omega) [go_sem, tens_Raw_l0, h]
theorem tbytes_l0 {sh : List Int} {w : Bool} {data : List Int} (hlen : sh.length < 2 ^ 36) (h : st.s 1 = .var [slI sh, lb w, slI data] ∧ st.s 24 = slI sh ∧ st.s 25 = li sh.length ∧ st.s 26 = li 0 ∧ st.s 4 = owU [u8 (if w = true then (sh.length : Int) + 8 else sh.length)])
    (hex : ∀ s, s.s 1 = .var [slI sh, lb w, slI data] ∧ s.s 4 = owU (dBytes sh w) → Q (.exit 0) s) : AW pg G 43 (.loop tens_Bytes_l0) Q st := by
  refine aw_loop (Nat × List Int) (fun p st => p.1 ≤ sh.length ∧ p.2 ++ (sh.drop p.1).flatMap le2 = dBytes sh w ∧ p.2.length ≤ 2 * p.1 + 1 ∧ st.s 1 = .var [slI sh, lb w, slI data] ∧ st.s 24 = slI sh ∧ st.s 25 = li sh.length ∧ st.s 26 = li p.1 ∧ st.s 4 = owU p.2) (fun p => sh.length - p.1) (0, [u8 (if w = true then (sh.length : Int) + 8 else sh.length)]) ⟨by simp, rfl, by simp, h⟩ ?_
  clear h
  rintro ⟨i, bs⟩ st K ⟨hi, hm, hn, h⟩ hK
  simp only at hi hm hn h
  by_cases hlt : i < sh.length
  · rw [List.drop_eq_getElem_cons hlt, List.flatMap_cons, ← List.append_assoc] at hm
    simp (disch := omega) [go_sem, tens_Bytes_l0, h, hlt]
    exact hK (i + 1, bs ++ le2 sh[i]) _ ⟨by simp only; omega, hm, by simp only [List.length_append, le2, List.length_cons, List.length_nil]; omega, by simp (disch := omega) [go_sem, h, le2]⟩ (by simp only; omega)
  · obtain rfl : i = sh.length := by omega
    rw [List.drop_length, List.flatMap_nil, List.append_nil] at hm
    subst hm
    simp (disch := omega) [go_sem, tens_Bytes_l0, h]
    exact hex _ (by simp (disch := omega) [go_sem, h])
theorem tbytes56 (hS : Sent G bk) (sh : List Int) (w : Bool) (data : List Int) (hl : data.length < 2 ^ 36) (hv : tvErr sh w data = .nil) : ACalls pg G F_tens_Bytes [tnAV sh w data] (owU (tBytes sh w data)) := by
  have ok : shOk sh = true := by
    unfold tvErr at hv
    split at hv
    · assumption
    · exact dvErr_ok.1 hv
  have hlen : sh.length ≤ 4 := by simp only [shOk, Bool.and_eq_true, decide_eq_true_eq] at ok; exact ok.1.1
  refine tens_Bytes_call rfl ?_
  have h0 := tvalid108 (G := G) hS sh w data (by omega) (by omega)
  rw [hv] at h0
  simp only [encE] at h0
  simp (disch := omega) [go_sem, tens_Bytes_c]
  refine cal_pure h0 rfl rfl ?_
  have e8 : u8 ((sh.length : Int)) = sh.length := wrap_u8' (by omega)
  have e9 : u8 ((sh.length : Int) + 8) = sh.length + 8 := wrap_u8' (by omega)
  have hrw := rawB_len w data
  have hdl := dBytes_len sh w
  cases w
  · (simp (disch := omega) [go_sem, e8, e9]; refine tbytes_l0 (sh := sh) (w := false) (data := data) (by omega) (by simp (disch := omega) [go_sem, e8, e9]) fun s h => ?_; simp (disch := omega) [go_sem, h]; refine cal_pure (raw109 hS sh _ data (by omega) hl hv) rfl (noImm_owU _) ?_; simp (disch := omega) [go_sem, h, tBytes])
  · (simp (disch := omega) [go_sem, e8, e9]; refine tbytes_l0 (sh := sh) (w := true) (data := data) (by omega) (by simp (disch := omega) [go_sem, e8, e9]) fun s h => ?_; simp (disch := omega) [go_sem, h]; refine cal_pure (raw109 hS sh _ data (by omega) hl hv) rfl (noImm_owU _) ?_; simp (disch := omega) [go_sem, h, tBytes])
/-! ### the document's -/
end
end Go.Ideal.Tryd
end
