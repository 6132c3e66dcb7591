/- Part Ph of the proof: a machine with trees for values, its soundness, and walks on it. -/
import Derived.Test.YtfdhkijgolgnfaaGreatDoorPg
section
set_option linter.unusedVariables false
set_option linter.unusedSimpArgs false
set_option maxRecDepth 10000
namespace Go.Ideal.Tryz
section
variable {G : Nat → Option Value} {Q : Exit → St → Prop} {st : St}
def d33 {α : Type} (p : α → Bool) : List α → Nat → Int
  | [], _ => -1
  | x :: xs, i => if p x = true then i else d33 p xs (i + 1)
theorem c4p {α : Type} {p : α → Bool} {bs : List α} {i k : Nat} (h : i < bs.length) : d33 p (bs.drop i) k = if p bs[i] = true then (k : Int) else d33 p (bs.drop (i + 1)) (k + 1) := by
  rw [List.drop_eq_getElem_cons h]; rfl
theorem c32 {α : Type} {p : α → Bool} : ∀ {bs : List α} {i : Nat}, decide (0 ≤ d33 p bs i) = bs.any p
  | [], i => by simp [d33]
  | x :: xs, i => by
    simp only [d33, List.any_cons]
    by_cases h : p x = true
    · simp [h]
    · simp only [h, Bool.false_eq_true, if_false]
      rw [c32]; simp
theorem e76 {f : FuncId} (hf : fnB pg f = true) {p : Int → Bool} (xs : List Int) (hp : ∀ x ∈ xs, ACallsX pg G f [li x] (lb (p x)) []) (hlen : xs.length < 2 ^ 62) : ACallsX pg G b1w [slI xs, .fn f [] []] (li (d33 p xs 0)) [] := by
  refine a7g (pins := []) (by kernel_rfl) rfl rfl rfl rfl ?_
  simp (disch := omega) [go_sem, a4p]
  refine a0u Nat (fun i st => st.s 0 = slI xs ∧ st.s 1 = .fn f [] [] ∧ st.s 7 = li xs.length ∧ st.s 8 = li i ∧ i ≤ xs.length ∧ d33 p (xs.drop i) i = d33 p xs 0) (fun i => xs.length - i) 0 ?_ ?_
  · simp (disch := omega) [go_sem]
  · rintro i st K ⟨h0, h1, h7, h8, hi, hno⟩ hK
    by_cases hlt : i < xs.length
    · rw [c4p hlt] at hno
      simp (disch := omega) [go_sem, a2t, h0, h1, h7, h8, hlt, hf]
      refine a0o (hp _ (List.getElem_mem hlt)) rfl rfl rfl rfl ?_
      by_cases hv : p xs[i] = true
      · rw [if_pos hv] at hno
        simp (disch := omega) [go_sem, h0, h1, h7, h8, hlt, hv, ← hno]
      · rw [if_neg hv] at hno
        have hv' : p xs[i] = false := by simpa using hv
        simp (disch := omega) [go_sem, h0, h1, h7, h8, hlt, hv']
        exact hK (i + 1) _ ⟨by simp (disch := omega) [go_sem, h0], by simp (disch := omega) [go_sem, h1], by simp (disch := omega) [go_sem, h7], by simp (disch := omega) [go_sem], by omega, hno⟩ (by omega)
    · rw [List.drop_eq_nil_of_le (by omega)] at hno
      simp (disch := omega) [go_sem, a2t, h0, h1, h7, h8, hlt, ← hno, d33]
theorem c4e {f : FuncId} (hf : fnB pg f = true) {p : Int → Bool} (xs : List Int) (hp : ∀ x ∈ xs, ACallsX pg G f [li x] (lb (p x)) []) (hlen : xs.length < 2 ^ 62) : ACallsX pg G a8l [slI xs, .fn f [] []] (lb (xs.any p)) [] := by
  refine a5p (pins := []) (by kernel_rfl) rfl rfl rfl rfl ?_
  simp (disch := omega) [go_sem, a31]
  refine a0o (e76 hf xs hp hlen) rfl rfl rfl rfl ?_
  simp (disch := omega) [go_sem, c32]
end
end Go.Ideal.Tryz
end
section
set_option linter.unusedVariables false
set_option linter.unusedSimpArgs false
set_option maxRecDepth 10000
namespace Go.Ideal.Tryz
def a8g (k : Int) : Bool := decide (1 ≤ k ∧ k ≤ 256)
def b1e : List Int → Int → Int
  | [], n => n
  | k :: ks, n => b1e ks (n * k)
def b5w (sh : List Int) : Er := if 4 < sh.length then .s 2 else if sh.all a8g = true then (if 16384 < b1e sh 1 then .s 2 else .nil) else .s 3
def c74 (sh : List Int) : Bool := decide (sh.length ≤ 4) && sh.all a8g && decide (b1e sh 1 ≤ 16384)
def a1y (sh : List Int) : Int := if c74 sh = true then b1e sh 1 else 0
theorem c31 : ∀ {ks : List Int} {n : Int}, ks.all a8g = true → 0 ≤ n → n ≤ b1e ks n
  | [], n, _, _ => Int.le_refl _
  | k :: ks, n, h, hn => by
    simp only [List.all_cons, Bool.and_eq_true] at h
    obtain ⟨ha, hb⟩ := h
    simp only [a8g, decide_eq_true_eq] at ha
    have h1 : n * 1 ≤ n * k := Int.mul_le_mul_of_nonneg_left ha.1 hn
    exact Int.le_trans (b := n * k) (by omega) (c31 (ks := ks) (n := n * k) hb (by omega))
theorem a29 {sh : List Int} : b5w sh = .nil ↔ c74 sh = true := by
  unfold b5w c74
  by_cases h1 : 4 < sh.length
  · have : ¬ sh.length ≤ 4 := by omega
    simp [h1, this]
  · have h1' : sh.length ≤ 4 := by omega
    by_cases h2 : sh.all a8g = true
    · by_cases h3 : 16384 < b1e sh 1
      · have : ¬ b1e sh 1 ≤ 16384 := by omega
        simp [h1, h2, h3, this]
      · have : b1e sh 1 ≤ 16384 := by omega
        simp [h1, h1', h2, h3, this]
    · simp [h1, h2]
theorem b1a (sh : List Int) : b5w sh = .nil ∨ b5w sh = .s 2 ∨ b5w sh = .s 3 := by
  unfold b5w
  split
  · simp
  · split
    · split <;> simp
    · simp
@[go_sem] theorem c1p {bk : Nat → Nat × Nat} (e : Er) : a0k (a1j bk e) = true := (e47 e).1
@[go_sem] theorem f4g {bk : Nat → Nat × Nat} (e : Er) : a0l (a1j bk e) = true := (e47 e).2
theorem e07 {n : Int} (h : 0 ≤ n ∧ n ≤ 255) : IntKind.u8.wrap n = n := by rw [IntKind.wrap_u8]; omega
section
variable {G : Nat → Option Value} {bk : Nat → Nat × Nat} {Q : Exit → St → Prop} {st : St}
theorem e77 (hS : Sent3 G bk) {sh : List Int} {w : Bool} (hl : sh.length ≤ 4) (h : st.s 1 = .var [slI sh, lb w] ∧ st.s 14 = slI sh ∧ st.s 15 = li sh.length ∧ st.s 16 = li 0 ∧ st.s 3 = li 1)
    (hex : sh.all a8g = true → ∀ s, s.s 1 = .var [slI sh, lb w] ∧ s.s 3 = li 1 → Q (.exit 0) s) (hret : sh.all a8g = false → ∀ s, s.s 2 = sv bk 3 → Q .ret s) : AW pg G 42 (.loop a25) Q st := by
  refine a0u Nat (fun i st => i ≤ sh.length ∧ (sh.drop i).all a8g = sh.all a8g ∧ st.s 1 = .var [slI sh, lb w] ∧ st.s 14 = slI sh ∧ st.s 15 = li sh.length ∧ st.s 16 = li i ∧ st.s 3 = li 1) (fun i => sh.length - i) 0 ⟨by simp, rfl, h⟩ ?_
  clear h
  rintro i st K ⟨hi, hm, h⟩ hK
  by_cases hlt : i < sh.length
  · rw [List.drop_eq_getElem_cons hlt, List.all_cons] at hm
    by_cases k1 : sh[i] < 1
    · have d : a8g sh[i] = false := by simp [a8g]; omega
      rw [d] at hm
      simp (disch := omega) [go_sem, a25, h, hlt, k1, hS.val]
      exact hret hm.symm _ (by simp (disch := omega) [go_sem])
    · by_cases k2 : 256 < sh[i]
      · have d : a8g sh[i] = false := by simp [a8g]; omega
        rw [d] at hm
        simp (disch := omega) [go_sem, a25, h, hlt, k1, k2, hS.val]
        exact hret hm.symm _ (by simp (disch := omega) [go_sem])
      · have d : a8g sh[i] = true := by simp [a8g]; omega
        rw [d] at hm
        simp (disch := omega) [go_sem, a25, h, hlt, k1, k2, hS.val]
        exact hK (i + 1) _ ⟨by omega, hm, by simp (disch := omega) [go_sem, h]⟩ (by omega)
  · obtain rfl : i = sh.length := by omega
    rw [List.drop_length] at hm
    simp (disch := omega) [go_sem, a25, h]
    exact hex hm.symm _ (by simp (disch := omega) [go_sem, h])
theorem e60 (hS : Sent3 G bk) {sh : List Int} (hl : sh.length ≤ 4) (hd : sh.all a8g = true) (h : st.s 29 = slI sh ∧ st.s 30 = li sh.length ∧ st.s 31 = li 0 ∧ st.s 3 = li 1)
    (hex : b1e sh 1 ≤ 16384 → ∀ s, Q (.exit 2) s) (hret : 16384 < b1e sh 1 → ∀ s, s.s 2 = sv bk 2 → Q .ret s) : AW pg G 42 (.loop a3y) Q st := by
  refine a0u (Nat × Int) (fun p st => p.1 ≤ sh.length ∧ b1e (sh.drop p.1) p.2 = b1e sh 1 ∧ 1 ≤ p.2 ∧ p.2 ≤ 16384 ∧ (sh.drop p.1).all a8g = true ∧ st.s 29 = slI sh ∧ st.s 30 = li sh.length ∧ st.s 31 = li p.1 ∧ st.s 3 = li p.2) (fun p => sh.length - p.1) (0, 1) ⟨by simp, rfl, by simp, by simp, by simpa using hd, h⟩ ?_
  clear h
  rintro ⟨i, n⟩ st K ⟨hi, hm, hn1, hn2, ha, h⟩ hK
  simp only at hi hm hn1 hn2 ha h
  by_cases hlt : i < sh.length
  · rw [List.drop_eq_getElem_cons hlt] at hm ha
    simp only [List.all_cons, Bool.and_eq_true] at ha
    have hd1 := ha.1
    simp only [a8g, decide_eq_true_eq] at hd1
    simp only [b1e] at hm
    have b1 : n * 1 ≤ n * sh[i] := Int.mul_le_mul_of_nonneg_left hd1.1 (by omega)
    have b2 : n * sh[i] ≤ 16384 * 256 := Int.mul_le_mul hn2 hd1.2 (by omega) (by omega)
    by_cases k : 16384 < n * sh[i]
    · have g := c31 ha.2 (show 0 ≤ n * sh[i] by omega)
      simp (disch := omega) [go_sem, a3y, h, hlt, k, hS.val]
      exact hret (by omega) _ (by simp (disch := omega) [go_sem])
    · simp (disch := omega) [go_sem, a3y, h, hlt, k, hS.val]
      exact hK (i + 1, n * sh[i]) _ ⟨by simp only; omega, hm, by simp only; omega, by simp only; omega, ha.2, by simp (disch := omega) [go_sem, h]⟩ (by simp only; omega)
  · obtain rfl : i = sh.length := by omega
    rw [List.drop_length, b1e] at hm
    simp (disch := omega) [go_sem, a3y, h]
    exact hex (by omega) _
theorem b84 (hS : Sent3 G bk) (sh : List Int) (w : Bool) (hlen : sh.length < 2 ^ 62) : ACalls pg G d09 [.agg [slI sh, lb w]] (a1j bk (b5w sh)) := by
  refine c3o rfl ?_
  by_cases h4 : 4 < sh.length
  · have h4' : (4 : Int) < sh.length := by omega
    simp (disch := omega) [go_sem, b06, h4', b5w, h4, hS.val, a1j]
  · have h4' : ¬ (4 : Int) < sh.length := by omega
    simp (disch := omega) [go_sem, b06, h4', hS.val]
    refine e77 (sh := sh) (w := w) hS (by omega) (by simp (disch := omega) [go_sem]) (fun hd s h => ?_) (fun hd s h => by simp (disch := omega) [go_sem, h, b5w, h4, hd, a1j])
    simp (disch := omega) [go_sem, h]
    refine e60 (sh := sh) hS (by omega) hd (by simp (disch := omega) [go_sem, h]) (fun hp s => ?_) (fun hp s h => by simp (disch := omega) [go_sem, h, b5w, h4, hd, hp, a1j])
    have hp' : ¬ 16384 < b1e sh 1 := by omega
    simp (disch := omega) [go_sem, b5w, h4, hd, hp', a1j]
theorem f1a (hS : Sent3 G bk) (sh : List Int) (hlen : sh.length < 2 ^ 62) : ACalls pg G d6m [slI sh] (lb (c74 sh)) := by
  refine c53 rfl ?_
  simp (disch := omega) [go_sem, c2o]
  have hv := b84 (G := G) hS sh false hlen
  rcases b1a sh with e | e | e <;> rw [e] at hv <;> simp only [a1j] at hv
  · refine a0g hv rfl rfl ?_
    simp (disch := omega) [go_sem, a29.1 e]
  all_goals
    have n : c74 sh = false := by
      cases hh : c74 sh
      · rfl
      · rw [a29.2 hh] at e; cases e
    refine a0g hv rfl rfl ?_
    simp (disch := omega) [go_sem, n]
theorem d1o (hS : Sent3 G bk) (sh : List Int) (hlen : sh.length < 2 ^ 62) : ACalls pg G d2b [slI sh] (li (a1y sh)) := by
  refine c27 rfl ?_
  simp (disch := omega) [go_sem, b9a]
  refine a0g (f1a hS sh hlen) rfl rfl ?_
  cases hok : c74 sh with
  | false => simp (disch := omega) [go_sem, hok, a1y]
  | true =>
    simp (disch := omega) [go_sem, hok, a1y]
    simp only [c74, Bool.and_eq_true, decide_eq_true_eq] at hok
    refine a0u (Nat × Int) (fun p st => p.1 ≤ sh.length ∧ b1e (sh.drop p.1) p.2 = b1e sh 1 ∧ 1 ≤ p.2 ∧ (sh.drop p.1).all a8g = true ∧ st.s 9 = slI sh ∧ st.s 10 = li sh.length ∧ st.s 11 = li p.1 ∧ st.s 3 = li p.2) (fun p => sh.length - p.1) (0, 1) ⟨by simp, rfl, by simp, by simpa using hok.1.2, by simp (disch := omega) [go_sem]⟩ ?_
    rintro ⟨i, n⟩ st K ⟨hi, hm, hn1, ha, h⟩ hK
    simp only at hi hm hn1 ha h
    by_cases hlt : i < sh.length
    · rw [List.drop_eq_getElem_cons hlt] at hm ha
      simp only [List.all_cons, Bool.and_eq_true] at ha
      have hd1 := ha.1
      simp only [a8g, decide_eq_true_eq] at hd1
      simp only [b1e] at hm
      have b1 : n * 1 ≤ n * sh[i] := Int.mul_le_mul_of_nonneg_left hd1.1 (by omega)
      have g := c31 ha.2 (show 0 ≤ n * sh[i] by omega)
      simp (disch := omega) [go_sem, a8n, h, hlt]
      exact hK (i + 1, n * sh[i]) _ ⟨by simp only; omega, hm, by simp only; omega, ha.2, by simp (disch := omega) [go_sem, h]⟩ (by simp only; omega)
    · obtain rfl : i = sh.length := by omega
      rw [List.drop_length, b1e] at hm
      simp (disch := omega) [go_sem, a8n, h, hm]
def a2p (sh : List Int) (w : Bool) : Int := if w = true then 4 * a1y sh else a1y sh
theorem a4t (sh : List Int) : 0 ≤ a1y sh ∧ a1y sh ≤ 16384 := by
  unfold a1y
  split
  · rename_i h
    simp only [c74, Bool.and_eq_true, decide_eq_true_eq] at h
    have := c31 (n := 1) h.1.2 (by omega)
    omega
  · omega
theorem d1x (hS : Sent3 G bk) (sh : List Int) (w : Bool) (hlen : sh.length < 2 ^ 62) : ACalls pg G d1j [.agg [slI sh, lb w]] (li (a2p sh w)) := by
  refine c29 rfl ?_
  have hr := a4t sh
  cases w <;> simp (disch := omega) [go_sem, b85] <;> refine a0g (d1o hS sh hlen) rfl rfl ?_ <;> simp (disch := omega) [go_sem, a2p]
def b44 (n : Int) (w : Bool) : Bool := if w = true then decide (-2147483648 ≤ n ∧ n ≤ 2147483647) else decide (-128 ≤ n ∧ n ≤ 127)
theorem f2j (n : Int) (w : Bool) : ACalls pg G d90 [li n, lb w] (lb (b44 n w)) := by
  refine c7q rfl ?_
  cases w
  · by_cases h1 : -128 ≤ n <;> by_cases h2 : n ≤ 127 <;> simp (disch := omega) [go_sem, b69, b44, h1, h2]
  · by_cases h1 : -2147483648 ≤ n <;> by_cases h2 : n ≤ 2147483647 <;> simp (disch := omega) [go_sem, b69, b44, h1, h2]
def a3n (w : Bool) : List Int → Nat → Option Nat
  | [], _ => none
  | n :: ns, i => if b44 n w = true then a3n w ns (i + 1) else some i
def e02 : Option Nat → Er
  | none => .nil
  | some i => .at i (.s 3)
def a5k (sh : List Int) (w : Bool) (data : List Int) : Er := if c74 sh = true then (if (data.length : Int) = a1y sh then e02 (a3n w data 0) else .s 6) else b5w sh
abbrev f5x (sh : List Int) (w : Bool) (data : List Int) : AV := .agg [slI sh, lb w, slI data]
theorem e3d (hS : Sent3 G bk) {sh : List Int} {w : Bool} {data : List Int} (hl : data.length < 2 ^ 62) (h : st.s 1 = .var [slI sh, lb w, slI data] ∧ st.s 22 = slI data ∧ st.s 23 = li data.length ∧ st.s 24 = li 0)
    (hex : a3n w data 0 = none → ∀ s, Q (.exit 0) s) (hret : ∀ i, a3n w data 0 = some i → ∀ s, s.s 2 = a1j bk (.at i (.s 3)) → Q .ret s) : AW pg G 41 (.loop a51) Q st := by
  refine a0u Nat (fun i st => i ≤ data.length ∧ a3n w (data.drop i) i = a3n w data 0 ∧ st.s 1 = .var [slI sh, lb w, slI data] ∧ st.s 22 = slI data ∧ st.s 23 = li data.length ∧ st.s 24 = li i) (fun i => data.length - i) 0 ⟨by simp, rfl, h⟩ ?_
  clear h
  rintro i st K ⟨hi, hm, h⟩ hK
  by_cases hlt : i < data.length
  · rw [List.drop_eq_getElem_cons hlt, a3n] at hm
    simp (disch := omega) [go_sem, a51, h, hlt]
    refine a0g (f2j data[i] w) rfl rfl ?_
    cases hf : b44 data[i] w with
    | true =>
      rw [if_pos hf] at hm
      simp (disch := omega) [go_sem, h, hf]
      exact hK (i + 1) _ ⟨by omega, hm, by simp (disch := omega) [go_sem, h]⟩ (by omega)
    | false =>
      rw [if_neg (by simp [hf])] at hm
      simp (disch := omega) [go_sem, h, hf, hS.val]
      exact hret i hm.symm _ (by simp (disch := omega) [go_sem, a1j])
  · obtain rfl : i = data.length := by omega
    rw [List.drop_length, a3n] at hm
    simp (disch := omega) [go_sem, a51, h]
    exact hex hm.symm _
theorem c57 (hS : Sent3 G bk) (sh : List Int) (w : Bool) (data : List Int) (hlen : sh.length < 2 ^ 62) (hl : data.length < 2 ^ 62) : ACalls pg G d7j [f5x sh w data] (a1j bk (a5k sh w data)) := by
  refine c5p rfl ?_
  simp (disch := omega) [go_sem, c23]
  have hv := b84 (G := G) hS sh w hlen
  rcases b1a sh with e | e | e
  · have ok := a29.1 e
    rw [e] at hv
    simp only [a1j] at hv
    refine a0g hv rfl rfl ?_
    simp (disch := omega) [go_sem]
    refine a1r ?_
    simp (disch := omega) [go_sem]
    refine a16 (d1o hS sh hlen) rfl rfl (by simp) [18] (by simp) (by simp (disch := omega) [go_sem]) ?_
    simp (disch := omega) [go_sem]
    refine a1q (by decide) fun s2 hs he => ?_
    by_cases hn : (data.length : Int) = a1y sh
    · simp (disch := omega) [go_sem, hs, hn]
      refine e3d (sh := sh) (w := w) (data := data) hS hl (by simp (disch := omega) [go_sem, hs, hn]) (fun hf s => ?_) (fun i hf s h => ?_)
      · simp (disch := omega) [go_sem, a5k, ok, hn, hf, e02, a1j]
      · simp (disch := omega) [go_sem, a5k, ok, hn, hf, e02, h]
    · simp (disch := omega) [go_sem, hs, hn, hS.val, a5k, ok, a1j]
  all_goals
    have ok : c74 sh = false := by
      cases hh : c74 sh
      · rfl
      · rw [a29.2 hh] at e; cases e
    rw [e] at hv
    simp only [a1j] at hv
    refine a0g hv rfl rfl ?_
    simp (disch := omega) [go_sem, a5k, ok, e, a1j]
end
end Go.Ideal.Tryz
end
section
set_option linter.unusedVariables false
set_option linter.unusedSimpArgs false
set_option maxRecDepth 10000
namespace Go.Ideal.Tryz
theorem b3i (xs : List Int) : a0w (owU xs) = true := by simp only [a0w]; exact b4r fun x => by simp only [a0w]
@[go_sem] theorem e5u (xs : List Int) : a1e (xs.map lu) = true := b4r fun x => by simp only [a0w]
@[go_sem] theorem f7k (xs : List Int) : a0j (xs.map lu) = true := c1m fun x => by simp only [a0l]
@[go_sem] theorem g2r {α : Type} {f : α → AV} {xs : List α} {a : AV} : List.take (xs.length + 1) (xs.map f ++ [a]) = xs.map f ++ [a] := List.take_of_length_le (by simp)
@[go_sem] theorem g0s {α : Type} {f : α → AV} {xs : List α} {a b : AV} : List.take (xs.length + 2) (xs.map f ++ [a, b]) = xs.map f ++ [a, b] := List.take_of_length_le (by simp)
def a45 (w : Bool) (n : Int) : List Int := if w = true then [u8 n, u8 (n.fdiv 256), u8 (n.fdiv 65536), u8 (n.fdiv 16777216)] else [u8 n]
def c22 (w : Bool) (data : List Int) : List Int := data.flatMap (a45 w)
def le2 (k : Int) : List Int := [u8 k, u8 (k.fdiv 256)]
def a3e (sh : List Int) (w : Bool) : List Int := u8 (if w = true then (sh.length : Int) + 8 else sh.length) :: sh.flatMap le2
def a3a (sh : List Int) (w : Bool) (data : List Int) : List Int := a3e sh w ++ c22 w data
theorem a07 (w : Bool) (n : Int) : (a45 w n).length ≤ 4 := by unfold a45; split <;> simp
theorem c0n (w : Bool) : ∀ data : List Int, (c22 w data).length ≤ 4 * data.length
  | [] => by simp [c22]
  | n :: ns => by
    have h1 := a07 w n
    have h2 := c0n w ns
    simp only [c22, List.flatMap_cons, List.length_append, List.length_cons] at h2 ⊢
    omega
theorem e5j : ∀ sh : List Int, (sh.flatMap le2).length = 2 * sh.length
  | [] => rfl
  | k :: ks => by simp only [List.flatMap_cons, List.length_append, e5j ks, le2, List.length_cons, List.length_nil]; omega
theorem a21 (sh : List Int) (w : Bool) : (a3e sh w).length = 2 * sh.length + 1 := by simp only [a3e, List.length_cons, e5j]
section
variable {G : Nat → Option Value} {bk : Nat → Nat × Nat} {Q : Exit → St → Prop} {st : St}
theorem g0z (xs : List Int) (n : Int) (w : Bool) (h : xs.length < 2 ^ 40) : ACalls pg G e2d [owU xs, li n, lb w] (owU (xs ++ a45 w n)) := by
  refine d0a rfl ?_
  cases w <;> simp (disch := omega) [go_sem, c9t, a45]
theorem e85 (hS : Sent3 G bk) (sh : List Int) (w : Bool) (data : List Int) (hlen : sh.length < 2 ^ 62) (hl : data.length < 2 ^ 36) (hv : a5k sh w data = .nil) : ACalls pg G e11 [f5x sh w data] (owU (c22 w data)) := by
  refine d2m rfl ?_
  have h0 := c57 (G := G) hS sh w data hlen (by omega)
  rw [hv] at h0
  simp only [a1j] at h0
  have hr := a4t sh
  have hb : 0 ≤ a2p sh w ∧ a2p sh w ≤ 65536 := by unfold a2p; split <;> omega
  simp (disch := omega) [go_sem, c9g]
  refine a0g h0 rfl rfl ?_
  simp (disch := omega) [go_sem]
  refine a0g (d1x hS sh w hlen) rfl rfl ?_
  simp (disch := omega) [go_sem]
  refine a0u (Nat × List Int) (fun p st => p.1 ≤ data.length ∧ p.2 ++ c22 w (data.drop p.1) = c22 w data ∧ p.2.length ≤ 4 * p.1 ∧ st.s 1 = .var [slI sh, lb w, slI data] ∧ st.s 14 = slI data ∧ st.s 15 = li data.length ∧ st.s 16 = li p.1 ∧ st.s 3 = owU p.2) (fun p => data.length - p.1) (0, []) ⟨by simp, rfl, by simp, by simp (disch := omega) [go_sem]⟩ ?_
  rintro ⟨i, bs⟩ st K ⟨hi, hm, hn, h⟩ hK
  simp only at hi hm hn h
  by_cases hlt : i < data.length
  · have hp := a07 w data[i]
    rw [List.drop_eq_getElem_cons hlt, c22, List.flatMap_cons, ← List.append_assoc] at hm
    simp (disch := omega) [go_sem, b7w, h, hlt]
    refine a0g (g0z bs data[i] w (by omega)) rfl (b3i _) ?_
    simp (disch := omega) [go_sem, h]
    exact hK (i + 1, bs ++ a45 w data[i]) _ ⟨by simp only; omega, hm, by simp only [List.length_append]; omega, by simp (disch := omega) [go_sem, h]⟩ (by simp only; omega)
  · obtain rfl : i = data.length := by omega
    rw [List.drop_length, show c22 w [] = [] from rfl, List.append_nil] at hm
    subst hm
    simp (disch := omega) [go_sem, b7w, h]
theorem d6t {sh : List Int} {w : Bool} {data : List Int} (hlen : sh.length < 2 ^ 36) (h : st.s 1 = .var [slI sh, lb w, slI data] ∧ st.s 24 = slI sh ∧ st.s 25 = li sh.length ∧ st.s 26 = li 0 ∧ st.s 4 = owU [u8 (if w = true then (sh.length : Int) + 8 else sh.length)])
    (hex : ∀ s, s.s 1 = .var [slI sh, lb w, slI data] ∧ s.s 4 = owU (a3e sh w) → Q (.exit 0) s) : AW pg G 43 (.loop a5y) Q st := by
  refine a0u (Nat × List Int) (fun p st => p.1 ≤ sh.length ∧ p.2 ++ (sh.drop p.1).flatMap le2 = a3e sh w ∧ p.2.length ≤ 2 * p.1 + 1 ∧ st.s 1 = .var [slI sh, lb w, slI data] ∧ st.s 24 = slI sh ∧ st.s 25 = li sh.length ∧ st.s 26 = li p.1 ∧ st.s 4 = owU p.2) (fun p => sh.length - p.1) (0, [u8 (if w = true then (sh.length : Int) + 8 else sh.length)]) ⟨by simp, rfl, by simp, h⟩ ?_
  clear h
  rintro ⟨i, bs⟩ st K ⟨hi, hm, hn, h⟩ hK
  simp only at hi hm hn h
  by_cases hlt : i < sh.length
  · rw [List.drop_eq_getElem_cons hlt, List.flatMap_cons, ← List.append_assoc] at hm
    simp (disch := omega) [go_sem, a5y, h, hlt]
    exact hK (i + 1, bs ++ le2 sh[i]) _ ⟨by simp only; omega, hm, by simp only [List.length_append, le2, List.length_cons, List.length_nil]; omega, by simp (disch := omega) [go_sem, h, le2]⟩ (by simp only; omega)
  · obtain rfl : i = sh.length := by omega
    rw [List.drop_length, List.flatMap_nil, List.append_nil] at hm
    subst hm
    simp (disch := omega) [go_sem, a5y, h]
    exact hex _ (by simp (disch := omega) [go_sem, h])
theorem e6s (hS : Sent3 G bk) (sh : List Int) (w : Bool) (data : List Int) (hl : data.length < 2 ^ 36) (hv : a5k sh w data = .nil) : ACalls pg G d74 [f5x sh w data] (owU (a3a sh w data)) := by
  have ok : c74 sh = true := by
    unfold a5k at hv
    split at hv
    · assumption
    · exact a29.1 hv
  have hlen : sh.length ≤ 4 := by simp only [c74, Bool.and_eq_true, decide_eq_true_eq] at ok; exact ok.1.1
  refine c40 rfl ?_
  have h0 := c57 (G := G) hS sh w data (by omega) (by omega)
  rw [hv] at h0
  simp only [a1j] at h0
  simp (disch := omega) [go_sem, c2t]
  refine a0g h0 rfl rfl ?_
  have e8 : u8 ((sh.length : Int)) = sh.length := e07 (by omega)
  have e9 : u8 ((sh.length : Int) + 8) = sh.length + 8 := e07 (by omega)
  have hrw := c0n w data
  have hdl := a21 sh w
  cases w
  · (simp (disch := omega) [go_sem, e8, e9]; refine d6t (sh := sh) (w := false) (data := data) (by omega) (by simp (disch := omega) [go_sem, e8, e9]) fun s h => ?_; simp (disch := omega) [go_sem, h]; refine a0g (e85 hS sh _ data (by omega) hl hv) rfl (b3i _) ?_; simp (disch := omega) [go_sem, h, a3a])
  · (simp (disch := omega) [go_sem, e8, e9]; refine d6t (sh := sh) (w := true) (data := data) (by omega) (by simp (disch := omega) [go_sem, e8, e9]) fun s h => ?_; simp (disch := omega) [go_sem, h]; refine a0g (e85 hS sh _ data (by omega) hl hv) rfl (b3i _) ?_; simp (disch := omega) [go_sem, h, a3a])
end
end Go.Ideal.Tryz
end
