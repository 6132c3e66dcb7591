/- Part Ph of the proof: a machine with trees for values, its soundness, and walks on it. -/
import Derived.Test.YtfdhkijgolgnfaaDoorPg
section
set_option linter.unusedVariables false
set_option linter.unusedSimpArgs false
set_option maxRecDepth 10000
namespace Go.Ideal.Tryd
section
variable {G : Nat → Option Value} {Q : Exit → St → Prop} {st : St}
def c5o {α : Type} (p : α → Bool) : List α → Nat → Int
  | [], _ => -1
  | x :: xs, i => if p x = true then i else c5o p xs (i + 1)
theorem b8a {α : Type} {p : α → Bool} {bs : List α} {i k : Nat} (h : i < bs.length) : c5o p (bs.drop i) k = if p bs[i] = true then (k : Int) else c5o p (bs.drop (i + 1)) (k + 1) := by
  rw [List.drop_eq_getElem_cons h]; rfl
theorem b6p {α : Type} {p : α → Bool} : ∀ {bs : List α} {i : Nat}, decide (0 ≤ c5o p bs i) = bs.any p
  | [], i => by simp [c5o]
  | x :: xs, i => by
    simp only [c5o, List.any_cons]
    by_cases h : p x = true
    · simp [h]
    · simp only [h, Bool.false_eq_true, if_false]
      rw [b6p]; simp
theorem d55 {f : FuncId} (hf : fnB pg f = true) {p : Int → Bool} (xs : List Int) (hp : ∀ x ∈ xs, ACallsX pg G f [li x] (lb (p x)) []) (hlen : xs.length < 2 ^ 62) : ACallsX pg G a88 [slI xs, .fn f [] []] (li (c5o p xs 0)) [] := by
  refine a5t (pins := []) (by kernel_rfl) rfl rfl rfl rfl ?_
  simp (disch := omega) [go_sem, a3v]
  refine a02 Nat (fun i st => st.s 0 = slI xs ∧ st.s 1 = .fn f [] [] ∧ st.s 7 = li xs.length ∧ st.s 8 = li i ∧ i ≤ xs.length ∧ c5o p (xs.drop i) i = c5o p xs 0) (fun i => xs.length - i) 0 ?_ ?_
  · simp (disch := omega) [go_sem]
  · rintro i st K ⟨h0, h1, h7, h8, hi, hno⟩ hK
    by_cases hlt : i < xs.length
    · rw [b8a hlt] at hno
      simp (disch := omega) [go_sem, a16, h0, h1, h7, h8, hlt, hf]
      refine a0s (hp _ (List.getElem_mem hlt)) rfl rfl rfl rfl ?_
      by_cases hv : p xs[i] = true
      · rw [if_pos hv] at hno
        simp (disch := omega) [go_sem, h0, h1, h7, h8, hlt, hv, ← hno]
      · rw [if_neg hv] at hno
        have hv' : p xs[i] = false := by simpa using hv
        simp (disch := omega) [go_sem, h0, h1, h7, h8, hlt, hv']
        exact hK (i + 1) _ ⟨by simp (disch := omega) [go_sem, h0], by simp (disch := omega) [go_sem, h1], by simp (disch := omega) [go_sem, h7], by simp (disch := omega) [go_sem], by omega, hno⟩ (by omega)
    · rw [List.drop_eq_nil_of_le (by omega)] at hno
      simp (disch := omega) [go_sem, a16, h0, h1, h7, h8, hlt, ← hno, c5o]
theorem b7e {f : FuncId} (hf : fnB pg f = true) {p : Int → Bool} (xs : List Int) (hp : ∀ x ∈ xs, ACallsX pg G f [li x] (lb (p x)) []) (hlen : xs.length < 2 ^ 62) : ACallsX pg G a6k [slI xs, .fn f [] []] (lb (xs.any p)) [] := by
  refine a4t (pins := []) (by kernel_rfl) rfl rfl rfl rfl ?_
  simp (disch := omega) [go_sem, a3a]
  refine a0s (d55 hf xs hp hlen) rfl rfl rfl rfl ?_
  simp (disch := omega) [go_sem, b6p]
end
end Go.Ideal.Tryd
end
section
set_option linter.unusedVariables false
set_option linter.unusedSimpArgs false
set_option maxRecDepth 10000
namespace Go.Ideal.Tryd
def a6x (k : Int) : Bool := decide (1 ≤ k ∧ k ≤ 256)
def a7z : List Int → Int → Int
  | [], n => n
  | k :: ks, n => a7z ks (n * k)
def b1h (sh : List Int) : Er := if 4 < sh.length then .s 2 else if sh.all a6x = true then (if 16384 < a7z sh 1 then .s 2 else .nil) else .s 3
def b9e (sh : List Int) : Bool := decide (sh.length ≤ 4) && sh.all a6x && decide (a7z sh 1 ≤ 16384)
def a1n (sh : List Int) : Int := if b9e sh = true then a7z sh 1 else 0
theorem b6q : ∀ {ks : List Int} {n : Int}, ks.all a6x = true → 0 ≤ n → n ≤ a7z ks n
  | [], n, _, _ => Int.le_refl _
  | k :: ks, n, h, hn => by
    simp only [List.all_cons, Bool.and_eq_true] at h
    obtain ⟨ha, hb⟩ := h
    simp only [a6x, decide_eq_true_eq] at ha
    have h1 : n * 1 ≤ n * k := Int.mul_le_mul_of_nonneg_left ha.1 hn
    exact Int.le_trans (b := n * k) (by omega) (b6q (ks := ks) (n := n * k) hb (by omega))
theorem a2j {sh : List Int} : b1h sh = .nil ↔ b9e sh = true := by
  unfold b1h b9e
  by_cases h1 : 4 < sh.length
  · have : ¬ sh.length ≤ 4 := by omega
    simp [h1, this]
  · have h1' : sh.length ≤ 4 := by omega
    by_cases h2 : sh.all a6x = true
    · by_cases h3 : 16384 < a7z sh 1
      · have : ¬ a7z sh 1 ≤ 16384 := by omega
        simp [h1, h2, h3, this]
      · have : a7z sh 1 ≤ 16384 := by omega
        simp [h1, h1', h2, h3, this]
    · simp [h1, h2]
theorem a7u (sh : List Int) : b1h sh = .nil ∨ b1h sh = .s 2 ∨ b1h sh = .s 3 := by
  unfold b1h
  split
  · simp
  · split
    · split <;> simp
    · simp
@[go_sem] theorem c1j {bk : Nat → Nat × Nat} (e : Er) : a0l (a1p bk e) = true := (d5i e).1
@[go_sem] theorem e12 {bk : Nat → Nat × Nat} (e : Er) : a0j (a1p bk e) = true := (d5i e).2
theorem d1v {n : Int} (h : 0 ≤ n ∧ n ≤ 255) : IntKind.u8.wrap n = n := by rw [IntKind.wrap_u8]; omega
section
variable {G : Nat → Option Value} {bk : Nat → Nat × Nat} {Q : Exit → St → Prop} {st : St}
theorem d6e (hS : Sent3 G bk) {sh : List Int} {w : Bool} (hl : sh.length ≤ 4) (h : st.s 1 = .var [slI sh, lb w] ∧ st.s 14 = slI sh ∧ st.s 15 = li sh.length ∧ st.s 16 = li 0 ∧ st.s 3 = li 1)
    (hex : sh.all a6x = true → ∀ s, s.s 1 = .var [slI sh, lb w] ∧ s.s 3 = li 1 → Q (.exit 0) s) (hret : sh.all a6x = false → ∀ s, s.s 2 = sv bk 3 → Q .ret s) : AW pg G 42 (.loop a2e) Q st := by
  refine a02 Nat (fun i st => i ≤ sh.length ∧ (sh.drop i).all a6x = sh.all a6x ∧ st.s 1 = .var [slI sh, lb w] ∧ st.s 14 = slI sh ∧ st.s 15 = li sh.length ∧ st.s 16 = li i ∧ st.s 3 = li 1) (fun i => sh.length - i) 0 ⟨by simp, rfl, h⟩ ?_
  clear h
  rintro i st K ⟨hi, hm, h⟩ hK
  by_cases hlt : i < sh.length
  · rw [List.drop_eq_getElem_cons hlt, List.all_cons] at hm
    by_cases k1 : sh[i] < 1
    · have d : a6x sh[i] = false := by simp [a6x]; omega
      rw [d] at hm
      simp (disch := omega) [go_sem, a2e, h, hlt, k1, hS.val]
      exact hret hm.symm _ (by simp (disch := omega) [go_sem])
    · by_cases k2 : 256 < sh[i]
      · have d : a6x sh[i] = false := by simp [a6x]; omega
        rw [d] at hm
        simp (disch := omega) [go_sem, a2e, h, hlt, k1, k2, hS.val]
        exact hret hm.symm _ (by simp (disch := omega) [go_sem])
      · have d : a6x sh[i] = true := by simp [a6x]; omega
        rw [d] at hm
        simp (disch := omega) [go_sem, a2e, h, hlt, k1, k2, hS.val]
        exact hK (i + 1) _ ⟨by omega, hm, by simp (disch := omega) [go_sem, h]⟩ (by omega)
  · obtain rfl : i = sh.length := by omega
    rw [List.drop_length] at hm
    simp (disch := omega) [go_sem, a2e, h]
    exact hex hm.symm _ (by simp (disch := omega) [go_sem, h])
theorem d6f (hS : Sent3 G bk) {sh : List Int} (hl : sh.length ≤ 4) (hd : sh.all a6x = true) (h : st.s 29 = slI sh ∧ st.s 30 = li sh.length ∧ st.s 31 = li 0 ∧ st.s 3 = li 1)
    (hex : a7z sh 1 ≤ 16384 → ∀ s, Q (.exit 2) s) (hret : 16384 < a7z sh 1 → ∀ s, s.s 2 = sv bk 2 → Q .ret s) : AW pg G 42 (.loop a3b) Q st := by
  refine a02 (Nat × Int) (fun p st => p.1 ≤ sh.length ∧ a7z (sh.drop p.1) p.2 = a7z sh 1 ∧ 1 ≤ p.2 ∧ p.2 ≤ 16384 ∧ (sh.drop p.1).all a6x = true ∧ st.s 29 = slI sh ∧ st.s 30 = li sh.length ∧ st.s 31 = li p.1 ∧ st.s 3 = li p.2) (fun p => sh.length - p.1) (0, 1) ⟨by simp, rfl, by simp, by simp, by simpa using hd, h⟩ ?_
  clear h
  rintro ⟨i, n⟩ st K ⟨hi, hm, hn1, hn2, ha, h⟩ hK
  simp only at hi hm hn1 hn2 ha h
  by_cases hlt : i < sh.length
  · rw [List.drop_eq_getElem_cons hlt] at hm ha
    simp only [List.all_cons, Bool.and_eq_true] at ha
    have hd1 := ha.1
    simp only [a6x, decide_eq_true_eq] at hd1
    simp only [a7z] at hm
    have b1 : n * 1 ≤ n * sh[i] := Int.mul_le_mul_of_nonneg_left hd1.1 (by omega)
    have b2 : n * sh[i] ≤ 16384 * 256 := Int.mul_le_mul hn2 hd1.2 (by omega) (by omega)
    by_cases k : 16384 < n * sh[i]
    · have g := b6q ha.2 (show 0 ≤ n * sh[i] by omega)
      simp (disch := omega) [go_sem, a3b, h, hlt, k, hS.val]
      exact hret (by omega) _ (by simp (disch := omega) [go_sem])
    · simp (disch := omega) [go_sem, a3b, h, hlt, k, hS.val]
      exact hK (i + 1, n * sh[i]) _ ⟨by simp only; omega, hm, by simp only; omega, by simp only; omega, ha.2, by simp (disch := omega) [go_sem, h]⟩ (by simp only; omega)
  · obtain rfl : i = sh.length := by omega
    rw [List.drop_length, a7z] at hm
    simp (disch := omega) [go_sem, a3b, h]
    exact hex (by omega) _
theorem b34 (hS : Sent3 G bk) (sh : List Int) (w : Bool) (hlen : sh.length < 2 ^ 62) : ACalls pg G c4k [.agg [slI sh, lb w]] (a1p bk (b1h sh)) := by
  refine b59 rfl ?_
  by_cases h4 : 4 < sh.length
  · have h4' : (4 : Int) < sh.length := by omega
    simp (disch := omega) [go_sem, a76, h4', b1h, h4, hS.val, a1p]
  · have h4' : ¬ (4 : Int) < sh.length := by omega
    simp (disch := omega) [go_sem, a76, h4', hS.val]
    refine d6e (sh := sh) (w := w) hS (by omega) (by simp (disch := omega) [go_sem]) (fun hd s h => ?_) (fun hd s h => by simp (disch := omega) [go_sem, h, b1h, h4, hd, a1p])
    simp (disch := omega) [go_sem, h]
    refine d6f (sh := sh) hS (by omega) hd (by simp (disch := omega) [go_sem, h]) (fun hp s => ?_) (fun hp s h => by simp (disch := omega) [go_sem, h, b1h, h4, hd, hp, a1p])
    have hp' : ¬ 16384 < a7z sh 1 := by omega
    simp (disch := omega) [go_sem, b1h, h4, hd, hp', a1p]
theorem d97 (hS : Sent3 G bk) (sh : List Int) (hlen : sh.length < 2 ^ 62) : ACalls pg G c7p [slI sh] (lb (b9e sh)) := by
  refine b7x rfl ?_
  simp (disch := omega) [go_sem, b55]
  have hv := b34 (G := G) hS sh false hlen
  rcases a7u sh with e | e | e <;> rw [e] at hv <;> simp only [a1p] at hv
  · refine a0w hv rfl rfl ?_
    simp (disch := omega) [go_sem, a2j.1 e]
  all_goals
    have n : b9e sh = false := by
      cases hh : b9e sh
      · rfl
      · rw [a2j.2 hh] at e; cases e
    refine a0w hv rfl rfl ?_
    simp (disch := omega) [go_sem, n]
theorem c4v (hS : Sent3 G bk) (sh : List Int) (hlen : sh.length < 2 ^ 62) : ACalls pg G c43 [slI sh] (li (a1n sh)) := by
  refine b6c rfl ?_
  simp (disch := omega) [go_sem, b38]
  refine a0w (d97 hS sh hlen) rfl rfl ?_
  cases hok : b9e sh with
  | false => simp (disch := omega) [go_sem, hok, a1n]
  | true =>
    simp (disch := omega) [go_sem, hok, a1n]
    simp only [b9e, Bool.and_eq_true, decide_eq_true_eq] at hok
    refine a02 (Nat × Int) (fun p st => p.1 ≤ sh.length ∧ a7z (sh.drop p.1) p.2 = a7z sh 1 ∧ 1 ≤ p.2 ∧ (sh.drop p.1).all a6x = true ∧ st.s 9 = slI sh ∧ st.s 10 = li sh.length ∧ st.s 11 = li p.1 ∧ st.s 3 = li p.2) (fun p => sh.length - p.1) (0, 1) ⟨by simp, rfl, by simp, by simpa using hok.1.2, by simp (disch := omega) [go_sem]⟩ ?_
    rintro ⟨i, n⟩ st K ⟨hi, hm, hn1, ha, h⟩ hK
    simp only at hi hm hn1 ha h
    by_cases hlt : i < sh.length
    · rw [List.drop_eq_getElem_cons hlt] at hm ha
      simp only [List.all_cons, Bool.and_eq_true] at ha
      have hd1 := ha.1
      simp only [a6x, decide_eq_true_eq] at hd1
      simp only [a7z] at hm
      have b1 : n * 1 ≤ n * sh[i] := Int.mul_le_mul_of_nonneg_left hd1.1 (by omega)
      have g := b6q ha.2 (show 0 ≤ n * sh[i] by omega)
      simp (disch := omega) [go_sem, a6v, h, hlt]
      exact hK (i + 1, n * sh[i]) _ ⟨by simp only; omega, hm, by simp only; omega, ha.2, by simp (disch := omega) [go_sem, h]⟩ (by simp only; omega)
    · obtain rfl : i = sh.length := by omega
      rw [List.drop_length, a7z] at hm
      simp (disch := omega) [go_sem, a6v, h, hm]
def a14 (sh : List Int) (w : Bool) : Int := if w = true then 4 * a1n sh else a1n sh
theorem a34 (sh : List Int) : 0 ≤ a1n sh ∧ a1n sh ≤ 16384 := by
  unfold a1n
  split
  · rename_i h
    simp only [b9e, Bool.and_eq_true, decide_eq_true_eq] at h
    have := b6q (n := 1) h.1.2 (by omega)
    omega
  · omega
theorem c3g (hS : Sent3 G bk) (sh : List Int) (w : Bool) (hlen : sh.length < 2 ^ 62) : ACalls pg G c2t [.agg [slI sh, lb w]] (li (a14 sh w)) := by
  refine b6f rfl ?_
  have hr := a34 sh
  cases w <;> simp (disch := omega) [go_sem, b46] <;> refine a0w (c4v hS sh hlen) rfl rfl ?_ <;> simp (disch := omega) [go_sem, a14]
def b1e (n : Int) (w : Bool) : Bool := if w = true then decide (-2147483648 ≤ n ∧ n ≤ 2147483647) else decide (-128 ≤ n ∧ n ≤ 127)
theorem e1f (n : Int) (w : Bool) : ACalls pg G c9h [li n, lb w] (lb (b1e n w)) := by
  refine c0h rfl ?_
  cases w
  · by_cases h1 : -128 ≤ n <;> by_cases h2 : n ≤ 127 <;> simp (disch := omega) [go_sem, b27, b1e, h1, h2]
  · by_cases h1 : -2147483648 ≤ n <;> by_cases h2 : n ≤ 2147483647 <;> simp (disch := omega) [go_sem, b27, b1e, h1, h2]
def a2z (w : Bool) : List Int → Nat → Option Nat
  | [], _ => none
  | n :: ns, i => if b1e n w = true then a2z w ns (i + 1) else some i
def d1e : Option Nat → Er
  | none => .nil
  | some i => .at i (.s 3)
def a4o (sh : List Int) (w : Bool) (data : List Int) : Er := if b9e sh = true then (if (data.length : Int) = a1n sh then d1e (a2z w data 0) else .s 6) else b1h sh
abbrev e55 (sh : List Int) (w : Bool) (data : List Int) : AV := .agg [slI sh, lb w, slI data]
theorem d4w (hS : Sent3 G bk) {sh : List Int} {w : Bool} {data : List Int} (hl : data.length < 2 ^ 62) (h : st.s 1 = .var [slI sh, lb w, slI data] ∧ st.s 22 = slI data ∧ st.s 23 = li data.length ∧ st.s 24 = li 0)
    (hex : a2z w data 0 = none → ∀ s, Q (.exit 0) s) (hret : ∀ i, a2z w data 0 = some i → ∀ s, s.s 2 = a1p bk (.at i (.s 3)) → Q .ret s) : AW pg G 41 (.loop a49) Q st := by
  refine a02 Nat (fun i st => i ≤ data.length ∧ a2z w (data.drop i) i = a2z w data 0 ∧ st.s 1 = .var [slI sh, lb w, slI data] ∧ st.s 22 = slI data ∧ st.s 23 = li data.length ∧ st.s 24 = li i) (fun i => data.length - i) 0 ⟨by simp, rfl, h⟩ ?_
  clear h
  rintro i st K ⟨hi, hm, h⟩ hK
  by_cases hlt : i < data.length
  · rw [List.drop_eq_getElem_cons hlt, a2z] at hm
    simp (disch := omega) [go_sem, a49, h, hlt]
    refine a0w (e1f data[i] w) rfl rfl ?_
    cases hf : b1e data[i] w with
    | true =>
      rw [if_pos hf] at hm
      simp (disch := omega) [go_sem, h, hf]
      exact hK (i + 1) _ ⟨by omega, hm, by simp (disch := omega) [go_sem, h]⟩ (by omega)
    | false =>
      rw [if_neg (by simp [hf])] at hm
      simp (disch := omega) [go_sem, h, hf, hS.val]
      exact hret i hm.symm _ (by simp (disch := omega) [go_sem, a1p])
  · obtain rfl : i = data.length := by omega
    rw [List.drop_length, a2z] at hm
    simp (disch := omega) [go_sem, a49, h]
    exact hex hm.symm _
theorem b7l (hS : Sent3 G bk) (sh : List Int) (w : Bool) (data : List Int) (hlen : sh.length < 2 ^ 62) (hl : data.length < 2 ^ 62) : ACalls pg G c6o [e55 sh w data] (a1p bk (a4o sh w data)) := by
  refine b8r rfl ?_
  simp (disch := omega) [go_sem, b51]
  have hv := b34 (G := G) hS sh w hlen
  rcases a7u sh with e | e | e
  · have ok := a2j.1 e
    rw [e] at hv
    simp only [a1p] at hv
    refine a0w hv rfl rfl ?_
    simp (disch := omega) [go_sem]
    refine a2i ?_
    simp (disch := omega) [go_sem]
    refine a3r (c4v hS sh hlen) rfl rfl (by simp) [18] (by simp) (by simp (disch := omega) [go_sem]) ?_
    simp (disch := omega) [go_sem]
    refine a13 (by decide) fun s2 hs he => ?_
    by_cases hn : (data.length : Int) = a1n sh
    · simp (disch := omega) [go_sem, hs, hn]
      refine d4w (sh := sh) (w := w) (data := data) hS hl (by simp (disch := omega) [go_sem, hs, hn]) (fun hf s => ?_) (fun i hf s h => ?_)
      · simp (disch := omega) [go_sem, a4o, ok, hn, hf, d1e, a1p]
      · simp (disch := omega) [go_sem, a4o, ok, hn, hf, d1e, h]
    · simp (disch := omega) [go_sem, hs, hn, hS.val, a4o, ok, a1p]
  all_goals
    have ok : b9e sh = false := by
      cases hh : b9e sh
      · rfl
      · rw [a2j.2 hh] at e; cases e
    rw [e] at hv
    simp only [a1p] at hv
    refine a0w hv rfl rfl ?_
    simp (disch := omega) [go_sem, a4o, ok, e, a1p]
end
end Go.Ideal.Tryd
end
section
set_option linter.unusedVariables false
set_option linter.unusedSimpArgs false
set_option maxRecDepth 10000
namespace Go.Ideal.Tryd
theorem b36 (xs : List Int) : a0r (owU xs) = true := by simp only [a0r]; exact b0v fun x => by simp only [a0r]
@[go_sem] theorem d36 (xs : List Int) : a08 (xs.map lu) = true := b0v fun x => by simp only [a0r]
@[go_sem] theorem e9r (xs : List Int) : a0i (xs.map lu) = true := b5o fun x => by simp only [a0j]
@[go_sem] theorem e7b {α : Type} {f : α → AV} {xs : List α} {a : AV} : List.take (xs.length + 1) (xs.map f ++ [a]) = xs.map f ++ [a] := List.take_of_length_le (by simp)
@[go_sem] theorem e6l {α : Type} {f : α → AV} {xs : List α} {a b : AV} : List.take (xs.length + 2) (xs.map f ++ [a, b]) = xs.map f ++ [a, b] := List.take_of_length_le (by simp)
def a4q (w : Bool) (n : Int) : List Int := if w = true then [u8 n, u8 (n.fdiv 256), u8 (n.fdiv 65536), u8 (n.fdiv 16777216)] else [u8 n]
def b6l (w : Bool) (data : List Int) : List Int := data.flatMap (a4q w)
def le2 (k : Int) : List Int := [u8 k, u8 (k.fdiv 256)]
def a3h (sh : List Int) (w : Bool) : List Int := u8 (if w = true then (sh.length : Int) + 8 else sh.length) :: sh.flatMap le2
def a29 (sh : List Int) (w : Bool) (data : List Int) : List Int := a3h sh w ++ b6l w data
theorem a17 (w : Bool) (n : Int) : (a4q w n).length ≤ 4 := by unfold a4q; split <;> simp
theorem b6t (w : Bool) : ∀ data : List Int, (b6l w data).length ≤ 4 * data.length
  | [] => by simp [b6l]
  | n :: ns => by
    have h1 := a17 w n
    have h2 := b6t w ns
    simp only [b6l, List.flatMap_cons, List.length_append, List.length_cons] at h2 ⊢
    omega
theorem d34 : ∀ sh : List Int, (sh.flatMap le2).length = 2 * sh.length
  | [] => rfl
  | k :: ks => by simp only [List.flatMap_cons, List.length_append, d34 ks, le2, List.length_cons, List.length_nil]; omega
theorem a38 (sh : List Int) (w : Bool) : (a3h sh w).length = 2 * sh.length + 1 := by simp only [a3h, List.length_cons, d34]
section
variable {G : Nat → Option Value} {bk : Nat → Nat × Nat} {Q : Exit → St → Prop} {st : St}
theorem e8c (xs : List Int) (n : Int) (w : Bool) (h : xs.length < 2 ^ 40) : ACalls pg G d3d [owU xs, li n, lb w] (owU (xs ++ a4q w n)) := by
  refine c5j rfl ?_
  cases w <;> simp (disch := omega) [go_sem, c11, a4q]
theorem d8k (hS : Sent3 G bk) (sh : List Int) (w : Bool) (data : List Int) (hlen : sh.length < 2 ^ 62) (hl : data.length < 2 ^ 36) (hv : a4o sh w data = .nil) : ACalls pg G d2a [e55 sh w data] (owU (b6l w data)) := by
  refine c2y rfl ?_
  have h0 := b7l (G := G) hS sh w data hlen (by omega)
  rw [hv] at h0
  simp only [a1p] at h0
  have hr := a34 sh
  have hb : 0 ≤ a14 sh w ∧ a14 sh w ≤ 65536 := by unfold a14; split <;> omega
  simp (disch := omega) [go_sem, c1g]
  refine a0w h0 rfl rfl ?_
  simp (disch := omega) [go_sem]
  refine a0w (c3g hS sh w hlen) rfl rfl ?_
  simp (disch := omega) [go_sem]
  refine a02 (Nat × List Int) (fun p st => p.1 ≤ data.length ∧ p.2 ++ b6l w (data.drop p.1) = b6l w data ∧ p.2.length ≤ 4 * p.1 ∧ st.s 1 = .var [slI sh, lb w, slI data] ∧ st.s 14 = slI data ∧ st.s 15 = li data.length ∧ st.s 16 = li p.1 ∧ st.s 3 = owU p.2) (fun p => data.length - p.1) (0, []) ⟨by simp, rfl, by simp, by simp (disch := omega) [go_sem]⟩ ?_
  rintro ⟨i, bs⟩ st K ⟨hi, hm, hn, h⟩ hK
  simp only at hi hm hn h
  by_cases hlt : i < data.length
  · have hp := a17 w data[i]
    rw [List.drop_eq_getElem_cons hlt, b6l, List.flatMap_cons, ← List.append_assoc] at hm
    simp (disch := omega) [go_sem, b2y, h, hlt]
    refine a0w (e8c bs data[i] w (by omega)) rfl (b36 _) ?_
    simp (disch := omega) [go_sem, h]
    exact hK (i + 1, bs ++ a4q w data[i]) _ ⟨by simp only; omega, hm, by simp only [List.length_append]; omega, by simp (disch := omega) [go_sem, h]⟩ (by simp only; omega)
  · obtain rfl : i = data.length := by omega
    rw [List.drop_length, show b6l w [] = [] from rfl, List.append_nil] at hm
    subst hm
    simp (disch := omega) [go_sem, b2y, h]
theorem c8w {sh : List Int} {w : Bool} {data : List Int} (hlen : sh.length < 2 ^ 36) (h : st.s 1 = .var [slI sh, lb w, slI data] ∧ st.s 24 = slI sh ∧ st.s 25 = li sh.length ∧ st.s 26 = li 0 ∧ st.s 4 = owU [u8 (if w = true then (sh.length : Int) + 8 else sh.length)])
    (hex : ∀ s, s.s 1 = .var [slI sh, lb w, slI data] ∧ s.s 4 = owU (a3h sh w) → Q (.exit 0) s) : AW pg G 43 (.loop a47) Q st := by
  refine a02 (Nat × List Int) (fun p st => p.1 ≤ sh.length ∧ p.2 ++ (sh.drop p.1).flatMap le2 = a3h sh w ∧ p.2.length ≤ 2 * p.1 + 1 ∧ st.s 1 = .var [slI sh, lb w, slI data] ∧ st.s 24 = slI sh ∧ st.s 25 = li sh.length ∧ st.s 26 = li p.1 ∧ st.s 4 = owU p.2) (fun p => sh.length - p.1) (0, [u8 (if w = true then (sh.length : Int) + 8 else sh.length)]) ⟨by simp, rfl, by simp, h⟩ ?_
  clear h
  rintro ⟨i, bs⟩ st K ⟨hi, hm, hn, h⟩ hK
  simp only at hi hm hn h
  by_cases hlt : i < sh.length
  · rw [List.drop_eq_getElem_cons hlt, List.flatMap_cons, ← List.append_assoc] at hm
    simp (disch := omega) [go_sem, a47, h, hlt]
    exact hK (i + 1, bs ++ le2 sh[i]) _ ⟨by simp only; omega, hm, by simp only [List.length_append, le2, List.length_cons, List.length_nil]; omega, by simp (disch := omega) [go_sem, h, le2]⟩ (by simp only; omega)
  · obtain rfl : i = sh.length := by omega
    rw [List.drop_length, List.flatMap_nil, List.append_nil] at hm
    subst hm
    simp (disch := omega) [go_sem, a47, h]
    exact hex _ (by simp (disch := omega) [go_sem, h])
theorem d7d (hS : Sent3 G bk) (sh : List Int) (w : Bool) (data : List Int) (hl : data.length < 2 ^ 36) (hv : a4o sh w data = .nil) : ACalls pg G c8f [e55 sh w data] (owU (a29 sh w data)) := by
  have ok : b9e sh = true := by
    unfold a4o at hv
    split at hv
    · assumption
    · exact a2j.1 hv
  have hlen : sh.length ≤ 4 := by simp only [b9e, Bool.and_eq_true, decide_eq_true_eq] at ok; exact ok.1.1
  refine b8e rfl ?_
  have h0 := b7l (G := G) hS sh w data (by omega) (by omega)
  rw [hv] at h0
  simp only [a1p] at h0
  simp (disch := omega) [go_sem, b5v]
  refine a0w h0 rfl rfl ?_
  have e8 : u8 ((sh.length : Int)) = sh.length := d1v (by omega)
  have e9 : u8 ((sh.length : Int) + 8) = sh.length + 8 := d1v (by omega)
  have hrw := b6t w data
  have hdl := a38 sh w
  cases w
  · (simp (disch := omega) [go_sem, e8, e9]; refine c8w (sh := sh) (w := false) (data := data) (by omega) (by simp (disch := omega) [go_sem, e8, e9]) fun s h => ?_; simp (disch := omega) [go_sem, h]; refine a0w (d8k hS sh _ data (by omega) hl hv) rfl (b36 _) ?_; simp (disch := omega) [go_sem, h, a29])
  · (simp (disch := omega) [go_sem, e8, e9]; refine c8w (sh := sh) (w := true) (data := data) (by omega) (by simp (disch := omega) [go_sem, e8, e9]) fun s h => ?_; simp (disch := omega) [go_sem, h]; refine a0w (d8k hS sh _ data (by omega) hl hv) rfl (b36 _) ?_; simp (disch := omega) [go_sem, h, a29])
end
end Go.Ideal.Tryd
end
