/- Part Qar of the proof: a machine with trees for values, its soundness, and walks on it. -/
import Derived.Test.YtfncabcldhemkaaDoorQap
set_option linter.unusedVariables false
set_option linter.unusedSimpArgs false
set_option maxRecDepth 10000
section
namespace Go.Ideal.Tryd
def a90 (l : List Int) (i : Nat) : Int := 4 * (c53 l[i]! 50 + 1)
def pkS (l : List Int) (m : Bool) (i : Nat) : Sp := ⟨3 * i, if m = true then 1000 else 3 * i + 1, 0, a90 l i⟩
def a4c (l : List Int) : Nat -> Int
 | 0 => 0
 | i + 1 => a4c l i + a90 l i
def a5m (l : List Int) : Nat -> Int
 | 0 => 0
 | i + 1 => max (a5m l i) (a90 l i)
def pkF (l : List Int) (m : Bool) (i : Nat) : Int := if m = true then a4c l i else 0
theorem a72 {l : List Int} {i : Nat} : 4 <= a90 l i /\ a90 l i <= 200 /\ a90 l i % 4 = 0 := by
 have := b13 (n := l[i]!) (m := 50) (by omega)
 unfold a90; omega
theorem b3a {l : List Int} : ∀ {i : Nat}, 0 <= a4c l i /\ a4c l i <= 200 * i /\ a4c l i % 4 = 0
 | 0 => by simp [a4c]
 | i + 1 => by
  have h1 := a72 (l := l) (i := i)
  have h2 := b3a (l := l) (i := i)
  rw [a4c]; omega
theorem b0w {l : List Int} {i : Nat} : ∀ {j : Nat}, i <= j -> a4c l i <= a4c l j
 | 0, h => by obtain rfl : i = 0 := by omega
              exact Int.le_refl _
 | j + 1, h => by
  rcases Nat.lt_or_ge j i with h2 | h2
  ·obtain rfl : i = j + 1 := by omega
   exact Int.le_refl _
  ·have h1 := a72 (l := l) (i := j)
   have := b0w (l := l) (i := i) (j := j) h2
   rw [a4c]; omega
theorem c17 {l : List Int} {m : Int} (h0 : 0 <= m) : ∀ {j : Nat}, m < a4c l j -> ∃ k, k < j /\ a4c l k <= m /\ m < a4c l k + a90 l k
 | 0, h => by simp [a4c] at h; omega
 | j + 1, h => by
  by_cases c : m < a4c l j
  ·obtain ⟨k, h1, h2⟩ := c17 h0 c
   exact ⟨k, by omega, h2⟩
  ·rw [a4c] at h
   exact ⟨j, by omega, by omega, h⟩
theorem b8n {l : List Int} {i : Nat} : ∀ {j : Nat}, i < j -> a90 l i <= a5m l j
 | j + 1, h => by
  rw [a5m]
  rcases Nat.lt_or_ge i j with h2 | h2
  ·have := b8n (l := l) (i := i) (j := j) h2; omega
  ·obtain rfl : i = j := by omega
   omega
theorem b8o {l : List Int} : ∀ {j : Nat}, 0 < j -> ∃ k, k < j /\ a90 l k = a5m l j
 | j + 1, _ => by
  rw [a5m]
  have h1 := a72 (l := l) (i := j)
  rcases Nat.eq_zero_or_pos j with h2 | h2
  ·subst h2
   exact ⟨0, by omega, by simp only [a5m]; omega⟩
  ·obtain ⟨k, h3, h4⟩ := b8o (l := l) h2
   by_cases c : a5m l j <= a90 l j
   ·exact ⟨j, by omega, by omega⟩
   ·exact ⟨k, by omega, by omega⟩
theorem c9j {l : List Int} {m : Bool} {n : Nat} (hn : n <= 30) : a40 ((List.range n).map (pkS l m)) = ((List.range n).map (pkF l m), if m = true then a4c l n else a5m l n) := by
 have hl := fun j => a72 (l := l) (i := j)
 have hs := fun j => b3a (l := l) (i := j)
 have hlen : ∀ j, (pkS l m j).len = a90 l j := fun _ => rfl
 refine b8p (fun j hj => ⟨by rw [hlen]; have := hl j; omega, by rw [hlen]; have := hl j; omega, ?_, ?_, ?_⟩) (fun j hj k hk hc => ?_) (fun j hj q hq0 hq hq4 => ?_) (fun j hj => ?_) ?_
 ·have := hs j; unfold pkF; split <;> omega
 ·have := hs j; unfold pkF; split <;> omega
 ·have := hs j; unfold pkF; split <;> omega
 ·obtain ⟨c1, c2, c3, c4⟩ := hc
  rw [hlen] at c3 c4
  cases m with
  | true =>
   have h1 := b0w (l := l) (i := k + 1) (j := j) (by omega)
   simp only [pkF, if_true] at c3
   rw [a4c] at h1
   omega
  | false =>
   simp [pkS] at c2
   omega
 ·cases m with
  | true =>
   simp only [pkF, if_true] at hq
   obtain ⟨k, h1, h2, h3⟩ := c17 hq0 hq
   have := hl k
   have := hl j
   refine ⟨k, h1, by rw [hlen]; omega, ?_, by rw [hlen]; simp only [pkF, if_true]; omega, by rw [hlen]; simp only [pkF, if_true]; omega⟩
   simp [pkS]; omega
  | false => simp [pkF] at hq; omega
 ·rw [hlen]
  cases m with
  | true =>
   simp only [pkF, if_true]
   have := b0w (l := l) (i := j + 1) (j := n) (by omega)
   rw [a4c] at this
   exact this
  | false =>
   have := b8n (l := l) hj
   simp [pkF]; omega
 ·rcases Nat.eq_zero_or_pos n with h | h
  ·subst h
   exact .inr ⟨rfl, by cases m <;> rfl⟩
  ·left
   cases m with
   | true =>
    obtain ⟨k, rfl⟩ : ∃ k, n = k + 1 := ⟨n - 1, by omega⟩
    exact ⟨k, by omega, by rw [hlen]; simp only [pkF, if_true, a4c]⟩
   | false =>
    obtain ⟨k, h1, h2⟩ := b8o (l := l) h
    exact ⟨k, h1, by rw [hlen, h2]; simp [pkF]⟩
section
variable {G : GG} {bk : Nat -> Nat × Nat} {Q : Exit -> St -> Prop} {st : St}
theorem c5p {l : List Int} {m : Bool} (hl : l.length <= 30) (h : st.s 0 = slI l /\ st.s 1 = lb m /\ st.s 5 = lb true /\ st.s 6 = owS [] /\ st.s 7 = li 0 /\ st.s 8 = li 0 /\ st.s 9 = owI [] /\ st.s 10 = li 0)
  (hex : ∀ s : St, s.s 0 = slI l /\ s.s 1 = lb m /\ s.s 6 = owS ((List.range l.length).map (pkS l m)) /\ s.s 7 = li (a4c l l.length) /\ s.s 8 = li (a5m l l.length) /\ s.s 9 = owI ((List.range l.length).map (pkF l m)) -> Q (.exit 0) s) : AW pg G 106 (.loop a1w) Q st := by
 refine a06 (Nat × List Sp × List Int) (fun p st => p.1 <= l.length /\ p.2.1 = (List.range p.1).map (pkS l m) /\ p.2.2 = (List.range p.1).map (pkF l m) /\ st.s 0 = slI l /\ st.s 1 = lb m /\ st.s 5 = lb true /\ st.s 6 = owS p.2.1 /\ st.s 7 = li (a4c l p.1) /\ st.s 8 = li (a5m l p.1) /\ st.s 9 = owI p.2.2 /\ st.s 10 = li p.1) (fun p => l.length - p.1) (0, [], []) ⟨by simp, rfl, rfl, by simpa [a4c, a5m] using h⟩ ?_
 clear h
 rintro ⟨j, ss, fs⟩ st K ⟨hj, hs, hf, h⟩ hK
 simp only at hj hs hf h
 have hsl : ss.length = j := by rw [hs]; simp
 have hfl : fs.length = j := by rw [hf]; simp
 by_cases c : j < l.length
 ·have hg : l[j]! = l[j] := a8m c
  have hnum := b52 (G := G) l[j] 50 (by omega) (by omega)
  have hrg := b13 (n := l[j]) (m := 50) (by omega)
  have hlen : a90 l j = 4 * (c53 l[j] 50 + 1) := by rw [a90, hg]
  have e1 : ss ++ [pkS l m j] = (List.range (j + 1)).map (pkS l m) := by rw [hs, List.range_succ, List.map_append]; rfl
  have e2 : fs ++ [pkF l m j] = (List.range (j + 1)).map (pkF l m) := by rw [hf, List.range_succ, List.map_append]; rfl
  have hps := b3a (l := l) (i := j)
  generalize hnv : c53 l[j] 50 = nv at *
  simp (disch := omega) [go_sem, a1w, h, c]
  refine a0j hnum rfl rfl ?_
  cases m with
  | true =>
   simp (disch := omega) [go_sem, h, c]
   exact hK (j + 1, ss ++ [pkS l true j], fs ++ [pkF l true j]) _ ⟨by simp only; omega, e1, e2, by simp (disch := omega) [go_sem, h, hsl, hfl, a8s, a7e, eS, pkS, pkF, a4c, a5m, hlen, b0o]⟩ (by simp only; omega)
  | false =>
   simp (disch := omega) [go_sem, h, c]
   exact hK (j + 1, ss ++ [pkS l false j], fs ++ [pkF l false j]) _ ⟨by simp only; omega, e1, e2, by simp (disch := omega) [go_sem, h, hsl, hfl, a8s, a7e, eS, pkS, pkF, a4c, a5m, hlen, b0o]⟩ (by simp only; omega)
 ·have : j = l.length := by omega
  subst this
  subst hs
  subst hf
  simp (disch := omega) [go_sem, a1w, h]
  exact hex _ (by simp (disch := omega) [go_sem, h])
theorem c5q {fs : List Int} {m : Bool} {a b n : Int} (hl : fs.length <= 30) (h : st.s 1 = lb m /\ st.s 7 = li a /\ st.s 8 = li b /\ st.s 9 = owI fs /\ st.s 13 = owI fs /\ st.s 14 = li n /\ st.s 15 = li 0)
  (hex : ∀ s : St, s.s 1 = lb m /\ s.s 7 = li a /\ s.s 8 = li b /\ s.s 14 = li n -> Q (.exit 2) s) : AW pg G 106 (.loop a1x) Q st := by
 refine a06 Nat (fun j st => j <= fs.length /\ st.s 1 = lb m /\ st.s 7 = li a /\ st.s 8 = li b /\ st.s 9 = owI fs /\ st.s 13 = owI fs /\ st.s 14 = li n /\ st.s 15 = li j) (fun j => fs.length - j) 0 ⟨by simp, by simpa using h⟩ ?_
 clear h
 rintro j st K ⟨hj, h⟩ hK
 by_cases c : j < fs.length
 ·simp (disch := omega) [go_sem, a1x, h, c]
  refine a0b ?_
  simp (disch := omega) [go_sem, h, c]
  refine a0d (by decide) fun s2 hs2 hep => ?_
  simp (disch := omega) [go_sem, hs2, hep, h]
  exact hK (j + 1) _ ⟨by omega, by simp (disch := omega) [go_sem, hs2, hep, h]⟩ (by omega)
 ·have : j = fs.length := by omega
  subst this
  simp (disch := omega) [go_sem, a1x, h]
  exact hex _ (by simp (disch := omega) [go_sem, h])
theorem d2u (hS : SentO G bk) (hA : Around G bk) (l : List Int) (m : Bool) (hlen : l.length < 2 ^ 62) : ACalls pg G a7h [slI l, lb m] (lb true) := by
 refine a54 rfl ?_
 simp (disch := omega) [go_sem, a39]
 refine a0j (c44 hS hA) rfl rfl ?_
 by_cases c : 30 < l.length
 ·have c' : (30 : Int) < l.length := by omega
  simp (disch := omega) [go_sem, c']
 ·have c' : ¬ (30 : Int) < l.length := by omega
  simp (disch := omega) [go_sem, c']
  refine c5p (l := l) (m := m) (by omega) (by simp (disch := omega) [go_sem, a8t]) (fun s h => ?_)
  have hpl := c9j (l := l) (m := m) (n := l.length) (by omega)
  have spec := c57 (G := G) ((List.range l.length).map (pkS l m)) (by simp; omega) (fun x hx => by
   obtain ⟨j, _, rfl⟩ := List.mem_map.1 hx
   have := a72 (l := l) (i := j)
   simp only [pkS]; omega)
  rw [hpl] at spec
  simp only at spec
  have hl1 : ((List.range l.length).map (pkS l m)).length = l.length := by simp
  have hl2 : ((List.range l.length).map (pkF l m)).length = l.length := by simp
  generalize (List.range l.length).map (pkS l m) = ss at *
  generalize (List.range l.length).map (pkF l m) = fs at *
  simp (disch := omega) [go_sem, h]
  refine a6y spec (by simp [go_sem, a0r]) ?_ ?_
  all_goals
   simp (disch := omega) [go_sem, h, hl2]
   refine c5q (fs := fs) (m := m) (a := a4c l l.length) (b := a5m l l.length) (n := if m = true then a4c l l.length else a5m l l.length) (by omega) (by simp (disch := omega) [go_sem, h, hl2]) (fun s2 h2 => ?_)
   cases m <;> simp (disch := omega) [go_sem, h2]
end
end Go.Ideal.Tryd
end
