/- Part Qah of the proof: a machine with trees for values, its soundness, and walks on it. -/
import Derived.Test.YtfncabcldhemkaaDoorQag
set_option linter.unusedVariables false
set_option linter.unusedSimpArgs false
set_option maxHeartbeats 4000000
set_option maxRecDepth 10000
section
namespace Go.Ideal.Tryd
def a5q (k : Int) : Bool := decide (1 <= k /\ k <= 256)
def a58 : List Int -> Int -> Int
 | [], n => n
 | k :: ks, n => a58 ks (n * k)
def a08 (sh : List Int) : Er := if 4 < sh.length then .s 2 else if sh.all a5q = true then (if 16384 < a58 sh 1 then .s 2 else .nil) else .s 3
def c08 (sh : List Int) : Bool := decide (sh.length <= 4) && sh.all a5q && decide (a58 sh 1 <= 16384)
def a5h (sh : List Int) : Int := if c08 sh = true then a58 sh 1 else 0
theorem b14 : ∀ {ks : List Int} {n : Int}, ks.all a5q = true -> 0 <= n -> n <= a58 ks n
 | [], n, _, _ => Int.le_refl _
 | k :: ks, n, h, hn => by
  simp only [List.all_cons, Bool.and_eq_true] at h
  obtain ⟨ha, hb⟩ := h
  simp only [a5q, decide_eq_true_eq] at ha
  have h1 : n * 1 <= n * k := Int.mul_le_mul_of_nonneg_left ha.1 hn
  exact Int.le_trans (b := n * k) (by omega) (b14 (ks := ks) (n := n * k) hb (by omega))
theorem a6z {sh : List Int} : a08 sh = .nil ↔ c08 sh = true := by
 unfold a08 c08
 by_cases h1 : 4 < sh.length
 ·have : ¬ sh.length <= 4 := by omega
  simp [h1, this]
 ·have h1' : sh.length <= 4 := by omega
  by_cases h2 : sh.all a5q = true
  ·by_cases h3 : 16384 < a58 sh 1
   ·have : ¬ a58 sh 1 <= 16384 := by omega
    simp [h1, h2, h3, this]
   ·have : a58 sh 1 <= 16384 := by omega
    simp [h1, h1', h2, h3, this]
  ·simp [h1, h2]
theorem a5g (sh : List Int) : a08 sh = .nil \/ a08 sh = .s 2 \/ a08 sh = .s 3 := by
 unfold a08
 split
 ·simp
 ·split
  ·split <;> simp
  ·simp
@[go_sem] theorem a0t {bk : Nat -> Nat × Nat} (e : Er) : a0r (a0v bk e) = true := (c4x e).1
@[go_sem] theorem d48 {bk : Nat -> Nat × Nat} (e : Er) : a0l (a0v bk e) = true := (c4x e).2
section
variable {G : GG} {bk : Nat -> Nat × Nat} {Q : Exit -> St -> Prop} {st : St}
theorem c93 (hS : Sent3 G bk) {sh : List Int} {w : Bool} (hl : sh.length <= 4) (h : st.s 1 = .var [slI sh, lb w] /\ st.s 14 = slI sh /\ st.s 15 = li sh.length /\ st.s 16 = li 0 /\ st.s 3 = li 1)
  (hex : sh.all a5q = true -> ∀ s, s.s 1 = .var [slI sh, lb w] /\ s.s 3 = li 1 -> Q (.exit 0) s) (hret : sh.all a5q = false -> ∀ s, s.s 2 = sv bk 3 -> Q .ret s) : AW pg G 42 (.loop a2n) Q st := by
 refine a06 Nat (fun i st => i <= sh.length /\ (sh.drop i).all a5q = sh.all a5q /\ st.s 1 = .var [slI sh, lb w] /\ st.s 14 = slI sh /\ st.s 15 = li sh.length /\ st.s 16 = li i /\ st.s 3 = li 1) (fun i => sh.length - i) 0 ⟨by simp, rfl, h⟩ ?_
 clear h
 rintro i st K ⟨hi, hm, h⟩ hK
 by_cases hlt : i < sh.length
 ·rw [List.drop_eq_getElem_cons hlt, List.all_cons] at hm
  by_cases k1 : sh[i] < 1
  ·have d : a5q sh[i] = false := by simp [a5q]; omega
   rw [d] at hm
   simp (disch := omega) [go_sem, a2n, h, hlt, k1, hS.val]
   exact hret hm.symm _ (by simp (disch := omega) [go_sem])
  ·by_cases k2 : 256 < sh[i]
   ·have d : a5q sh[i] = false := by simp [a5q]; omega
    rw [d] at hm
    simp (disch := omega) [go_sem, a2n, h, hlt, k1, k2, hS.val]
    exact hret hm.symm _ (by simp (disch := omega) [go_sem])
   ·have d : a5q sh[i] = true := by simp [a5q]; omega
    rw [d] at hm
    simp (disch := omega) [go_sem, a2n, h, hlt, k1, k2, hS.val]
    exact hK (i + 1) _ ⟨by omega, hm, by simp (disch := omega) [go_sem, h]⟩ (by omega)
 ·obtain rfl : i = sh.length := by omega
  rw [List.drop_length] at hm
  simp (disch := omega) [go_sem, a2n, h]
  exact hex hm.symm _ (by simp (disch := omega) [go_sem, h])
theorem c94 (hS : Sent3 G bk) {sh : List Int} (hl : sh.length <= 4) (hd : sh.all a5q = true) (h : st.s 29 = slI sh /\ st.s 30 = li sh.length /\ st.s 31 = li 0 /\ st.s 3 = li 1)
  (hex : a58 sh 1 <= 16384 -> ∀ s, Q (.exit 2) s) (hret : 16384 < a58 sh 1 -> ∀ s, s.s 2 = sv bk 2 -> Q .ret s) : AW pg G 42 (.loop a3i) Q st := by
 refine a06 (Nat × Int) (fun p st => p.1 <= sh.length /\ a58 (sh.drop p.1) p.2 = a58 sh 1 /\ 1 <= p.2 /\ p.2 <= 16384 /\ (sh.drop p.1).all a5q = true /\ st.s 29 = slI sh /\ st.s 30 = li sh.length /\ st.s 31 = li p.1 /\ st.s 3 = li p.2) (fun p => sh.length - p.1) (0, 1) ⟨by simp, rfl, by simp, by simp, by simpa using hd, h⟩ ?_
 clear h
 rintro ⟨i, n⟩ st K ⟨hi, hm, hn1, hn2, ha, h⟩ hK
 simp only at hi hm hn1 hn2 ha h
 by_cases hlt : i < sh.length
 ·rw [List.drop_eq_getElem_cons hlt] at hm ha
  simp only [List.all_cons, Bool.and_eq_true] at ha
  have hd1 := ha.1
  simp only [a5q, decide_eq_true_eq] at hd1
  simp only [a58] at hm
  have b1 : n * 1 <= n * sh[i] := Int.mul_le_mul_of_nonneg_left hd1.1 (by omega)
  have b2 : n * sh[i] <= 16384 * 256 := Int.mul_le_mul hn2 hd1.2 (by omega) (by omega)
  by_cases k : 16384 < n * sh[i]
  ·have g := b14 ha.2 (show 0 <= n * sh[i] by omega)
   simp (disch := omega) [go_sem, a3i, h, hlt, k, hS.val]
   exact hret (by omega) _ (by simp (disch := omega) [go_sem])
  ·simp (disch := omega) [go_sem, a3i, h, hlt, k, hS.val]
   exact hK (i + 1, n * sh[i]) _ ⟨by simp only; omega, hm, by simp only; omega, by simp only; omega, ha.2, by simp (disch := omega) [go_sem, h]⟩ (by simp only; omega)
 ·obtain rfl : i = sh.length := by omega
  rw [List.drop_length, a58] at hm
  simp (disch := omega) [go_sem, a3i, h]
  exact hex (by omega) _
theorem a03 (hS : Sent3 G bk) (sh : List Int) (w : Bool) (hlen : sh.length < 2 ^ 62) : ACalls pg G b5f [.agg [slI sh, lb w]] (a0v bk (a08 sh)) := by
 refine b1x rfl ?_
 by_cases h4 : 4 < sh.length
 ·have h4' : (4 : Int) < sh.length := by omega
  simp (disch := omega) [go_sem, a67, h4', a08, h4, hS.val, a0v]
 ·have h4' : ¬ (4 : Int) < sh.length := by omega
  simp (disch := omega) [go_sem, a67, h4', hS.val]
  refine c93 (sh := sh) (w := w) hS (by omega) (by simp (disch := omega) [go_sem]) (fun hd s h => ?_) (fun hd s h => by simp (disch := omega) [go_sem, h, a08, h4, hd, a0v])
  simp (disch := omega) [go_sem, h]
  refine c94 (sh := sh) hS (by omega) hd (by simp (disch := omega) [go_sem, h]) (fun hp s => ?_) (fun hp s h => by simp (disch := omega) [go_sem, h, a08, h4, hd, hp, a0v])
  have hp' : ¬ 16384 < a58 sh 1 := by omega
  simp (disch := omega) [go_sem, a08, h4, hd, hp', a0v]
theorem d15 (hS : Sent3 G bk) (sh : List Int) (hlen : sh.length < 2 ^ 62) : ACalls pg G b64 [slI sh] (lb (c08 sh)) := by
 refine b3m rfl ?_
 simp (disch := omega) [go_sem, b1o]
 have hv := a03 (G := G) hS sh false hlen
 rcases a5g sh with e | e | e <;> rw [e] at hv <;> simp only [a0v] at hv
 ·refine a0j hv rfl rfl ?_
  simp (disch := omega) [go_sem, a6z.1 e]
 all_goals
  have n : c08 sh = false := by
   cases hh : c08 sh
   ·rfl
   ·rw [a6z.2 hh] at e; cases e
  refine a0j hv rfl rfl ?_
  simp (disch := omega) [go_sem, n]
theorem b10 (hS : Sent3 G bk) (sh : List Int) (hlen : sh.length < 2 ^ 62) : ACalls pg G b5e [slI sh] (li (a5h sh)) := by
 refine b1w rfl ?_
 simp (disch := omega) [go_sem, b0b]
 refine a0j (d15 hS sh hlen) rfl rfl ?_
 cases hok : c08 sh with
 | false => simp (disch := omega) [go_sem, hok, a5h]
 | true =>
  simp (disch := omega) [go_sem, hok, a5h]
  simp only [c08, Bool.and_eq_true, decide_eq_true_eq] at hok
  refine a06 (Nat × Int) (fun p st => p.1 <= sh.length /\ a58 (sh.drop p.1) p.2 = a58 sh 1 /\ 1 <= p.2 /\ (sh.drop p.1).all a5q = true /\ st.s 9 = slI sh /\ st.s 10 = li sh.length /\ st.s 11 = li p.1 /\ st.s 3 = li p.2) (fun p => sh.length - p.1) (0, 1) ⟨by simp, rfl, by simp, by simpa using hok.1.2, by simp (disch := omega) [go_sem]⟩ ?_
  rintro ⟨i, n⟩ st K ⟨hi, hm, hn1, ha, h⟩ hK
  simp only at hi hm hn1 ha h
  by_cases hlt : i < sh.length
  ·rw [List.drop_eq_getElem_cons hlt] at hm ha
   simp only [List.all_cons, Bool.and_eq_true] at ha
   have hd1 := ha.1
   simp only [a5q, decide_eq_true_eq] at hd1
   simp only [a58] at hm
   have b1 : n * 1 <= n * sh[i] := Int.mul_le_mul_of_nonneg_left hd1.1 (by omega)
   have g := b14 ha.2 (show 0 <= n * sh[i] by omega)
   simp (disch := omega) [go_sem, a6a, h, hlt]
   exact hK (i + 1, n * sh[i]) _ ⟨by simp only; omega, hm, by simp only; omega, ha.2, by simp (disch := omega) [go_sem, h]⟩ (by simp only; omega)
  ·obtain rfl : i = sh.length := by omega
   rw [List.drop_length, a58] at hm
   simp (disch := omega) [go_sem, a6a, h, hm]
def a38 (sh : List Int) (w : Bool) : Int := if w = true then 4 * a5h sh else a5h sh
theorem a8c (sh : List Int) : 0 <= a5h sh /\ a5h sh <= 16384 := by
 unfold a5h
 split
 ·rename_i h
  simp only [c08, Bool.and_eq_true, decide_eq_true_eq] at h
  have := b14 (n := 1) h.1.2 (by omega)
  omega
 ·omega
theorem c7y (hS : Sent3 G bk) (sh : List Int) (w : Bool) (hlen : sh.length < 2 ^ 62) : ACalls pg G b5c [.agg [slI sh, lb w]] (li (a38 sh w)) := by
 refine b1u rfl ?_
 have hr := a8c sh
 cases w <;> simp (disch := omega) [go_sem, a99] <;> refine a0j (b10 hS sh hlen) rfl rfl ?_ <;> simp (disch := omega) [go_sem, a38]
def c45 (n : Int) (w : Bool) : Bool := if w = true then decide (-2147483648 <= n /\ n <= 2147483647) else decide (-128 <= n /\ n <= 127)
theorem d16 (n : Int) (w : Bool) : ACalls pg G b9i [li n, lb w] (lb (c45 n w)) := by
 refine b39 rfl ?_
 cases w
 ·by_cases h1 : -128 <= n <;> by_cases h2 : n <= 127 <;> simp (disch := omega) [go_sem, a9c, c45, h1, h2]
 ·by_cases h1 : -2147483648 <= n <;> by_cases h2 : n <= 2147483647 <;> simp (disch := omega) [go_sem, a9c, c45, h1, h2]
def a41 (w : Bool) : List Int -> Nat -> Option Nat
 | [], _ => none
 | n :: ns, i => if c45 n w = true then a41 w ns (i + 1) else some i
def c59 : Option Nat -> Er
 | none => .nil
 | some i => .at i (.s 3)
def b0e (sh : List Int) (w : Bool) (data : List Int) : Er := if c08 sh = true then (if (data.length : Int) = a5h sh then c59 (a41 w data 0) else .s 6) else a08 sh
abbrev g0u (sh : List Int) (w : Bool) (data : List Int) : AV := .agg [slI sh, lb w, slI data]
theorem c62 (hS : Sent3 G bk) {sh : List Int} {w : Bool} {data : List Int} (hl : data.length < 2 ^ 62) (h : st.s 1 = .var [slI sh, lb w, slI data] /\ st.s 22 = slI data /\ st.s 23 = li data.length /\ st.s 24 = li 0)
  (hex : a41 w data 0 = none -> ∀ s, Q (.exit 0) s) (hret : ∀ i, a41 w data 0 = some i -> ∀ s, s.s 2 = a0v bk (.at i (.s 3)) -> Q .ret s) : AW pg G 41 (.loop a49) Q st := by
 refine a06 Nat (fun i st => i <= data.length /\ a41 w (data.drop i) i = a41 w data 0 /\ st.s 1 = .var [slI sh, lb w, slI data] /\ st.s 22 = slI data /\ st.s 23 = li data.length /\ st.s 24 = li i) (fun i => data.length - i) 0 ⟨by simp, rfl, h⟩ ?_
 clear h
 rintro i st K ⟨hi, hm, h⟩ hK
 by_cases hlt : i < data.length
 ·rw [List.drop_eq_getElem_cons hlt, a41] at hm
  simp (disch := omega) [go_sem, a49, h, hlt]
  refine a0j (d16 data[i] w) rfl rfl ?_
  cases hf : c45 data[i] w with
  | true =>
   rw [if_pos hf] at hm
   simp (disch := omega) [go_sem, h, hf]
   exact hK (i + 1) _ ⟨by omega, hm, by simp (disch := omega) [go_sem, h]⟩ (by omega)
  | false =>
   rw [if_neg (by simp [hf])] at hm
   simp (disch := omega) [go_sem, h, hf, hS.val]
   exact hret i hm.symm _ (by simp (disch := omega) [go_sem, a0v])
 ·obtain rfl : i = data.length := by omega
  rw [List.drop_length, a41] at hm
  simp (disch := omega) [go_sem, a49, h]
  exact hex hm.symm _
theorem c61 (hS : Sent3 G bk) (sh : List Int) (w : Bool) (data : List Int) (hlen : sh.length < 2 ^ 62) (hl : data.length < 2 ^ 62) : ACalls pg G b65 [g0u sh w data] (a0v bk (b0e sh w data)) := by
 refine b3q rfl ?_
 simp (disch := omega) [go_sem, b1p]
 have hv := a03 (G := G) hS sh w hlen
 rcases a5g sh with e | e | e
 ·have ok := a6z.1 e
  rw [e] at hv
  simp only [a0v] at hv
  refine a0j hv rfl rfl ?_
  simp (disch := omega) [go_sem]
  refine a0b ?_
  simp (disch := omega) [go_sem]
  refine a02 (b10 hS sh hlen) rfl rfl (by simp) [18] (by simp) (by simp (disch := omega) [go_sem]) ?_
  simp (disch := omega) [go_sem]
  refine a0d (by decide) fun s2 hs he => ?_
  by_cases hn : (data.length : Int) = a5h sh
  ·simp (disch := omega) [go_sem, hs, hn]
   refine c62 (sh := sh) (w := w) (data := data) hS hl (by simp (disch := omega) [go_sem, hs, hn]) (fun hf s => ?_) (fun i hf s h => ?_)
   ·simp (disch := omega) [go_sem, b0e, ok, hn, hf, c59, a0v]
   ·simp (disch := omega) [go_sem, b0e, ok, hn, hf, c59, h]
  ·simp (disch := omega) [go_sem, hs, hn, hS.val, b0e, ok, a0v]
 all_goals
  have ok : c08 sh = false := by
   cases hh : c08 sh
   ·rfl
   ·rw [a6z.2 hh] at e; cases e
  rw [e] at hv
  simp only [a0v] at hv
  refine a0j hv rfl rfl ?_
  simp (disch := omega) [go_sem, b0e, ok, e, a0v]
end
end Go.Ideal.Tryd
end
section
namespace Go.Ideal.Tryd
@[go_sem] theorem e1y (xs : List Int) : a04 (xs.map lu) = true := b0s fun x => by simp only [a0x]
@[go_sem] theorem e2a (xs : List Int) : a0n (xs.map lu) = true := b0u fun x => by simp only [a0l]
@[go_sem] theorem e4o {α : Type} {f : α -> AV} {xs : List α} {a : AV} : List.take (xs.length + 1) (xs.map f ++ [a]) = xs.map f ++ [a] := List.take_of_length_le (by simp)
@[go_sem] theorem e4p {α : Type} {f : α -> AV} {xs : List α} {a b : AV} : List.take (xs.length + 2) (xs.map f ++ [a, b]) = xs.map f ++ [a, b] := List.take_of_length_le (by simp)
section
variable {G : GG} {bk : Nat -> Nat × Nat} {Q : Exit -> St -> Prop} {st : St}
end
end Go.Ideal.Tryd
end
section
namespace Go.Ideal.Tryd
structure Gr where
 nodes : List Nd
 out : Int
abbrev slN (ns : List Nd) : AV := .sl ns.length (fm a5u ns)
abbrev d5p (g : Gr) : AV := .agg [slN g.nodes, li g.out]
def a7r (n : Nd) : List AV := [li n.op, owI n.ins, owI n.args, owI n.shape, lb n.wide, owI n.data]
@[go_sem] theorem c8b {xs : List Nd} : (fm a7r xs).length = xs.length * 6 := a6e fun _ => rfl
@[go_sem] theorem a7s {xs : List Nd} : (fm a7r xs).take (xs.length * 6) = fm a7r xs := a4b fun _ => rfl
@[go_sem] theorem b5r {xs : List Nd} : a1n (fm a7r xs) = fm a5u xs := by
 rw [a7d]
 congr 1
 funext n
 simp [a7r, a5u, go_sem]
@[go_sem] theorem d49 {xs : List Nd} : a04 (fm a7r xs) = true := a8d fun n => by simp [a7r, go_sem]
theorem b2y (xs : List Int) : a0x (owI xs) = true := by simp only [a0x]; exact a2c xs
section
variable {G : GG} {bk : Nat -> Nat × Nat} {Q : Exit -> St -> Prop} {st : St}
structure Nd.fin (n : Nd) : Prop where
 ins : n.ins.length < 2 ^ 62
 args : n.args.length < 2 ^ 62
 shape : n.shape.length < 2 ^ 62
 data : n.data.length < 2 ^ 62
structure Nd.sh (n : Nd) : Prop where
 ins : n.ins.length < 2 ^ 36
 args : n.args.length < 2 ^ 36
 shape : n.shape.length < 2 ^ 36
 data : n.data.length < 2 ^ 36
end
end Go.Ideal.Tryd
end
section
namespace Go.Ideal.Tryd
section
variable {G : GG} {bk : Nat -> Nat × Nat} {Q : Exit -> St -> Prop} {st : St}
theorem c1e (sh : List Int) (w : Bool) (data : List Int) : b0e sh w data = .nil \/ (∃ g, g < 21 /\ b0e sh w data = .s g) \/ ∃ p g, g < 21 /\ b0e sh w data = .at p (.s g) := by
 unfold b0e
 split
 ·split
  ·cases a41 w data 0 with
   | none => exact .inl rfl
   | some i => exact .inr (.inr ⟨i, 3, by decide, rfl⟩)
  ·exact .inr (.inl ⟨6, by decide, rfl⟩)
 ·rcases a5g sh with e | e | e <;> rw [e]
  ·exact .inl rfl
  ·exact .inr (.inl ⟨2, by decide, rfl⟩)
  ·exact .inr (.inl ⟨3, by decide, rfl⟩)
end
end Go.Ideal.Tryd
end
section
namespace Go.Ideal.Tryd
structure Nd.good (n : Nd) : Prop where
 ins : n.ins.length <= 8
 args : n.args.length <= 8
 tens : n.op = 2 -> b0e n.shape n.wide n.data = .nil
section
variable {G : GG} {bk : Nat -> Nat × Nat} {Q : Exit -> St -> Prop} {st : St}
end
end Go.Ideal.Tryd
end
section
namespace Go.Ideal
theorem b99 {α : Type} {f : α -> List AV} {k : Nat} {xs : List α} (hf : ∀ x, (f x).length = k) {i j : Nat} (h : i < xs.length) (hj : j < k) : (fm f xs)[i * k + j]? = (f xs[i])[j]? := by
 have h1 := b05 (f := f) (k := k) hf h
 rw [<- h1, List.getElem?_take, if_pos hj, List.getElem?_drop]
theorem d0i {α : Type} {f : α -> List AV} {k : Nat} {xs : List α} (hf : ∀ x, (f x).length = k) {i j m : Nat} (h : i < xs.length) (hj : j + m <= k) : ((fm f xs).drop (i * k + j)).take m = ((f xs[i]).drop j).take m := by
 have h1 := b05 (f := f) (k := k) hf h
 rw [<- h1, List.drop_take, List.take_take, List.drop_drop, Nat.min_eq_left (by omega)]
namespace Tryd
section
variable {xs : List Nd} {i : Nat}
@[go_sem] theorem f6m (h : i < xs.length) : (fm a5u xs)[i * 6]? = some (li xs[i].op) := b99 (f := a5u) (k := 6) (j := 0) (fun _ => rfl) h (by omega)
@[go_sem] theorem f6n (h : i < xs.length) : (fm a5u xs)[i * 6 + 1]? = some (slI xs[i].ins) := b99 (f := a5u) (k := 6) (fun _ => rfl) h (by omega)
@[go_sem] theorem f6o (h : i < xs.length) : (fm a5u xs)[i * 6 + 2]? = some (slI xs[i].args) := b99 (f := a5u) (k := 6) (fun _ => rfl) h (by omega)
@[go_sem] theorem f6p (h : i < xs.length) : ((fm a5u xs).drop (i * 6 + 3)).take 3 = [slI xs[i].shape, lb xs[i].wide, slI xs[i].data] := d0i (f := a5u) (k := 6) (fun _ => rfl) h (by omega)
end
section
variable {G : GG} {bk : Nat -> Nat × Nat} {Q : Exit -> St -> Prop} {st : St}
end
end Tryd
end Go.Ideal
end
section
namespace Go.Ideal.Tryd
def Er.isNil : Er -> Bool
 | .nil => true
 | _ => false
section
variable {G : GG} {bk : Nat -> Nat × Nat} {Q : Exit -> St -> Prop} {st : St}
end
end Go.Ideal.Tryd
end
section
namespace Go.Ideal.Tryd
section
variable {G : GG} {bk : Nat -> Nat × Nat} {Q : Exit -> St -> Prop} {st : St}
theorem e4s {l : List (List Int)} {m : Nat} (h : ∀ r ∈ l, r.length <= m) : tot l <= m * l.length := by
 induction l with
 | nil => simp [tot]
 | cons r l ih =>
  have h1 := h r (by simp)
  have h2 := ih fun x hx => h x (by simp [hx])
  simp only [tot, List.map_cons, List.sum_cons, List.length_cons] at h2 ⊢
  rw [Nat.mul_add, Nat.mul_one]
  omega
end
end Go.Ideal.Tryd
end
section
namespace Go.Ideal.Tryd
def b0a : IC := (.seq (.reg [oo 1 (.box 26 2 (.t 0)),
 oo 2 (.alloc 26 [.own 1 0 [], .lit (.bool false)])]) (.seq (.draw [oo 3 (.faddr 26 0 (.t 1) 0),
 oo 4 (.load 24 none (.t 3)),
 oc 5 99 [(false, (.t 4))] [24],
 oo 6 (.faddr 26 1 (.t 1) 1),
 oo 7 (.load 4 none (.t 6)),
 oo 8 (.build 26 [.own 1 0 [], .lit (.bool false)] [(0, 0, 1, (.t 5)), (1, 1, 1, (.t 7))]),
 ov (.store 26 2 (.t 2) (.t 8))] [[], [0], [1], [], [3], [2, 4], [5, 2, 0, 1, 2, 3, 4, 5]]) .ret))
abbrev b5d : Nat := 71
theorem b1v : fnC pg 71 9 [(.cells 2 2)] b0a := a09 Go.Proofs.Tryd.f71 [(.cell 2 26)] (by kernel_rfl)
@[go_sem] theorem c6n : fnB pg 71 = true := by kernel_rfl
def a5z : IC := (.seq (.reg [oo 2 (.asg (.nl 1))]) (.seq (.seq (.reg [om 3 0,
 ⟨(some 4), .nilq 24 (.t 3) 24, none⟩]) (.cond (.t 4) (.seq (.reg [oo 2 (.asg (.nl 1))]) .ret) .skip)) (.seq (.reg [oo 5 (.bslice 24 3 1 0 [.lit (.int .i64 0)] []),
 om 6 0,
 oo 7 (.app 24 3 1 8 (.t 5) (.t 6)),
 oo 2 (.asg (.t 7))]) .ret)))
abbrev a9g : Nat := 99
theorem a74 : fnC pg 99 8 [(.tmp 2)] a5z := a09 Go.Proofs.Tryd.f99 [(.tmp 2)] (by kernel_rfl)
@[go_sem] theorem b9e : fnB pg 99 = true := by kernel_rfl
def a73 : IC := (.seq (.reg [oo 2 (.box 26 2 (.t 0)),
 oo 3 (.box 26 2 (.t 1)),
 oo 4 (.asg (.c (.bool false)))]) (.seq (.reg [oo 5 (.faddr 26 1 (.t 2) 1),
 oo 6 (.load 4 none (.t 5)),
 oo 7 (.faddr 26 1 (.t 3) 1),
 oo 8 (.load 4 none (.t 7)),
 oo 9 (.bin .eql 4 1 (.t 6) (.t 8) 4),
 om 10 9,
 og 11 (.faddr 26 0 (.t 2) 0) 5 10 true,
 og 12 (.load 24 none (.t 11)) 5 10 true,
 og 13 (.faddr 26 0 (.t 3) 0) 5 10 true,
 og 14 (.load 24 none (.t 13)) 5 10 true,
 ⟨(some 15), .call 107 [(false, (.t 12)), (false, (.t 14))] [24, 24], (some (5, 10, true))⟩,
 oo 16 (.pick (.t 10) (.t 15) (.c (.bool false))),
 oo 4 (.asg (.t 16))]) .ret))
abbrev b63 : Nat := 85
theorem b3l : fnC pg 85 17 [(.tmp 4)] a73 := a09 Go.Proofs.Tryd.f85 [(.tmp 4)] (by kernel_rfl)
@[go_sem] theorem c7m : fnB pg 85 = true := by kernel_rfl
def a3r : IC := (.seq (.reg [oo 14 (.bin .lss 3 0 (.t 13) (.t 12) 3)]) (.seq (.cond (.t 14) .skip (.exit 0)) (.seq (.block 1 (.seq (.reg [om 15 13,
 oo 5 (.asg (.t 15))]) (.seq (.draw [om 16 0,
 om 17 5,
 oo 18 (.iaddr 24 1 (.t 16) (.t 17)),
 oo 19 (.load 3 none (.t 18)),
 om 20 1,
 om 21 5,
 oo 22 (.iaddr 24 1 (.t 20) (.t 21)),
 oo 23 (.load 3 none (.t 22)),
 oo 24 (.bin .neq 3 0 (.t 19) (.t 23) 3)] [[], [], [0, 1], [2], [], [], [4, 5], [6], [3, 7]]) (.cond (.t 24) (.seq (.reg [oo 4 (.asg (.c (.bool false)))]) .ret) .skip)))) (.reg [oo 25 (.bin .add 3 0 (.t 13) (.n 1) 3),
 om 13 25]))))
def a33 : IC := (.seq (.reg [oo 4 (.asg (.c (.bool false)))]) (.seq (.seq (.reg [om 6 0,
 oo 7 (.len 24 false (.t 6)),
 om 8 1,
 oo 9 (.len 24 false (.t 8)),
 oo 10 (.bin .neq 3 0 (.t 7) (.t 9) 3)]) (.cond (.t 10) (.seq (.reg [oo 4 (.asg (.c (.bool false)))]) .ret) .skip)) (.seq (.seq (.reg [om 11 0,
 oo 12 (.len 24 false (.t 11)),
 oo 13 (.mv (.n 0))]) (.block 0 (.loop a3r))) (.seq (.reg [oo 4 (.asg (.c (.bool true)))]) .ret))))
abbrev a9h : Nat := 107
theorem a75 : fnC pg 107 26 [(.tmp 4)] a33 := a09 Go.Proofs.Tryd.f107 [(.tmp 4)] (by kernel_rfl)
@[go_sem] theorem b9f : fnB pg 107 = true := by kernel_rfl
end Go.Ideal.Tryd
end
section
namespace Go.Ideal.Tryd
structure Ds where
 shape : List Int
 wide : Bool
 deriving DecidableEq
structure Tn where
 shape : List Int
 wide : Bool
 data : List Int
 deriving DecidableEq
structure Vw where
 off : Int
 shape : List Int
 wide : Bool
 deriving DecidableEq
structure In where
 op : Int
 dst : Int
 ins : List Int
 args : List Int
 frm : Int
 to : Int
 deriving DecidableEq
structure Pl where
 size : Int
 views : List Vw
 consts : List Tn
 weights : List Ds
 code : List In
 input : Int
 output : Int
 deriving DecidableEq
def eD (d : Ds) : List AV := [slI d.shape, lb d.wide]
def eT (d : Tn) : List AV := [slI d.shape, lb d.wide, slI d.data]
def eV (d : Vw) : List AV := [li d.off, slI d.shape, lb d.wide]
def eI (d : In) : List AV := [li d.op, li d.dst, slI d.ins, slI d.args, li d.frm, li d.to]
def oD (d : Ds) : List AV := [owI d.shape, lb d.wide]
def oT (d : Tn) : List AV := [owI d.shape, lb d.wide, owI d.data]
def oV (d : Vw) : List AV := [li d.off, owI d.shape, lb d.wide]
def oI (d : In) : List AV := [li d.op, li d.dst, owI d.ins, owI d.args, li d.frm, li d.to]
@[go_sem] theorem f6b {xs : List Ds} : (fm eD xs).length = xs.length * 2 := a6e fun _ => rfl
@[go_sem] theorem f6a {xs : List Ds} {i : Nat} (h : i < xs.length) : ((fm eD xs).drop (i * 2)).take 2 = [slI xs[i].shape, lb xs[i].wide] := b05 (f := eD) (k := 2) (fun _ => rfl) h
@[go_sem] theorem f0c {xs : List Ds} : (fm eD xs).take (xs.length * 2) = fm eD xs := a4b fun _ => rfl
@[go_sem] theorem e5z {xs : List Ds} : a0n (fm eD xs) = true := a8e fun _ => rfl
@[go_sem] theorem f57 {xs : List Ds} : a1n (fm eD xs) = fm eD xs := by
 rw [a7d]; congr 1
@[go_sem] theorem f8a {xs : List Ds} : (fm oD xs).length = xs.length * 2 := a6e fun _ => rfl
@[go_sem] theorem f23 {xs : List Ds} : (fm oD xs).take (xs.length * 2) = fm oD xs := a4b fun _ => rfl
@[go_sem] theorem f79 {xs : List Ds} : a1n (fm oD xs) = fm eD xs := by
 rw [a7d]
 congr 1
 funext n
 simp [oD, eD, go_sem]
@[go_sem] theorem e72 {xs : List Ds} : a04 (fm oD xs) = true := a8d fun n => by simp [oD, go_sem]
@[go_sem] theorem f6j {xs : List Tn} : (fm eT xs).length = xs.length * 3 := a6e fun _ => rfl
@[go_sem] theorem f6i {xs : List Tn} {i : Nat} (h : i < xs.length) : ((fm eT xs).drop (i * 3)).take 3 = [slI xs[i].shape, lb xs[i].wide, slI xs[i].data] := b05 (f := eT) (k := 3) (fun _ => rfl) h
@[go_sem] theorem f0h {xs : List Tn} : (fm eT xs).take (xs.length * 3) = fm eT xs := a4b fun _ => rfl
@[go_sem] theorem e55 {xs : List Tn} : a0n (fm eT xs) = true := a8e fun _ => rfl
@[go_sem] theorem f6h {xs : List Tn} : a1n (fm eT xs) = fm eT xs := by
 rw [a7d]; congr 1
@[go_sem] theorem f8e {xs : List Tn} : (fm oT xs).length = xs.length * 3 := a6e fun _ => rfl
@[go_sem] theorem f3b {xs : List Tn} : (fm oT xs).take (xs.length * 3) = fm oT xs := a4b fun _ => rfl
@[go_sem] theorem f8d {xs : List Tn} : a1n (fm oT xs) = fm eT xs := by
 rw [a7d]
 congr 1
 funext n
 simp [oT, eT, go_sem]
@[go_sem] theorem e75 {xs : List Tn} : a04 (fm oT xs) = true := a8d fun n => by simp [oT, go_sem]
@[go_sem] theorem f6l {xs : List Vw} : (fm eV xs).length = xs.length * 3 := a6e fun _ => rfl
@[go_sem] theorem d84 {xs : List Vw} {i : Nat} (h : i < xs.length) : ((fm eV xs).drop (i * 3)).take 3 = [li xs[i].off, slI xs[i].shape, lb xs[i].wide] := b05 (f := eV) (k := 3) (fun _ => rfl) h
@[go_sem] theorem f0j {xs : List Vw} : (fm eV xs).take (xs.length * 3) = fm eV xs := a4b fun _ => rfl
@[go_sem] theorem e56 {xs : List Vw} : a0n (fm eV xs) = true := a8e fun _ => rfl
@[go_sem] theorem f6k {xs : List Vw} : a1n (fm eV xs) = fm eV xs := by
 rw [a7d]; congr 1
@[go_sem] theorem f8g {xs : List Vw} : (fm oV xs).length = xs.length * 3 := a6e fun _ => rfl
@[go_sem] theorem f3c {xs : List Vw} : (fm oV xs).take (xs.length * 3) = fm oV xs := a4b fun _ => rfl
@[go_sem] theorem f8f {xs : List Vw} : a1n (fm oV xs) = fm eV xs := by
 rw [a7d]
 congr 1
 funext n
 simp [oV, eV, go_sem]
@[go_sem] theorem e76 {xs : List Vw} : a04 (fm oV xs) = true := a8d fun n => by simp [oV, go_sem]
@[go_sem] theorem f6e {xs : List In} : (fm eI xs).length = xs.length * 6 := a6e fun _ => rfl
@[go_sem] theorem f6d {xs : List In} {i : Nat} (h : i < xs.length) : ((fm eI xs).drop (i * 6)).take 6 = [li xs[i].op, li xs[i].dst, slI xs[i].ins, slI xs[i].args, li xs[i].frm, li xs[i].to] := b05 (f := eI) (k := 6) (fun _ => rfl) h
@[go_sem] theorem f0d {xs : List In} : (fm eI xs).take (xs.length * 6) = fm eI xs := a4b fun _ => rfl
@[go_sem] theorem e50 {xs : List In} : a0n (fm eI xs) = true := a8e fun _ => rfl
@[go_sem] theorem f6c {xs : List In} : a1n (fm eI xs) = fm eI xs := by
 rw [a7d]; congr 1
@[go_sem] theorem f8c {xs : List In} : (fm oI xs).length = xs.length * 6 := a6e fun _ => rfl
@[go_sem] theorem f25 {xs : List In} : (fm oI xs).take (xs.length * 6) = fm oI xs := a4b fun _ => rfl
@[go_sem] theorem f8b {xs : List In} : a1n (fm oI xs) = fm eI xs := by
 rw [a7d]
 congr 1
 funext n
 simp [oI, eI, go_sem]
@[go_sem] theorem e73 {xs : List In} : a04 (fm oI xs) = true := a8d fun n => by simp [oI, go_sem]
abbrev slD (xs : List Ds) : AV := .sl xs.length (fm eD xs)
abbrev slT (xs : List Tn) : AV := .sl xs.length (fm eT xs)
abbrev slV (xs : List Vw) : AV := .sl xs.length (fm eV xs)
abbrev slJ (xs : List In) : AV := .sl xs.length (fm eI xs)
def eP (p : Pl) : List AV := [li p.size, slV p.views, slT p.consts, slD p.weights, slJ p.code, li p.input, li p.output]
section
variable {G : GG} {bk : Nat -> Nat × Nat} {Q : Exit -> St -> Prop} {st : St}
theorem b2d (xs : List Int) (h : xs.length < 2 ^ 40) : ACalls pg G a9g [slI xs] (owI xs) := by
 refine a74 rfl ?_
 simp (disch := omega) [go_sem, a5z]
 refine f22 fun b hb => ?_
 cases b with
 | true =>
  have : xs = [] := by simpa using hb rfl
  subst this
  simp (disch := omega) [go_sem]
 | false => simp (disch := omega) [go_sem]
theorem a21 (sh : List Int) (w : Bool) (hlen : sh.length < 2 ^ 40) : ACalls pg G b5d [.agg [slI sh, lb w]] (.agg [owI sh, lb w]) := by
 refine b1v rfl ?_
 simp (disch := omega) [go_sem, b0a]
 refine a0b ?_
 simp (disch := omega) [go_sem]
 refine a02 (b2d sh hlen) rfl (b2y _) (by simp) [5] (by simp) (by simp (disch := omega) [go_sem]) ?_
 simp (disch := omega) [go_sem]
 refine a0d (by decide) fun s2 hs he => ?_
 simp (disch := omega) [go_sem, hs]
end
end Go.Ideal.Tryd
end
section
namespace Go.Ideal.Tryd
def eqP {α : Type} (p : α -> α -> Bool) : List α -> List α -> Bool
 | [], [] => true
 | x :: xs, y :: ys => p x y && eqP p xs ys
 | _, _ => false
theorem d0g {α : Type} [DecidableEq α] {p : α -> α -> Bool} : ∀ {a b : List α}, (∀ x ∈ a, ∀ y ∈ b, p x y = decide (x = y)) -> eqP p a b = decide (a = b)
 | [], [], h => by simp [eqP]
 | [], _ :: _, _ => by simp [eqP]
 | _ :: _, [], _ => by simp [eqP]
 | x :: xs, y :: ys, h => by
  rw [eqP, h x (by simp) y (by simp), d0g fun a ha b hb => h a (by simp [ha]) b (by simp [hb])]
  by_cases h1 : x = y <;> by_cases h2 : xs = ys <;> simp [h1, h2]
theorem c8e {α : Type} {p : α -> α -> Bool} {a b : List α} {i : Nat} (h : i < a.length) (h2 : i < b.length) : eqP p (a.drop i) (b.drop i) = (p a[i] b[i] && eqP p (a.drop (i + 1)) (b.drop (i + 1))) := by
 rw [List.drop_eq_getElem_cons h, List.drop_eq_getElem_cons h2]; rfl
section
variable {G : GG} {bk : Nat -> Nat × Nat} {Q : Exit -> St -> Prop} {st : St}
theorem c8f (a b : List Int) (ha : a.length < 2 ^ 62) (hb : b.length < 2 ^ 62) : ACalls pg G a9h [slI a, slI b] (lb (decide (a = b))) := by
 refine a75 rfl ?_
 by_cases hl : a.length = b.length
 ·have hl' : (a.length : Int) = b.length := by omega
  simp (disch := omega) [go_sem, a33, hl']
  refine a06 Nat (fun i st => i <= a.length /\ eqP (fun x y => decide (x = y)) (a.drop i) (b.drop i) = decide (a = b) /\ st.s 0 = slI a /\ st.s 1 = slI b /\ st.s 11 = slI a /\ st.s 12 = li a.length /\ st.s 13 = li i) (fun i => a.length - i) 0 ⟨by simp, d0g fun _ _ _ _ => rfl, by simp (disch := omega) [go_sem, hl']⟩ ?_
  rintro i st K ⟨hi, hm, h⟩ hK
  by_cases hlt : i < a.length
  ·have hlt2 : i < b.length := by omega
   rw [c8e hlt hlt2] at hm
   simp (disch := omega) [go_sem, a3r, h, hlt]
   refine a0b ?_
   simp (disch := omega) [go_sem, h, hlt]
   refine a0d (by decide) fun s2 hs he => ?_
   by_cases k : a[i] = b[i]
   ·rw [decide_eq_true k, Bool.true_and] at hm
    simp (disch := omega) [go_sem, hs, h, k]
    exact hK (i + 1) _ ⟨by omega, hm, by simp (disch := omega) [go_sem, hs, h]⟩ (by omega)
   ·rw [decide_eq_false k, Bool.false_and] at hm
    simp (disch := omega) [go_sem, hs, h, k, <- hm]
  ·obtain rfl : i = a.length := by omega
   rw [List.drop_length, hl, List.drop_length, eqP] at hm
   simp (disch := omega) [go_sem, a3r, h, <- hm]
 ·have hl' : ¬ (a.length : Int) = b.length := by omega
  have hn : a ≠ b := fun h => hl (by rw [h])
  simp (disch := omega) [go_sem, a33, hl', hn]
theorem a5n (a b : Ds) (ha : a.shape.length < 2 ^ 62) (hb : b.shape.length < 2 ^ 62) : ACalls pg G b63 [.agg (eD a), .agg (eD b)] (lb (decide (a = b))) := by
 refine b3l rfl ?_
 obtain ⟨s1, w1⟩ := a
 obtain ⟨s2, w2⟩ := b
 by_cases k : w1 = w2
 ·simp (disch := omega) [go_sem, a73, eD, k]
  refine a0j (c8f s1 s2 ha hb) rfl rfl ?_
  simp (disch := omega) [go_sem, Ds.mk.injEq, k]
 ·simp (disch := omega) [go_sem, a73, eD, k, Ds.mk.injEq]
structure Pl.fin (p : Pl) : Prop where
 vl : p.views.length < 2 ^ 62
 cl : p.consts.length < 2 ^ 62
 wl : p.weights.length < 2 ^ 62
 il : p.code.length < 2 ^ 62
 vs : ∀ x ∈ p.views, x.shape.length < 2 ^ 62
 cs : ∀ x ∈ p.consts, x.shape.length < 2 ^ 62 /\ x.data.length < 2 ^ 62
 ws : ∀ x ∈ p.weights, x.shape.length < 2 ^ 62
 is : ∀ x ∈ p.code, x.ins.length < 2 ^ 62 /\ x.args.length < 2 ^ 62
end
end Go.Ideal.Tryd
end
section
namespace Go.Proofs.YtfncabcldhemkaaDoor
open Go Go.ChangeShapes Go.WideShapes Go.RowKit Go.Ideal Go.Ideal.Tryd
section
variable {H : Type} {e : TypeId × Value -> H} {w : World}
theorem e3a : Rd e Tryd.prog w (List Int) 24 (fun xs => [slI xs]) (fun xs => xs.length <= reachBytes /\ ∀ x ∈ xs, -9223372036854775808 <= x /\ x <= 9223372036854775807) :=
 Rd.slice1 Tryd.underlying24 (of_decide_eq_true (by kernel_rfl)) (of_decide_eq_true (by kernel_rfl)) (Rd.int Tryd.underlying3)
end
end Go.Proofs.YtfncabcldhemkaaDoor
end
section
namespace Go.Ideal
theorem ACalls.frz {P : Program} {G : GG} {f : FuncId} {pre : List AV} {res : AV} (h : ACalls P G f pre res) : ACalls P G f pre (Ideal.frz res) := by
 intro w args A ow h1 h2 h3 h4 h5
 refine (h w args A ow h1 h2 h3 h4 h5).mono ?_
 rintro e w' ⟨v, rfl, hr⟩
 refine ⟨v, rfl, hr.le, hr.os, hr.tape, hr.output, hr.frame, noB, fun _ h => h.elim, ?_⟩
 obtain ⟨F, hF, hR⟩ := hr.own
 exact c0c (fun b hb => ⟨hb.1, fun h => h, hb.2.2⟩) res (fun b hb => ⟨(hF b hb).2, fun h => h, (hF b hb).1.elim (fun h => .inr (.inl h)) fun h => .inr (.inr h)⟩) hR
theorem ACalls.shown {P : Program} {G : GG} {f : FuncId} {pre : List AV} {res res' : AV} (h : ACalls P G f pre res) (he : Ideal.frz res = res') : ACalls P G f pre res' := he ▸ h.frz
end Go.Ideal
end
section
namespace Go.Ideal.Tryd
end Go.Ideal.Tryd
end
section
namespace Go.Ideal
section
variable {N : Nat} {st st1 st2 : St} {P : Program} {G : GG} {K : St -> Prop}
def b0k (N : Nat) (a b : St) : Prop := (∀ u, u < N -> b.s u = a.s u) /\ ∀ u, b.ep u = a.ep u
@[congr] theorem d11 {a b b' : St} (h : b = b') : b0k N a b = b0k N a b' := by rw [h]
@[go_sem] theorem d5e : b0k N st st = True := by simp [b0k]
def d0f (N : Nat) (a b : St) : Prop := b0k N a b
@[go_sem] theorem d89 {t : Nat} {v : AV} : b0k N st1 (st2.put t v) = frI (decide (N <= t) && !nm v) (b0k N st1 st2) (d0f N st1 (st2.put t v)) := by
 simp only [frI, d0f]
 split
 ·rename_i h
  simp only [Bool.and_eq_true, decide_eq_true_eq, Bool.not_eq_true'] at h
  apply propext
  simp only [b0k, St.put_s, St.put_ep, h.2, Bool.false_eq_true, and_false, if_false]
  constructor
  ·rintro ⟨h1, h2⟩
   exact ⟨fun u hu => by have := h1 u hu; rwa [if_neg (by omega)] at this, h2⟩
  ·rintro ⟨h1, h2⟩
   exact ⟨fun u hu => by rw [if_neg (by omega)]; exact h1 u hu, h2⟩
 ·rfl
theorem c21 {T : List (Nat × AV)} {d : Option Nat} {res : AV} (h : b0k N st1 st2) : c69 st2 N T d res = c69 st1 N T d res := by
 have e : st2.lentS N T = st1.lentS N T := by
  refine St.ext' (fun u => ?_) (fun u => h.2 u)
  simp only [St.lentS]
  by_cases hu : u < N
  ·simp [hu, h.1 u hu]
  ·simp [hu]
 cases d <;> simp only [c69, e]
theorem b0l {d : Option Nat} {res : AV} (h : b0k N st1 st2) : a9r st2 N d res = a9r st1 N d res := by
 have e : st2.clear N = st1.clear N := by
  refine St.ext' (fun u => ?_) (fun u => h.2 u)
  simp only [St.clear]
  by_cases hu : u < N
  ·simp [hu, h.1 u hu]
  ·simp [hu]
 cases d <;> simp only [a9r, e]
theorem b5m {d : Option Nat} {f : FuncId} {pre : List AV} {L : List (Nat × Nat)} {res : AV} {posts : List (Nat × AV)} (hA : ACallsX P G f pre res posts) (hn : a0r res = true) (hp : posts.map (·.1) = L.map (·.2)) (hv : (posts.all fun p => c5f p.2) = true) (h12 : b0k N st1 st2)
  (h : K (c69 st1 N ((L.map (·.1)).zip (posts.map (·.2))) d res)) : clx P G N d f pre L st1 st2 K := d1n hA hn hp hv h (by rw [c21 h12]; exact h)
theorem a0m {d : Option Nat} {f : FuncId} {pre : List AV} {res : AV} (hA : ACalls P G f pre res) (hn : a0r res = true) (h12 : b0k N st1 st2) (h : K (a9r st1 N d res)) : cal P G N d f pre st1 st2 K := a6y hA hn h (by rw [b0l h12]; exact h)
theorem b2e {aft : DA} {rest : List AO} {fps : List (List Nat × List Nat)} {d : Option Nat} {f : FuncId} {st : St} {pre : List AV} {rd : List Nat} {res : AV} (hA : ACalls P G f pre res) (hn : a0r res = true) (h12 : b0k N st1 st2) (hrd : ∀ t ∈ rd, t < N) (W : List Nat) (hW : ∀ t ∈ W, t < N) (hf : fr N W st (a9r st1 N d res)) (h : a6v aft.2 (a9r st1 N d res) /\ a6w P G N aft rest (fps ++ [(rd, W)]) K (a9r st1 N d res)) : c1o P G N aft d f pre rd rest fps K st st1 st2 := by
 cases hi : a0x res with
 | true => exact a02 hA hn hi hrd W hW hf h
 | false => exact c72 hA hn hi hrd W hW (by rw [b0l h12]; exact hf) (by rw [b0l h12]; exact h)
end
namespace Tryd
section
variable {bk : Nat -> Nat × Nat} {e : Er} {st : St} {N d t j : Nat} {x : X}
@[go_sem] theorem f2w : nm (a0v bk e) = false := by cases e <;> rfl
@[go_sem] theorem d61 : a0p (a0v bk e) = none := by cases e <;> rfl
@[go_sem] theorem d07 : a2k (a0v bk e) = none := by cases e <;> rfl
@[go_sem] theorem e6q : frz (a0v bk e) = a0v bk e := by cases e <;> simp only [a0v, frz]
@[go_sem] theorem d5w {kl : Nat -> List Nat -> Bool} : a05 kl (a0v bk e) = a0v bk e := by cases e <;> simp only [a0v, a05]
@[go_sem] theorem e7p : mvS st d x (a0v bk e) = some (st.put d (a0v bk e)) := by cases e <;> simp [a0v, mvS, a0l]
@[go_sem] theorem d7v : b5k st N d (.t t) (a0v bk e) = some (st.put d (a0v bk e)) := by cases e <;> simp [a0v, go_sem]
@[go_sem] theorem e63 {q : List Nat} {o : Nat} : ldK st t q o (some (a0v bk e)) = some (a0v bk e) := by cases e <;> simp [a0v, ldK, a0l]
@[go_sem] theorem e8e : psS st N (.t t) j (a0v bk e) = some (st.put j (a0v bk e)) := by cases e <;> simp [a0v, go_sem]
@[go_sem] theorem e6v : gvS st N (.t t) j (a0v bk e) = some (st.put j (a0v bk e)) := by cases e <;> simp [a0v, go_sem]
@[go_sem] theorem d9n {i : Nat} {ks : List AV} : d13 st N d (.t t) i ks (some (a0v bk e)) = some (st.put d (a0v bk e)) := by cases e <;> simp [a0v, go_sem]
@[go_sem] theorem e6c : a3b .eql 2 (a0v bk e) (.lit .nilIface) = some (.lit (.bool e.isNil)) := by cases e <;> rfl
@[go_sem] theorem e7s : a3b .neq 2 (a0v bk e) (.lit .nilIface) = some (.lit (.bool !e.isNil)) := by cases e <;> rfl
def kE (st : St) (t : Nat) : Er -> St
 | .at _ _ => st.put t .dead
 | _ => st
@[go_sem] theorem e6u : giv st N (.t t) (a0v bk e) = some (kE st t e, [a0v bk e]) := by cases e <;> simp [a0v, go_sem, kE, c7a]
@[go_sem] theorem g1e {u : Nat} (h : u ≠ t) : (kE st t e).s u = st.s u := by cases e <;> simp [kE, h]
@[go_sem] theorem g0b {u : Nat} : (kE st t e).ep u = st.ep u := by cases e <;> simp [kE, St.put_ep, a0p]
end
end Tryd
end Go.Ideal
end
section
namespace Go.Ideal
section
variable {k : IntKind} {a b : Int}
theorem d1h (h : b ≠ 0) : a10 .rem (.int k a) (.int k b) = some (.int k (a.tmod b)) := by simp [a10, Op.intDiv, h]; rfl
@[go_sem] theorem f5o (h : b ≠ 0) : a3b .rem 0 (.lit (.int k a)) (.lit (.int k b)) = some (.lit (.int k (a.tmod b))) := a3x (d1h h) rfl
theorem d1g (h : b ≠ 0) : a10 .quo (.int k a) (.int k b) = some (.int k (k.wrap (a.tdiv b))) := by simp [a10, Op.intDiv, h]; rfl
@[go_sem] theorem f5n (h : b ≠ 0) : a3b .quo 0 (.lit (.int k a)) (.lit (.int k b)) = some (.lit (.int k (k.wrap (a.tdiv b)))) := a3x (d1g h) rfl
end
namespace Tryd
section
variable {G : GG} {bk : Nat -> Nat × Nat} {Q : Exit -> St -> Prop} {st : St}
def c53 (n m : Int) : Int := ((n.tmod m) + m).tmod m
theorem b13 {n m : Int} (h : 0 < m) : 0 <= c53 n m /\ c53 n m < m := by
 have h1 := Int.lt_tmod_of_pos n h
 unfold c53
 exact ⟨Int.tmod_nonneg _ (by omega), Int.tmod_lt_of_pos _ h⟩
theorem b52 (n m : Int) (h : 0 < m) (h2 : m < 2 ^ 62) : ACalls pg G a8z [li n, li m] (li (c53 n m)) := by
 refine a7i rfl ?_
 have h1 := Int.lt_tmod_of_pos n h
 have h3 := Int.tmod_lt_of_pos n h
 simp (disch := omega) [go_sem, a5j, c53]
end
end Tryd
end Go.Ideal
end
section
namespace Go.Ideal.Tryd
section
variable {G : GG} {bk : Nat -> Nat × Nat} {Q : Exit -> St -> Prop} {st : St}
end
end Go.Ideal.Tryd
end
section
namespace Go.Ideal.Tryd
@[go_sem] theorem f0i {xs : List Vw} {i : Nat} (h : i < xs.length) : ((fm eV xs).drop (i * 3 + 1)).take 2 = [slI xs[i].shape, lb xs[i].wide] := by
 have := congrArg (List.drop 1) (d84 h)
 rw [List.drop_take, List.drop_drop] at this
 exact this
@[go_sem] theorem g06 {xs : List In} {i : Nat} (h : i < xs.length) : (fm eI xs)[i * 6]? = some (li xs[i].op) := b99 (f := eI) (k := 6) (j := 0) (fun _ => rfl) h (by omega)
@[go_sem] theorem g07 {xs : List In} {i : Nat} (h : i < xs.length) : (fm eI xs)[i * 6 + 2]? = some (slI xs[i].ins) := b99 (f := eI) (k := 6) (fun _ => rfl) h (by omega)
@[go_sem] theorem g08 {xs : List In} {i : Nat} (h : i < xs.length) : (fm eI xs)[i * 6 + 3]? = some (slI xs[i].args) := b99 (f := eI) (k := 6) (fun _ => rfl) h (by omega)
section
variable {G : GG} {bk : Nat -> Nat × Nat} {Q : Exit -> St -> Prop} {st : St}
end
end Go.Ideal.Tryd
end
section
namespace Go.Ideal.Tryd
abbrev Dr := Ds × Er
def dn : Ds := ⟨[], false⟩
def bad (g : Nat) : Dr := (dn, .s g)
def chk (e : Er) (r : Dr) : Dr := if e.isNil = true then r else (dn, e)
def a2p (n : Int) : Bool := decide (-128 <= n) && decide (n <= 127)
def b3j (sh : List Int) (w : Bool) : Dr := chk (a08 sh) (⟨sh, w⟩, .nil)
def c7f (za zb : Int) (a b : Ds) : Dr :=
 chk (a08 a.shape) (chk (a08 b.shape) (
  if a.shape.length = 2 /\ b.shape.length = 2 /\ a.shape[1]! = b.shape[0]! /\ a.wide = false /\ b.wide = false then
   (if (a2p za && a2p zb) = true then b3j [a.shape[0]!, b.shape[1]!] true else bad 3) else bad 6))
def b34 (args : List Int) (a k : Ds) : Dr :=
 chk (a08 a.shape) (chk (a08 k.shape) (
  if a.shape.length = 3 /\ k.shape.length = 4 /\ a.shape[2]! = k.shape[2]! /\ a.wide = false /\ k.wide = false then
   (if 1 <= args[0]! /\ args[0]! <= 16 /\ 0 <= args[1]! /\ args[1]! <= 15 /\ a2p args[2]! = true then
    (if 0 <= a.shape[0]! + 2 * args[1]! - k.shape[0]! /\ 0 <= a.shape[1]! + 2 * args[1]! - k.shape[1]! then
     b3j [(a.shape[0]! + 2 * args[1]! - k.shape[0]!) / args[0]! + 1, (a.shape[1]! + 2 * args[1]! - k.shape[1]!) / args[0]! + 1, k.shape[3]!] true else bad 6) else bad 3) else bad 6))
def b8q (args : List Int) (a : Ds) : Dr :=
 chk (a08 a.shape) (
  if a.shape.length = 3 then
   (if 1 <= args[0]! /\ args[0]! <= 16 /\ 1 <= args[1]! /\ args[1]! <= 16 then
    (if 0 <= a.shape[0]! - args[0]! /\ 0 <= a.shape[1]! - args[0]! then
     (⟨[(a.shape[0]! - args[0]!) / args[1]! + 1, (a.shape[1]! - args[0]!) / args[1]! + 1, a.shape[2]!], a.wide⟩, .nil) else bad 6) else bad 3) else bad 6)
instance : Inhabited Ds := ⟨dn⟩
def a3a (op : Int) (ins : List Ds) : Ds × Bool :=
 if op = 16 then (ins[0]!, decide (0 < ins[0]!.shape.length /\ ins[0]!.wide = false /\ ins[1]! = ⟨[256], true⟩))
 else if op = 17 then (if ins[0]!.shape.length = 2 /\ ins[1]!.shape.length = 1 /\ ins[1]!.wide = true then (⟨[ins[1]!.shape[0]!, ins[0]!.shape[1]!], ins[0]!.wide⟩, true) else (dn, false))
 else (if ins[0]!.shape.length = 0 then (dn, false) else (⟨ins[0]!.shape.dropLast, true⟩, true))
def b5l : List Ds -> Dr -> Dr
 | [], r => r
 | d :: ds, r => chk (a08 d.shape) (b5l ds r)
def c1a (op : Int) (ins : List Ds) : Dr := b5l ins (if (a3a op ins).2 = true then b3j (a3a op ins).1.shape (a3a op ins).1.wide else bad 6)
def b6p (n : Int) (w : Bool) : Bool := if w = true then decide (-2147483648 <= n) && decide (n <= 2147483647) else a2p n
def a1u (op : Int) (args : List Int) (w : Bool) : Bool :=
 if op = 9 then decide (args[0]! <= args[1]!) && (b6p args[0]! w && b6p args[1]! w)
 else if op = 10 then (decide (0 <= args[0]!) && decide (args[0]! <= 2147483647)) && ((decide (0 <= args[1]!) && decide (args[1]! <= 62)) && a2p args[2]!)
 else if op = 11 then a2p args[0]!
 else true
def a1o (op : Int) (w : Bool) : Bool := if op = 10 then false else if op = 11 then true else w
def a53 (op : Int) (args : List Int) (ins : List Ds) : Dr := b5l ins (
 if (ins.length = 2 /\ ins[0]! ≠ ins[1]!) \/ (op = 10 /\ ins[0]!.wide = false) \/ (op = 11 /\ ins[0]!.wide = true) then bad 6
 else if a1u op args ins[0]!.wide = true then (⟨ins[0]!.shape, a1o op ins[0]!.wide⟩, .nil) else bad 3)
def a5x (args : List Int) (a : Ds) : Dr := chk (a08 a.shape) (chk (a08 args) (if a5h a.shape = a5h args then (⟨args, a.wide⟩, .nil) else bad 6))
def b6l (a : Ds) : Dr := chk (a08 a.shape) (if a.shape.length = 2 then (⟨[a.shape[1]!, a.shape[0]!], a.wide⟩, .nil) else bad 6)
def a2q (op : Int) : Bool := decide (4 <= op) && decide (op <= 21)
def a2v (op : Int) : Nat := if op = 4 \/ op = 5 \/ op = 6 \/ op = 7 \/ op = 12 \/ op = 13 \/ op = 16 \/ op = 17 then 2 else if a2q op = true then 1 else 0
def a17 (op : Int) : Nat := if op = 9 \/ op = 12 \/ op = 14 \/ op = 15 then 2 else if op = 10 \/ op = 13 then 3 else if op = 11 then 1 else 0
def opR (op : Int) (args : List Int) (ins : List Ds) : Dr :=
 if a2q op = true then
  if ins.length = a2v op /\ (op = 18 \/ args.length = a17 op) then
   if op = 12 then c7f args[0]! args[1]! ins[0]! ins[1]!
   else if op = 13 then b34 args ins[0]! ins[1]!
   else if op = 14 \/ op = 15 then b8q args ins[0]!
   else if op = 16 \/ op = 17 \/ op = 19 \/ op = 20 then c1a op ins
   else if op = 18 then a5x args ins[0]!
   else if op = 21 then b6l ins[0]!
   else a53 op args ins
  else bad 6
 else bad 5
end Go.Ideal.Tryd
end
section
namespace Go.Ideal.Tryd
def atE (k : Int) : Er -> Er
 | .nil => .nil
 | .s g => .at k (.s g)
 | .at _ e => .at k e
def orE (a b : Er) : Er := if a.isNil = true then b else a
def b4k {α : Type} (f : α -> Er) : List α -> Int -> Er
 | [], _ => .nil
 | x :: xs, k => if (f x).isNil = true then b4k f xs (k + 1) else atE k (f x)
def e4y (size : Int) (v : Vw) : Er := if (a08 v.shape).isNil = true then (if 0 <= v.off /\ v.off <= size /\ a38 v.shape v.wide <= size - v.off then .nil else .s 3) else a08 v.shape
def tE (t : Tn) : Er := b0e t.shape t.wide t.data
def dE (d : Ds) : Er := a08 d.shape
def d0n (p : Pl) (k : Int) : Bool := decide (0 <= k) && decide (k < (p.views.length : Int))
def a6p (p : Pl) : Er :=
 if 128 < p.views.length \/ 64 < p.consts.length \/ 8 < p.weights.length \/ 2048 < p.code.length then .s 2
 else if p.size < 0 \/ 65536 < p.size then .s 3
 else orE (b4k (e4y p.size) p.views 0) (orE (b4k tE p.consts 0) (orE (b4k dE p.weights 0) (if (d0n p p.input && d0n p p.output) = true then .nil else .s 3)))
instance : Inhabited Vw := ⟨⟨0, [], false⟩⟩
instance : Inhabited Tn := ⟨⟨[], false, []⟩⟩
instance : Inhabited In := ⟨⟨0, 0, [], [], 0, 0⟩⟩
def Vw.ds (v : Vw) : Ds := ⟨v.shape, v.wide⟩
def Tn.ds (v : Tn) : Ds := ⟨v.shape, v.wide⟩
end Go.Ideal.Tryd
end
section
namespace Go.Ideal.Tryd
abbrev a4f : Nat := 39
def b4x : IC := (.seq (.reg [oo 2 (.asg (.c (.bool false)))]) (.seq (.reg [om 3 0,
 oo 4 (.bin .geq 3 0 (.t 3) (.n 4) 3),
 om 5 4,
 og 6 (.mv (.t 0)) 2 5 true,
 og 7 (.bin .leq 3 0 (.t 6) (.n 21) 3) 2 5 true,
 oo 8 (.pick (.t 5) (.t 7) (.c (.bool false))),
 oo 2 (.asg (.t 8))]) .ret))
abbrev c2n : Nat := 67
theorem b56 : fnC pg 67 9 [(.tmp 2)] b4x := a09 Go.Proofs.Tryd.f67 [(.tmp 2)] (by kernel_rfl)
@[go_sem] theorem d0r : fnB pg 67 = true := by kernel_rfl
def b55 : IC := (.seq (.reg [oo 2 (.asg (.n 0))]) (.seq (.seq (.reg [om 3 0]) (.block 0 (.seq (.seq (.reg [oo 5 (.bin .eql 3 0 (.t 3) (.n 4) 3),
 oo 4 (.asg (.t 5))]) (.cond (.t 4) .skip (.seq (.reg [oo 6 (.bin .eql 3 0 (.t 3) (.n 5) 3),
 oo 4 (.asg (.t 6))]) (.cond (.t 4) .skip (.seq (.reg [oo 7 (.bin .eql 3 0 (.t 3) (.n 6) 3),
 oo 4 (.asg (.t 7))]) (.cond (.t 4) .skip (.seq (.reg [oo 8 (.bin .eql 3 0 (.t 3) (.n 7) 3),
 oo 4 (.asg (.t 8))]) (.cond (.t 4) .skip (.seq (.reg [oo 9 (.bin .eql 3 0 (.t 3) (.n 12) 3),
 oo 4 (.asg (.t 9))]) (.cond (.t 4) .skip (.seq (.reg [oo 10 (.bin .eql 3 0 (.t 3) (.n 13) 3),
 oo 4 (.asg (.t 10))]) (.cond (.t 4) .skip (.seq (.reg [oo 11 (.bin .eql 3 0 (.t 3) (.n 16) 3),
 oo 4 (.asg (.t 11))]) (.cond (.t 4) .skip (.reg [oo 12 (.bin .eql 3 0 (.t 3) (.n 17) 3),
 oo 4 (.asg (.t 12))]))))))))))))))) (.cond (.t 4) (.seq (.reg [oo 2 (.asg (.n 2))]) .ret) .skip)))) (.seq (.seq (.reg [om 13 0,
 oc 14 67 [(false, (.t 13))] [3]]) (.cond (.t 14) (.seq (.reg [oo 2 (.asg (.n 1))]) .ret) .skip)) (.seq (.reg [oo 2 (.asg (.n 0))]) .ret))))
abbrev c7r : Nat := 89
theorem c0v : fnC pg 89 15 [(.tmp 2)] b55 := a09 Go.Proofs.Tryd.f89 [(.tmp 2)] (by kernel_rfl)
@[go_sem] theorem d6i : fnB pg 89 = true := by kernel_rfl
def b22 : IC := (.seq (.reg [oo 2 (.asg (.n 0))]) (.seq (.seq (.reg [om 3 0]) (.block 0 (.seq (.seq (.reg [oo 5 (.bin .eql 3 0 (.t 3) (.n 9) 3),
 oo 4 (.asg (.t 5))]) (.cond (.t 4) .skip (.seq (.reg [oo 6 (.bin .eql 3 0 (.t 3) (.n 12) 3),
 oo 4 (.asg (.t 6))]) (.cond (.t 4) .skip (.seq (.reg [oo 7 (.bin .eql 3 0 (.t 3) (.n 14) 3),
 oo 4 (.asg (.t 7))]) (.cond (.t 4) .skip (.reg [oo 8 (.bin .eql 3 0 (.t 3) (.n 15) 3),
 oo 4 (.asg (.t 8))]))))))) (.cond (.t 4) (.seq (.reg [oo 2 (.asg (.n 2))]) .ret) (.seq (.seq (.reg [oo 10 (.bin .eql 3 0 (.t 3) (.n 10) 3),
 oo 9 (.asg (.t 10))]) (.cond (.t 9) .skip (.reg [oo 11 (.bin .eql 3 0 (.t 3) (.n 13) 3),
 oo 9 (.asg (.t 11))]))) (.cond (.t 9) (.seq (.reg [oo 2 (.asg (.n 3))]) .ret) (.seq (.reg [oo 13 (.bin .eql 3 0 (.t 3) (.n 11) 3),
 oo 12 (.asg (.t 13))]) (.cond (.t 12) (.seq (.reg [oo 2 (.asg (.n 1))]) .ret) .skip)))))))) (.seq (.reg [oo 2 (.asg (.n 0))]) .ret)))
abbrev c36 : Nat := 90
theorem b8h : fnC pg 90 14 [(.tmp 2)] b22 := a09 Go.Proofs.Tryd.f90 [(.tmp 2)] (by kernel_rfl)
@[go_sem] theorem d24 : fnB pg 90 = true := by kernel_rfl
def b23 : IC := (.seq (.reg [oo 6 (.alloc 26 [.own 1 0 [], .lit (.bool false)]),
 oo 7 (.asg (.c .nilIface))]) (.seq (.seq (.reg [om 8 0,
 oc 9 67 [(false, (.t 8))] [3],
 oo 10 (.un .not 4 (.t 9))]) (.cond (.t 10) (.seq (.draw [oo 11 (.build 26 [.sl 0 [], .lit (.bool false)] []),
 oo 12 (.load 45 none (.g 4)),
 ov (.store 26 2 (.t 6) (.t 11)),
 oo 7 (.asg (.t 12))] [[], [], [0, 0], [1, 2, 0, 1, 2]]) .ret) .skip)) (.seq (.seq (.reg [om 13 2,
 oo 14 (.len 34 false (.t 13)),
 om 15 0,
 oc 16 89 [(false, (.t 15))] [3],
 oo 17 (.bin .neq 3 0 (.t 14) (.t 16) 3),
 om 18 17,
 og 19 (.mv (.t 0)) 5 18 false,
 og 20 (.bin .neq 3 0 (.t 19) (.n 18) 3) 5 18 false,
 og 21 (.mv (.t 20)) 5 18 false,
 og 22 (.mv (.t 1)) 8 21 true,
 og 23 (.len 24 false (.t 22)) 8 21 true,
 og 24 (.mv (.t 0)) 8 21 true,
 ⟨(some 25), .call 90 [(false, (.t 24))] [3], (some (8, 21, true))⟩,
 og 26 (.bin .neq 3 0 (.t 23) (.t 25) 3) 8 21 true,
 og 27 (.pick (.t 21) (.t 26) (.c (.bool false))) 5 18 false,
 oo 28 (.pick (.t 18) (.c (.bool true)) (.t 27))]) (.cond (.t 28) (.seq (.draw [oo 29 (.build 26 [.sl 0 [], .lit (.bool false)] []),
 oo 30 (.load 45 none (.g 7)),
 ov (.store 26 2 (.t 6) (.t 29)),
 oo 7 (.asg (.t 30))] [[], [], [0, 0], [1, 2, 0, 1, 2]]) .ret) .skip)) (.seq (.seq (.reg [om 31 0]) (.block 0 (.seq (.reg [oo 33 (.bin .eql 3 0 (.t 31) (.n 12) 3),
 oo 32 (.asg (.t 33))]) (.cond (.t 32) (.seq (.draw [om 34 1,
 oo 35 (.iaddr 24 1 (.t 34) (.n 0)),
 oo 36 (.load 3 none (.t 35)),
 om 37 1,
 oo 38 (.iaddr 24 1 (.t 37) (.n 1)),
 oo 39 (.load 3 none (.t 38)),
 om 40 2,
 oo 41 (.iaddr 34 2 (.t 40) (.n 0)),
 oo 42 (.load 26 (some 2) (.t 41)),
 om 43 2,
 oo 44 (.iaddr 34 2 (.t 43) (.n 1)),
 oo 45 (.load 26 (some 2) (.t 44)),
 oc 46 91 [(false, (.t 36)), (false, (.t 39)), (false, (.t 42)), (false, (.t 45))] [3, 3, 26, 26],
 oo 47 (.ext (.t 46) 0),
 oo 48 (.ext (.t 46) 1),
 ov (.store 26 2 (.t 6) (.t 47)),
 oo 7 (.asg (.t 48))] [[], [0], [1], [], [3], [4], [], [6], [7], [], [9], [10], [2, 5, 8, 11], [12], [12], [13, 12, 0, 1, 2, 3, 4, 5, 6, 7, 8, 9, 10, 11, 12, 13, 14], [14, 15, 0, 1, 2, 3, 4, 5, 6, 7, 8, 9, 10, 11, 12, 13, 14, 15]]) .ret) (.seq (.reg [oo 50 (.bin .eql 3 0 (.t 31) (.n 13) 3),
 oo 49 (.asg (.t 50))]) (.cond (.t 49) (.seq (.draw [om 51 1,
 om 52 2,
 oo 53 (.iaddr 34 2 (.t 52) (.n 0)),
 oo 54 (.load 26 (some 2) (.t 53)),
 om 55 2,
 oo 56 (.iaddr 34 2 (.t 55) (.n 1)),
 oo 57 (.load 26 (some 2) (.t 56)),
 oc 58 92 [(false, (.t 51)), (false, (.t 54)), (false, (.t 57))] [24, 26, 26],
 oo 59 (.ext (.t 58) 0),
 oo 60 (.ext (.t 58) 1),
 ov (.store 26 2 (.t 6) (.t 59)),
 oo 7 (.asg (.t 60))] [[], [], [1], [2], [], [4], [5], [0, 3, 6], [7], [7], [8, 7, 0, 1, 2, 3, 4, 5, 6, 7, 8, 9], [9, 10, 0, 1, 2, 3, 4, 5, 6, 7, 8, 9, 10]]) .ret) (.seq (.seq (.reg [oo 62 (.bin .eql 3 0 (.t 31) (.n 14) 3),
 oo 61 (.asg (.t 62))]) (.cond (.t 61) .skip (.reg [oo 63 (.bin .eql 3 0 (.t 31) (.n 15) 3),
 oo 61 (.asg (.t 63))]))) (.cond (.t 61) (.seq (.reg [om 64 1,
 om 65 2,
 oo 66 (.iaddr 34 2 (.t 65) (.n 0)),
 oo 67 (.load 26 (some 2) (.t 66)),
 oc 68 93 [(false, (.t 64)), (false, (.t 67))] [24, 26],
 oo 69 (.ext (.t 68) 0),
 oo 70 (.ext (.t 68) 1),
 ov (.store 26 2 (.t 6) (.t 69)),
 oo 7 (.asg (.t 70))]) .ret) (.seq (.seq (.reg [oo 72 (.bin .eql 3 0 (.t 31) (.n 16) 3),
 oo 71 (.asg (.t 72))]) (.cond (.t 71) .skip (.seq (.reg [oo 73 (.bin .eql 3 0 (.t 31) (.n 19) 3),
 oo 71 (.asg (.t 73))]) (.cond (.t 71) .skip (.seq (.reg [oo 74 (.bin .eql 3 0 (.t 31) (.n 20) 3),
 oo 71 (.asg (.t 74))]) (.cond (.t 71) .skip (.reg [oo 75 (.bin .eql 3 0 (.t 31) (.n 17) 3),
 oo 71 (.asg (.t 75))]))))))) (.cond (.t 71) (.seq (.reg [om 76 0,
 om 77 2,
 oc 78 94 [(false, (.t 76)), (false, (.t 77))] [3, 34],
 oo 79 (.ext (.t 78) 0),
 oo 80 (.ext (.t 78) 1),
 ov (.store 26 2 (.t 6) (.t 79)),
 oo 7 (.asg (.t 80))]) .ret) (.seq (.reg [oo 82 (.bin .eql 3 0 (.t 31) (.n 18) 3),
 oo 81 (.asg (.t 82))]) (.cond (.t 81) (.seq (.reg [om 83 1,
 om 84 2,
 oo 85 (.iaddr 34 2 (.t 84) (.n 0)),
 oo 86 (.load 26 (some 2) (.t 85)),
 oc 87 95 [(false, (.t 83)), (false, (.t 86))] [24, 26],
 oo 88 (.ext (.t 87) 0),
 oo 89 (.ext (.t 87) 1),
 ov (.store 26 2 (.t 6) (.t 88)),
 oo 7 (.asg (.t 89))]) .ret) (.seq (.reg [oo 91 (.bin .eql 3 0 (.t 31) (.n 21) 3),
 oo 90 (.asg (.t 91))]) (.cond (.t 90) (.seq (.reg [om 92 2,
 oo 93 (.iaddr 34 2 (.t 92) (.n 0)),
 oo 94 (.load 26 (some 2) (.t 93)),
 oc 95 96 [(false, (.t 94))] [26],
 oo 96 (.ext (.t 95) 0),
 oo 97 (.ext (.t 95) 1),
 ov (.store 26 2 (.t 6) (.t 96)),
 oo 7 (.asg (.t 97))]) .ret) .skip)))))))))))))) (.seq (.reg [om 98 0,
 om 99 1,
 om 100 2,
 oc 101 97 [(false, (.t 98)), (false, (.t 99)), (false, (.t 100))] [3, 24, 34],
 oo 102 (.ext (.t 101) 0),
 oo 103 (.ext (.t 101) 1),
 ov (.store 26 2 (.t 6) (.t 102)),
 oo 7 (.asg (.t 103))]) .ret)))))
abbrev b9h : Nat := 68
theorem b37 : fnC pg 68 104 [(.cells 6 2), (.tmp 7)] b23 := a09 Go.Proofs.Tryd.f68 [(.cell 6 26), (.tmp 7)] (by kernel_rfl)
@[go_sem] theorem c9g : fnB pg 68 = true := by kernel_rfl
def a31 : IC := (.seq (.reg [oo 20 (.bin .lss 3 0 (.t 19) (.t 18) 3)]) (.seq (.cond (.t 20) .skip (.exit 0)) (.seq (.block 1 (.seq (.reg [oo 21 (.iaddr 34 2 (.t 17) (.t 19)),
 oo 22 (.load 26 (some 2) (.t 21)),
 oo 8 (.alloc 26 [.own 1 0 [], .lit (.bool false)]),
 ov (.store 26 2 (.t 8) (.t 22))]) (.seq (.reg [oo 23 (.load 26 (some 2) (.t 8)),
 oc 24 58 [(false, (.t 23))] [26],
 oo 9 (.asg (.t 24))]) (.seq (.reg [om 25 9,
 oo 26 (.bin .neq 45 2 (.t 25) (.c .nilIface) 45)]) (.cond (.t 26) (.seq (.reg [oo 27 (.build 26 [.sl 0 [], .lit (.bool false)] []),
 om 28 9,
 ov (.store 26 2 (.t 4) (.t 27)),
 oo 5 (.asg (.t 28))]) .ret) .skip))))) (.reg [oo 29 (.bin .add 3 0 (.t 19) (.n 1) 3),
 om 19 29]))))
def b1h : IC := (.seq (.reg [oo 3 (.box 26 2 (.t 1)),
 oo 4 (.alloc 26 [.own 1 0 [], .lit (.bool false)]),
 oo 5 (.asg (.c .nilIface))]) (.seq (.draw [om 10 0,
 oc 11 99 [(false, (.t 10))] [24],
 oo 12 (.faddr 26 1 (.t 3) 1),
 oo 13 (.load 4 none (.t 12)),
 oo 14 (.build 26 [.own 1 0 [], .lit (.bool false)] [(0, 0, 1, (.t 11)), (1, 1, 1, (.t 13))]),
 oo 6 (.alloc 26 [.own 1 0 [], .lit (.bool false)]),
 ov (.store 26 2 (.t 6) (.t 14))] [[], [0], [], [2], [1, 3], [], [5, 4, 1, 0, 1, 2, 3, 4, 5]]) (.seq (.seq (.reg [oo 15 (.load 26 (some 2) (.t 3)),
 oo 16 (.load 26 (some 2) (.t 6)),
 oo 17 (.bslice 34 26 2 2 [.own 1 0 [], .lit (.bool false)] [(0, (.t 15)), (1, (.t 16))]),
 oo 18 (.len 34 false (.t 17)),
 oo 19 (.mv (.n 0))]) (.block 0 (.loop a31))) (.seq (.seq (.reg [oo 30 (.faddr 26 0 (.t 3) 0),
 oo 31 (.load 24 none (.t 30)),
 oc 32 56 [(false, (.t 31))] [24],
 om 33 0,
 oc 34 56 [(false, (.t 33))] [24],
 oo 35 (.bin .neq 3 0 (.t 32) (.t 34) 3)]) (.cond (.t 35) (.seq (.draw [oo 36 (.build 26 [.sl 0 [], .lit (.bool false)] []),
 oo 37 (.load 45 none (.g 7)),
 ov (.store 26 2 (.t 4) (.t 36)),
 oo 5 (.asg (.t 37))] [[], [], [0, 0], [1, 2, 0, 1, 2]]) .ret) .skip)) (.seq (.reg [oo 38 (.load 26 (some 2) (.t 6)),
 ov (.store 26 2 (.t 4) (.t 38)),
 oo 5 (.asg (.c .nilIface))]) .ret)))))
abbrev b60 : Nat := 95
theorem b24 : fnC pg 95 39 [(.cells 4 2), (.tmp 5)] b1h := a09 Go.Proofs.Tryd.f95 [(.cell 4 26), (.tmp 5)] (by kernel_rfl)
@[go_sem] theorem c7j : fnB pg 95 = true := by kernel_rfl
def a9x : IC := (.seq (.reg [oo 1 (.box 26 2 (.t 0)),
 oo 2 (.alloc 26 [.own 1 0 [], .lit (.bool false)]),
 oo 3 (.asg (.c .nilIface))]) (.seq (.seq (.reg [oo 5 (.load 26 (some 2) (.t 1)),
 oc 6 58 [(false, (.t 5))] [26],
 oo 4 (.asg (.t 6))]) (.seq (.reg [om 7 4,
 oo 8 (.bin .neq 45 2 (.t 7) (.c .nilIface) 45)]) (.cond (.t 8) (.seq (.reg [oo 9 (.build 26 [.sl 0 [], .lit (.bool false)] []),
 om 10 4,
 ov (.store 26 2 (.t 2) (.t 9)),
 oo 3 (.asg (.t 10))]) .ret) .skip))) (.seq (.seq (.reg [oo 11 (.faddr 26 0 (.t 1) 0),
 oo 12 (.load 24 none (.t 11)),
 oo 13 (.len 24 false (.t 12)),
 oo 14 (.bin .neq 3 0 (.t 13) (.n 2) 3)]) (.cond (.t 14) (.seq (.draw [oo 15 (.build 26 [.sl 0 [], .lit (.bool false)] []),
 oo 16 (.load 45 none (.g 7)),
 ov (.store 26 2 (.t 2) (.t 15)),
 oo 3 (.asg (.t 16))] [[], [], [0, 0], [1, 2, 0, 1, 2]]) .ret) .skip)) (.seq (.draw [oo 17 (.faddr 26 0 (.t 1) 0),
 oo 18 (.load 24 none (.t 17)),
 oo 19 (.iaddr 24 1 (.t 18) (.n 1)),
 oo 20 (.load 3 none (.t 19)),
 oo 21 (.faddr 26 0 (.t 1) 0),
 oo 22 (.load 24 none (.t 21)),
 oo 23 (.iaddr 24 1 (.t 22) (.n 0)),
 oo 24 (.load 3 none (.t 23)),
 oo 25 (.bslice 24 3 1 2 [.lit (.int .i64 0)] [(0, (.t 20)), (1, (.t 24))]),
 oo 26 (.faddr 26 1 (.t 1) 1),
 oo 27 (.load 4 none (.t 26)),
 oo 28 (.build 26 [.own 1 0 [], .lit (.bool false)] [(0, 0, 1, (.t 25)), (1, 1, 1, (.t 27))]),
 ov (.store 26 2 (.t 2) (.t 28)),
 oo 3 (.asg (.c .nilIface))] [[], [0], [1], [2], [], [4], [5], [6], [3, 7], [], [9], [8, 10], [11, 0, 1, 2, 3, 4, 5, 6, 7, 8, 9, 10, 11], [12, 0, 1, 2, 3, 4, 5, 6, 7, 8, 9, 10, 11, 12]]) .ret))))
abbrev c37 : Nat := 96
theorem a7y : fnC pg 96 29 [(.cells 2 2), (.tmp 3)] a9x := a09 Go.Proofs.Tryd.f96 [(.cell 2 26), (.tmp 3)] (by kernel_rfl)
@[go_sem] theorem d25 : fnB pg 96 = true := by kernel_rfl
def a30 : IC := (.seq (.reg [oo 20 (.bin .lss 3 0 (.t 19) (.t 18) 3)]) (.seq (.cond (.t 20) .skip (.exit 0)) (.seq (.block 1 (.seq (.reg [oo 21 (.iaddr 34 2 (.t 17) (.t 19)),
 oo 22 (.load 26 (some 2) (.t 21)),
 oo 11 (.alloc 26 [.own 1 0 [], .lit (.bool false)]),
 ov (.store 26 2 (.t 11) (.t 22))]) (.seq (.reg [oo 23 (.load 26 (some 2) (.t 11)),
 oc 24 58 [(false, (.t 23))] [26],
 oo 12 (.asg (.t 24))]) (.seq (.reg [om 25 12,
 oo 26 (.bin .neq 45 2 (.t 25) (.c .nilIface) 45)]) (.cond (.t 26) (.seq (.reg [oo 27 (.build 26 [.sl 0 [], .lit (.bool false)] []),
 om 28 12,
 ov (.store 26 2 (.t 8) (.t 27)),
 oo 9 (.asg (.t 28))]) .ret) .skip))))) (.reg [oo 29 (.bin .add 3 0 (.t 19) (.n 1) 3),
 om 19 29]))))
def b1b : IC := (.seq (.reg [oo 6 (.box 26 2 (.t 2)),
 oo 7 (.box 26 2 (.t 3)),
 oo 8 (.alloc 26 [.own 1 0 [], .lit (.bool false)]),
 oo 9 (.asg (.c .nilIface))]) (.seq (.seq (.reg [oo 15 (.load 26 (some 2) (.t 6)),
 oo 16 (.load 26 (some 2) (.t 7)),
 oo 17 (.bslice 34 26 2 2 [.own 1 0 [], .lit (.bool false)] [(0, (.t 15)), (1, (.t 16))]),
 oo 18 (.len 34 false (.t 17)),
 oo 19 (.mv (.n 0))]) (.block 0 (.loop a30))) (.seq (.seq (.draw [oo 30 (.faddr 26 0 (.t 6) 0),
 oo 31 (.load 24 none (.t 30)),
 oo 32 (.len 24 false (.t 31)),
 oo 33 (.bin .neq 3 0 (.t 32) (.n 2) 3),
 om 34 33,
 og 35 (.faddr 26 0 (.t 7) 0) 4 34 false,
 og 36 (.load 24 none (.t 35)) 4 34 false,
 og 37 (.len 24 false (.t 36)) 4 34 false,
 og 38 (.bin .neq 3 0 (.t 37) (.n 2) 3) 4 34 false,
 oo 39 (.pick (.t 34) (.c (.bool true)) (.t 38)),
 om 40 39,
 og 41 (.faddr 26 0 (.t 6) 0) 10 40 false,
 og 42 (.load 24 none (.t 41)) 10 40 false,
 og 43 (.iaddr 24 1 (.t 42) (.n 1)) 10 40 false,
 og 44 (.load 3 none (.t 43)) 10 40 false,
 og 45 (.faddr 26 0 (.t 7) 0) 10 40 false,
 og 46 (.load 24 none (.t 45)) 10 40 false,
 og 47 (.iaddr 24 1 (.t 46) (.n 0)) 10 40 false,
 og 48 (.load 3 none (.t 47)) 10 40 false,
 og 49 (.bin .neq 3 0 (.t 44) (.t 48) 3) 10 40 false,
 oo 50 (.pick (.t 40) (.c (.bool true)) (.t 49)),
 om 51 50,
 og 52 (.faddr 26 1 (.t 6) 1) 21 51 false,
 og 53 (.load 4 none (.t 52)) 21 51 false,
 oo 54 (.pick (.t 51) (.c (.bool true)) (.t 53)),
 om 55 54,
 og 56 (.faddr 26 1 (.t 7) 1) 25 55 false,
 og 57 (.load 4 none (.t 56)) 25 55 false,
 oo 58 (.pick (.t 55) (.c (.bool true)) (.t 57))] [[], [0], [1], [2], [3], [4], [5, 4], [6, 4], [7, 4], [4, 8], [9, 4], [10], [11, 10], [12, 10], [13, 10], [10], [15, 10], [16, 10], [17, 10], [14, 18, 10], [10, 19], [20, 10], [21], [22, 21], [21, 23], [24, 21], [25], [26, 25], [25, 27]]) (.cond (.t 58) (.seq (.draw [oo 59 (.build 26 [.sl 0 [], .lit (.bool false)] []),
 oo 60 (.load 45 none (.g 7)),
 ov (.store 26 2 (.t 8) (.t 59)),
 oo 9 (.asg (.t 60))] [[], [], [0, 0], [1, 2, 0, 1, 2]]) .ret) .skip)) (.seq (.seq (.reg [om 61 0,
 oc 62 113 [(false, (.t 61))] [3],
 oo 63 (.un .not 4 (.t 62)),
 om 64 63,
 og 65 (.mv (.t 1)) 3 64 false,
 ⟨(some 66), .call 113 [(false, (.t 65))] [3], (some (3, 64, false))⟩,
 og 67 (.un .not 4 (.t 66)) 3 64 false,
 oo 68 (.pick (.t 64) (.c (.bool true)) (.t 67))]) (.cond (.t 68) (.seq (.draw [oo 69 (.build 26 [.sl 0 [], .lit (.bool false)] []),
 oo 70 (.load 45 none (.g 3)),
 ov (.store 26 2 (.t 8) (.t 69)),
 oo 9 (.asg (.t 70))] [[], [], [0, 0], [1, 2, 0, 1, 2]]) .ret) .skip)) (.seq (.draw [oo 71 (.faddr 26 0 (.t 6) 0),
 oo 72 (.load 24 none (.t 71)),
 oo 73 (.iaddr 24 1 (.t 72) (.n 0)),
 oo 74 (.load 3 none (.t 73)),
 oo 75 (.faddr 26 0 (.t 7) 0),
 oo 76 (.load 24 none (.t 75)),
 oo 77 (.iaddr 24 1 (.t 76) (.n 1)),
 oo 78 (.load 3 none (.t 77)),
 oo 79 (.bslice 24 3 1 2 [.lit (.int .i64 0)] [(0, (.t 74)), (1, (.t 78))]),
 oo 80 (.build 26 [.own 1 0 [], .lit (.bool false)] [(0, 0, 1, (.t 79)), (1, 1, 1, (.c (.bool true)))]),
 oo 13 (.alloc 26 [.own 1 0 [], .lit (.bool false)]),
 ov (.store 26 2 (.t 13) (.t 80))] [[], [0], [1], [2], [], [4], [5], [6], [3, 7], [8], [], [10, 9, 0, 1, 2, 3, 4, 5, 6, 7, 8, 9, 10]]) (.seq (.seq (.reg [oo 81 (.load 26 (some 2) (.t 13)),
 oc 82 58 [(false, (.t 81))] [26],
 oo 14 (.asg (.t 82))]) (.seq (.reg [om 83 14,
 oo 84 (.bin .neq 45 2 (.t 83) (.c .nilIface) 45)]) (.cond (.t 84) (.seq (.reg [oo 85 (.build 26 [.sl 0 [], .lit (.bool false)] []),
 om 86 14,
 ov (.store 26 2 (.t 8) (.t 85)),
 oo 9 (.asg (.t 86))]) .ret) .skip))) (.seq (.reg [oo 87 (.load 26 (some 2) (.t 13)),
 ov (.store 26 2 (.t 8) (.t 87)),
 oo 9 (.asg (.c .nilIface))]) .ret)))))))
abbrev b6y : Nat := 91
theorem b2v : fnC pg 91 88 [(.cells 8 2), (.tmp 9)] b1b := a09 Go.Proofs.Tryd.f91 [(.cell 8 26), (.tmp 9)] (by kernel_rfl)
@[go_sem] theorem c7g : fnB pg 91 = true := by kernel_rfl
def a3f : IC := (.seq (.reg [oo 28 (.bin .lss 3 0 (.t 27) (.t 26) 3)]) (.seq (.cond (.t 28) .skip (.exit 0)) (.seq (.block 1 (.seq (.reg [oo 29 (.iaddr 34 2 (.t 25) (.t 27)),
 oo 30 (.load 26 (some 2) (.t 29)),
 oo 9 (.alloc 26 [.own 1 0 [], .lit (.bool false)]),
 ov (.store 26 2 (.t 9) (.t 30))]) (.seq (.reg [oo 31 (.load 26 (some 2) (.t 9)),
 oc 32 58 [(false, (.t 31))] [26],
 oo 10 (.asg (.t 32))]) (.seq (.reg [om 33 10,
 oo 34 (.bin .neq 45 2 (.t 33) (.c .nilIface) 45)]) (.cond (.t 34) (.seq (.reg [oo 35 (.build 26 [.sl 0 [], .lit (.bool false)] []),
 om 36 10,
 ov (.store 26 2 (.t 6) (.t 35)),
 oo 7 (.asg (.t 36))]) .ret) .skip))))) (.reg [oo 37 (.bin .add 3 0 (.t 27) (.n 1) 3),
 om 27 37]))))
def a9o : IC := (.seq (.reg [oo 4 (.box 26 2 (.t 1)),
 oo 5 (.box 26 2 (.t 2)),
 oo 6 (.alloc 26 [.own 1 0 [], .lit (.bool false)]),
 oo 7 (.asg (.c .nilIface))]) (.seq (.seq (.reg [om 18 0,
 oo 19 (.len 24 false (.t 18)),
 oo 20 (.bin .neq 3 0 (.t 19) (.n 3) 3)]) (.cond (.t 20) (.seq (.draw [oo 21 (.build 26 [.sl 0 [], .lit (.bool false)] []),
 oo 22 (.load 45 none (.g 7)),
 ov (.store 26 2 (.t 6) (.t 21)),
 oo 7 (.asg (.t 22))] [[], [], [0, 0], [1, 2, 0, 1, 2]]) .ret) .skip)) (.seq (.seq (.reg [oo 23 (.load 26 (some 2) (.t 4)),
 oo 24 (.load 26 (some 2) (.t 5)),
 oo 25 (.bslice 34 26 2 2 [.own 1 0 [], .lit (.bool false)] [(0, (.t 23)), (1, (.t 24))]),
 oo 26 (.len 34 false (.t 25)),
 oo 27 (.mv (.n 0))]) (.block 0 (.loop a3f))) (.seq (.seq (.draw [oo 38 (.faddr 26 0 (.t 4) 0),
 oo 39 (.load 24 none (.t 38)),
 oo 40 (.len 24 false (.t 39)),
 oo 41 (.bin .neq 3 0 (.t 40) (.n 3) 3),
 om 42 41,
 og 43 (.faddr 26 0 (.t 5) 0) 4 42 false,
 og 44 (.load 24 none (.t 43)) 4 42 false,
 og 45 (.len 24 false (.t 44)) 4 42 false,
 og 46 (.bin .neq 3 0 (.t 45) (.n 4) 3) 4 42 false,
 oo 47 (.pick (.t 42) (.c (.bool true)) (.t 46)),
 om 48 47,
 og 49 (.faddr 26 0 (.t 4) 0) 10 48 false,
 og 50 (.load 24 none (.t 49)) 10 48 false,
 og 51 (.iaddr 24 1 (.t 50) (.n 2)) 10 48 false,
 og 52 (.load 3 none (.t 51)) 10 48 false,
 og 53 (.faddr 26 0 (.t 5) 0) 10 48 false,
 og 54 (.load 24 none (.t 53)) 10 48 false,
 og 55 (.iaddr 24 1 (.t 54) (.n 2)) 10 48 false,
 og 56 (.load 3 none (.t 55)) 10 48 false,
 og 57 (.bin .neq 3 0 (.t 52) (.t 56) 3) 10 48 false,
 oo 58 (.pick (.t 48) (.c (.bool true)) (.t 57)),
 om 59 58,
 og 60 (.faddr 26 1 (.t 4) 1) 21 59 false,
 og 61 (.load 4 none (.t 60)) 21 59 false,
 oo 62 (.pick (.t 59) (.c (.bool true)) (.t 61)),
 om 63 62,
 og 64 (.faddr 26 1 (.t 5) 1) 25 63 false,
 og 65 (.load 4 none (.t 64)) 25 63 false,
 oo 66 (.pick (.t 63) (.c (.bool true)) (.t 65))] [[], [0], [1], [2], [3], [4], [5, 4], [6, 4], [7, 4], [4, 8], [9, 4], [10], [11, 10], [12, 10], [13, 10], [10], [15, 10], [16, 10], [17, 10], [14, 18, 10], [10, 19], [20, 10], [21], [22, 21], [21, 23], [24, 21], [25], [26, 25], [25, 27]]) (.cond (.t 66) (.seq (.draw [oo 67 (.build 26 [.sl 0 [], .lit (.bool false)] []),
 oo 68 (.load 45 none (.g 7)),
 ov (.store 26 2 (.t 6) (.t 67)),
 oo 7 (.asg (.t 68))] [[], [], [0, 0], [1, 2, 0, 1, 2]]) .ret) .skip)) (.seq (.draw [om 69 0,
 oo 70 (.iaddr 24 1 (.t 69) (.n 0)),
 oo 71 (.load 3 none (.t 70)),
 om 72 0,
 oo 73 (.iaddr 24 1 (.t 72) (.n 1)),
 oo 74 (.load 3 none (.t 73)),
 om 75 0,
 oo 76 (.iaddr 24 1 (.t 75) (.n 2)),
 oo 77 (.load 3 none (.t 76)),
 oo 11 (.asg (.t 71)),
 oo 12 (.asg (.t 74)),
 oo 13 (.asg (.t 77))] [[], [0], [1], [], [3], [4], [], [6], [7], [2, 0, 1, 2], [5, 9, 0, 1, 2, 3, 4, 5, 9], [8, 10, 0, 1, 2, 3, 4, 5, 6, 7, 8, 9, 10]]) (.seq (.seq (.reg [om 78 11,
 oo 79 (.bin .lss 3 0 (.t 78) (.n 1) 3),
 om 80 79,
 og 81 (.mv (.t 11)) 2 80 false,
 og 82 (.bin .gtr 3 0 (.t 81) (.n 16) 3) 2 80 false,
 oo 83 (.pick (.t 80) (.c (.bool true)) (.t 82)),
 om 84 83,
 og 85 (.mv (.t 12)) 6 84 false,
 og 86 (.bin .lss 3 0 (.t 85) (.n 0) 3) 6 84 false,
 oo 87 (.pick (.t 84) (.c (.bool true)) (.t 86)),
 om 88 87,
 og 89 (.mv (.t 12)) 10 88 false,
 og 90 (.bin .gtr 3 0 (.t 89) (.n 15) 3) 10 88 false,
 oo 91 (.pick (.t 88) (.c (.bool true)) (.t 90)),
 om 92 91,
 og 93 (.mv (.t 13)) 14 92 false,
 ⟨(some 94), .call 114 [(false, (.t 93))] [3], (some (14, 92, false))⟩,
 og 95 (.mv (.t 13)) 14 92 false,
 og 96 (.bin .neq 3 0 (.t 94) (.t 95) 3) 14 92 false,
 oo 97 (.pick (.t 92) (.c (.bool true)) (.t 96))]) (.cond (.t 97) (.seq (.draw [oo 98 (.build 26 [.sl 0 [], .lit (.bool false)] []),
 oo 99 (.load 45 none (.g 3)),
 ov (.store 26 2 (.t 6) (.t 98)),
 oo 7 (.asg (.t 99))] [[], [], [0, 0], [1, 2, 0, 1, 2]]) .ret) .skip)) (.seq (.draw [oo 100 (.faddr 26 0 (.t 4) 0),
 oo 101 (.load 24 none (.t 100)),
 oo 102 (.iaddr 24 1 (.t 101) (.n 0)),
 oo 103 (.load 3 none (.t 102)),
 om 104 12,
 oo 105 (.bin .mul 3 0 (.n 2) (.t 104) 3),
 oo 106 (.bin .add 3 0 (.t 103) (.t 105) 3),
 oo 107 (.faddr 26 0 (.t 5) 0),
 oo 108 (.load 24 none (.t 107)),
 oo 109 (.iaddr 24 1 (.t 108) (.n 0)),
 oo 110 (.load 3 none (.t 109)),
 oo 111 (.bin .sub 3 0 (.t 106) (.t 110) 3),
 oo 112 (.faddr 26 0 (.t 4) 0),
 oo 113 (.load 24 none (.t 112)),
 oo 114 (.iaddr 24 1 (.t 113) (.n 1)),
 oo 115 (.load 3 none (.t 114)),
 om 116 12,
 oo 117 (.bin .mul 3 0 (.n 2) (.t 116) 3),
 oo 118 (.bin .add 3 0 (.t 115) (.t 117) 3),
 oo 119 (.faddr 26 0 (.t 5) 0),
 oo 120 (.load 24 none (.t 119)),
 oo 121 (.iaddr 24 1 (.t 120) (.n 1)),
 oo 122 (.load 3 none (.t 121)),
 oo 123 (.bin .sub 3 0 (.t 118) (.t 122) 3),
 oo 14 (.asg (.t 111)),
 oo 15 (.asg (.t 123))] [[], [0], [1], [2], [], [4], [3, 5], [], [7], [8], [9], [6, 10], [], [12], [13], [14], [], [16], [15, 17], [], [19], [20], [21], [18, 22], [11, 0, 1, 2, 3, 4, 5, 6, 7, 8, 9, 10, 11], [23, 24, 0, 1, 2, 3, 4, 5, 6, 7, 8, 9, 10, 11, 12, 13, 14, 15, 16, 17, 18, 19, 20, 21, 22, 23, 24]]) (.seq (.seq (.reg [om 124 14,
 oo 125 (.bin .lss 3 0 (.t 124) (.n 0) 3),
 om 126 125,
 og 127 (.mv (.t 15)) 2 126 false,
 og 128 (.bin .lss 3 0 (.t 127) (.n 0) 3) 2 126 false,
 oo 129 (.pick (.t 126) (.c (.bool true)) (.t 128))]) (.cond (.t 129) (.seq (.draw [oo 130 (.build 26 [.sl 0 [], .lit (.bool false)] []),
 oo 131 (.load 45 none (.g 7)),
 ov (.store 26 2 (.t 6) (.t 130)),
 oo 7 (.asg (.t 131))] [[], [], [0, 0], [1, 2, 0, 1, 2]]) .ret) .skip)) (.seq (.draw [om 132 14,
 om 133 11,
 oo 134 (.bin .quo 3 0 (.t 132) (.t 133) 3),
 oo 135 (.bin .add 3 0 (.t 134) (.n 1) 3),
 om 136 15,
 om 137 11,
 oo 138 (.bin .quo 3 0 (.t 136) (.t 137) 3),
 oo 139 (.bin .add 3 0 (.t 138) (.n 1) 3),
 oo 140 (.faddr 26 0 (.t 5) 0),
 oo 141 (.load 24 none (.t 140)),
 oo 142 (.iaddr 24 1 (.t 141) (.n 3)),
 oo 143 (.load 3 none (.t 142)),
 oo 144 (.bslice 24 3 1 3 [.lit (.int .i64 0)] [(0, (.t 135)), (1, (.t 139)), (2, (.t 143))]),
 oo 145 (.build 26 [.own 1 0 [], .lit (.bool false)] [(0, 0, 1, (.t 144)), (1, 1, 1, (.c (.bool true)))]),
 oo 16 (.alloc 26 [.own 1 0 [], .lit (.bool false)]),
 ov (.store 26 2 (.t 16) (.t 145))] [[], [], [0, 1], [2], [], [], [4, 5], [6], [], [8], [9], [10], [3, 7, 11], [12], [], [14, 13, 0, 1, 2, 3, 4, 5, 6, 7, 8, 9, 10, 11, 12, 13, 14]]) (.seq (.seq (.reg [oo 146 (.load 26 (some 2) (.t 16)),
 oc 147 58 [(false, (.t 146))] [26],
 oo 17 (.asg (.t 147))]) (.seq (.reg [om 148 17,
 oo 149 (.bin .neq 45 2 (.t 148) (.c .nilIface) 45)]) (.cond (.t 149) (.seq (.reg [oo 150 (.build 26 [.sl 0 [], .lit (.bool false)] []),
 om 151 17,
 ov (.store 26 2 (.t 6) (.t 150)),
 oo 7 (.asg (.t 151))]) .ret) .skip))) (.seq (.reg [oo 152 (.load 26 (some 2) (.t 16)),
 ov (.store 26 2 (.t 6) (.t 152)),
 oo 7 (.asg (.c .nilIface))]) .ret)))))))))))
abbrev b49 : Nat := 92
theorem b1q : fnC pg 92 153 [(.cells 6 2), (.tmp 7)] a9o := a09 Go.Proofs.Tryd.f92 [(.cell 6 26), (.tmp 7)] (by kernel_rfl)
@[go_sem] theorem c4m : fnB pg 92 = true := by kernel_rfl
def a1k : IC := (.seq (.reg [oo 3 (.box 26 2 (.t 1)),
 oo 4 (.alloc 26 [.own 1 0 [], .lit (.bool false)]),
 oo 5 (.asg (.c .nilIface))]) (.seq (.seq (.reg [om 11 0,
 oo 12 (.len 24 false (.t 11)),
 oo 13 (.bin .neq 3 0 (.t 12) (.n 2) 3)]) (.cond (.t 13) (.seq (.draw [oo 14 (.build 26 [.sl 0 [], .lit (.bool false)] []),
 oo 15 (.load 45 none (.g 7)),
 ov (.store 26 2 (.t 4) (.t 14)),
 oo 5 (.asg (.t 15))] [[], [], [0, 0], [1, 2, 0, 1, 2]]) .ret) .skip)) (.seq (.seq (.reg [oo 16 (.load 26 (some 2) (.t 3)),
 oc 17 58 [(false, (.t 16))] [26],
 oo 6 (.asg (.t 17))]) (.seq (.reg [om 18 6,
 oo 19 (.bin .neq 45 2 (.t 18) (.c .nilIface) 45)]) (.cond (.t 19) (.seq (.reg [oo 20 (.build 26 [.sl 0 [], .lit (.bool false)] []),
 om 21 6,
 ov (.store 26 2 (.t 4) (.t 20)),
 oo 5 (.asg (.t 21))]) .ret) .skip))) (.seq (.seq (.reg [oo 22 (.faddr 26 0 (.t 3) 0),
 oo 23 (.load 24 none (.t 22)),
 oo 24 (.len 24 false (.t 23)),
 oo 25 (.bin .neq 3 0 (.t 24) (.n 3) 3)]) (.cond (.t 25) (.seq (.draw [oo 26 (.build 26 [.sl 0 [], .lit (.bool false)] []),
 oo 27 (.load 45 none (.g 7)),
 ov (.store 26 2 (.t 4) (.t 26)),
 oo 5 (.asg (.t 27))] [[], [], [0, 0], [1, 2, 0, 1, 2]]) .ret) .skip)) (.seq (.draw [om 28 0,
 oo 29 (.iaddr 24 1 (.t 28) (.n 0)),
 oo 30 (.load 3 none (.t 29)),
 om 31 0,
 oo 32 (.iaddr 24 1 (.t 31) (.n 1)),
 oo 33 (.load 3 none (.t 32)),
 oo 7 (.asg (.t 30)),
 oo 8 (.asg (.t 33))] [[], [0], [1], [], [3], [4], [2, 0, 1, 2], [5, 6, 0, 1, 2, 3, 4, 5, 6]]) (.seq (.seq (.reg [om 34 7,
 oo 35 (.bin .lss 3 0 (.t 34) (.n 1) 3),
 om 36 35,
 og 37 (.mv (.t 7)) 2 36 false,
 og 38 (.bin .gtr 3 0 (.t 37) (.n 16) 3) 2 36 false,
 oo 39 (.pick (.t 36) (.c (.bool true)) (.t 38)),
 om 40 39,
 og 41 (.mv (.t 8)) 6 40 false,
 og 42 (.bin .lss 3 0 (.t 41) (.n 1) 3) 6 40 false,
 oo 43 (.pick (.t 40) (.c (.bool true)) (.t 42)),
 om 44 43,
 og 45 (.mv (.t 8)) 10 44 false,
 og 46 (.bin .gtr 3 0 (.t 45) (.n 16) 3) 10 44 false,
 oo 47 (.pick (.t 44) (.c (.bool true)) (.t 46))]) (.cond (.t 47) (.seq (.draw [oo 48 (.build 26 [.sl 0 [], .lit (.bool false)] []),
 oo 49 (.load 45 none (.g 3)),
 ov (.store 26 2 (.t 4) (.t 48)),
 oo 5 (.asg (.t 49))] [[], [], [0, 0], [1, 2, 0, 1, 2]]) .ret) .skip)) (.seq (.draw [oo 50 (.faddr 26 0 (.t 3) 0),
 oo 51 (.load 24 none (.t 50)),
 oo 52 (.iaddr 24 1 (.t 51) (.n 0)),
 oo 53 (.load 3 none (.t 52)),
 om 54 7,
 oo 55 (.bin .sub 3 0 (.t 53) (.t 54) 3),
 oo 56 (.faddr 26 0 (.t 3) 0),
 oo 57 (.load 24 none (.t 56)),
 oo 58 (.iaddr 24 1 (.t 57) (.n 1)),
 oo 59 (.load 3 none (.t 58)),
 om 60 7,
 oo 61 (.bin .sub 3 0 (.t 59) (.t 60) 3),
 oo 9 (.asg (.t 55)),
 oo 10 (.asg (.t 61))] [[], [0], [1], [2], [], [3, 4], [], [6], [7], [8], [], [9, 10], [5, 0, 1, 2, 3, 4, 5], [11, 12, 0, 1, 2, 3, 4, 5, 6, 7, 8, 9, 10, 11, 12]]) (.seq (.seq (.reg [om 62 9,
 oo 63 (.bin .lss 3 0 (.t 62) (.n 0) 3),
 om 64 63,
 og 65 (.mv (.t 10)) 2 64 false,
 og 66 (.bin .lss 3 0 (.t 65) (.n 0) 3) 2 64 false,
 oo 67 (.pick (.t 64) (.c (.bool true)) (.t 66))]) (.cond (.t 67) (.seq (.draw [oo 68 (.build 26 [.sl 0 [], .lit (.bool false)] []),
 oo 69 (.load 45 none (.g 7)),
 ov (.store 26 2 (.t 4) (.t 68)),
 oo 5 (.asg (.t 69))] [[], [], [0, 0], [1, 2, 0, 1, 2]]) .ret) .skip)) (.seq (.draw [om 70 9,
 om 71 8,
 oo 72 (.bin .quo 3 0 (.t 70) (.t 71) 3),
 oo 73 (.bin .add 3 0 (.t 72) (.n 1) 3),
 om 74 10,
 om 75 8,
 oo 76 (.bin .quo 3 0 (.t 74) (.t 75) 3),
 oo 77 (.bin .add 3 0 (.t 76) (.n 1) 3),
 oo 78 (.faddr 26 0 (.t 3) 0),
 oo 79 (.load 24 none (.t 78)),
 oo 80 (.iaddr 24 1 (.t 79) (.n 2)),
 oo 81 (.load 3 none (.t 80)),
 oo 82 (.bslice 24 3 1 3 [.lit (.int .i64 0)] [(0, (.t 73)), (1, (.t 77)), (2, (.t 81))]),
 oo 83 (.faddr 26 1 (.t 3) 1),
 oo 84 (.load 4 none (.t 83)),
 oo 85 (.build 26 [.own 1 0 [], .lit (.bool false)] [(0, 0, 1, (.t 82)), (1, 1, 1, (.t 84))]),
 ov (.store 26 2 (.t 4) (.t 85)),
 oo 5 (.asg (.c .nilIface))] [[], [], [0, 1], [2], [], [], [4, 5], [6], [], [8], [9], [10], [3, 7, 11], [], [13], [12, 14], [15, 0, 1, 2, 3, 4, 5, 6, 7, 8, 9, 10, 11, 12, 13, 14, 15], [16, 0, 1, 2, 3, 4, 5, 6, 7, 8, 9, 10, 11, 12, 13, 14, 15, 16]]) .ret)))))))))
abbrev b5b : Nat := 93
theorem a1c : fnC pg 93 86 [(.cells 4 2), (.tmp 5)] a1k := a09 Go.Proofs.Tryd.f93 [(.cell 4 26), (.tmp 5)] (by kernel_rfl)
@[go_sem] theorem c58 : fnB pg 93 = true := by kernel_rfl
def a4j : IC := (.seq (.reg [oo 31 (.bin .lss 3 0 (.t 30) (.t 29) 3)]) (.seq (.cond (.t 31) .skip (.exit 1)) (.seq (.block 2 (.seq (.reg [oo 32 (.iaddr 34 2 (.t 28) (.t 30)),
 oo 33 (.load 26 (some 2) (.t 32)),
 oo 8 (.alloc 26 [.own 1 0 [], .lit (.bool false)]),
 ov (.store 26 2 (.t 8) (.t 33))]) (.seq (.reg [oo 34 (.load 26 (some 2) (.t 8)),
 oc 35 58 [(false, (.t 34))] [26],
 oo 9 (.asg (.t 35))]) (.seq (.reg [om 36 9,
 oo 37 (.bin .neq 45 2 (.t 36) (.c .nilIface) 45)]) (.cond (.t 37) (.seq (.reg [oo 38 (.build 26 [.sl 0 [], .lit (.bool false)] []),
 om 39 9,
 ov (.store 26 2 (.t 4) (.t 38)),
 oo 5 (.asg (.t 39))]) .ret) .skip))))) (.reg [oo 40 (.bin .add 3 0 (.t 30) (.n 1) 3),
 om 30 40]))))
def a34 : IC := (.seq (.reg [oo 4 (.alloc 26 [.own 1 0 [], .lit (.bool false)]),
 oo 5 (.asg (.c .nilIface))]) (.seq (.reg [oo 6 (.asg (.n 1))]) (.seq (.seq (.reg [om 13 0]) (.block 0 (.seq (.seq (.reg [oo 17 (.bin .eql 3 0 (.t 13) (.n 19) 3),
 oo 16 (.asg (.t 17))]) (.cond (.t 16) .skip (.reg [oo 18 (.bin .eql 3 0 (.t 13) (.n 20) 3),
 oo 16 (.asg (.t 18))]))) (.cond (.t 16) .skip (.seq (.seq (.reg [oo 20 (.bin .eql 3 0 (.t 13) (.n 16) 3),
 oo 19 (.asg (.t 20))]) (.cond (.t 19) .skip (.reg [oo 21 (.bin .eql 3 0 (.t 13) (.n 17) 3),
 oo 19 (.asg (.t 21))]))) (.cond (.t 19) (.reg [oo 6 (.asg (.n 2))]) (.seq (.draw [oo 14 (.build 26 [.sl 0 [], .lit (.bool false)] []),
 oo 15 (.load 45 none (.g 4)),
 ov (.store 26 2 (.t 4) (.t 14)),
 oo 5 (.asg (.t 15))] [[], [], [0, 0], [1, 2, 0, 1, 2]]) .ret))))))) (.seq (.seq (.reg [om 22 1,
 oo 23 (.len 34 false (.t 22)),
 om 24 6,
 oo 25 (.bin .neq 3 0 (.t 23) (.t 24) 3)]) (.cond (.t 25) (.seq (.draw [oo 26 (.build 26 [.sl 0 [], .lit (.bool false)] []),
 oo 27 (.load 45 none (.g 7)),
 ov (.store 26 2 (.t 4) (.t 26)),
 oo 5 (.asg (.t 27))] [[], [], [0, 0], [1, 2, 0, 1, 2]]) .ret) .skip)) (.seq (.seq (.reg [om 28 1,
 oo 29 (.len 34 false (.t 28)),
 oo 30 (.mv (.n 0))]) (.block 1 (.loop a4j))) (.seq (.reg [om 42 0,
 om 43 1,
 oc 44 115 [(false, (.t 42)), (false, (.t 43))] [3, 34],
 oo 41 (.mva (.t 44)),
 oo 45 (.ext (.t 41) 0),
 oo 46 (.ext (.t 41) 1),
 oo 10 (.alloc 26 [.own 1 0 [], .lit (.bool false)]),
 ov (.store 26 2 (.t 10) (.t 45)),
 oo 11 (.asg (.t 46))]) (.seq (.seq (.reg [om 47 11,
 oo 48 (.un .not 4 (.t 47))]) (.cond (.t 48) (.seq (.draw [oo 49 (.build 26 [.sl 0 [], .lit (.bool false)] []),
 oo 50 (.load 45 none (.g 7)),
 ov (.store 26 2 (.t 4) (.t 49)),
 oo 5 (.asg (.t 50))] [[], [], [0, 0], [1, 2, 0, 1, 2]]) .ret) .skip)) (.seq (.seq (.reg [oo 51 (.load 26 (some 2) (.t 10)),
 oc 52 58 [(false, (.t 51))] [26],
 oo 12 (.asg (.t 52))]) (.seq (.reg [om 53 12,
 oo 54 (.bin .neq 45 2 (.t 53) (.c .nilIface) 45)]) (.cond (.t 54) (.seq (.reg [oo 55 (.build 26 [.sl 0 [], .lit (.bool false)] []),
 om 56 12,
 ov (.store 26 2 (.t 4) (.t 55)),
 oo 5 (.asg (.t 56))]) .ret) .skip))) (.seq (.reg [oo 57 (.load 26 (some 2) (.t 10)),
 ov (.store 26 2 (.t 4) (.t 57)),
 oo 5 (.asg (.c .nilIface))]) .ret)))))))))
abbrev b5g : Nat := 94
theorem b1y : fnC pg 94 58 [(.cells 4 2), (.tmp 5)] a34 := a09 Go.Proofs.Tryd.f94 [(.cell 4 26), (.tmp 5)] (by kernel_rfl)
@[go_sem] theorem c6q : fnB pg 94 = true := by kernel_rfl
def a4g : IC := (.seq (.reg [oo 43 (.bin .lss 3 0 (.t 42) (.t 41) 3)]) (.seq (.cond (.t 43) .skip (.exit 0)) (.seq (.block 1 (.seq (.reg [oo 44 (.iaddr 34 2 (.t 40) (.t 42)),
 oo 45 (.load 26 (some 2) (.t 44)),
 oo 12 (.alloc 26 [.own 1 0 [], .lit (.bool false)]),
 ov (.store 26 2 (.t 12) (.t 45))]) (.seq (.reg [oo 46 (.load 26 (some 2) (.t 12)),
 oc 47 58 [(false, (.t 46))] [26],
 oo 13 (.asg (.t 47))]) (.seq (.reg [om 48 13,
 oo 49 (.bin .neq 45 2 (.t 48) (.c .nilIface) 45)]) (.cond (.t 49) (.seq (.reg [oo 50 (.build 26 [.sl 0 [], .lit (.bool false)] []),
 om 51 13,
 ov (.store 26 2 (.t 6) (.t 50)),
 oo 7 (.asg (.t 51))]) .ret) .skip))))) (.reg [oo 52 (.bin .add 3 0 (.t 42) (.n 1) 3),
 om 42 52]))))
def a1v : IC := (.seq (.reg [oo 6 (.alloc 26 [.own 1 0 [], .lit (.bool false)]),
 oo 7 (.asg (.c .nilIface))]) (.seq (.reg [om 19 0,
 oc 20 116 [(false, (.t 19))] [3],
 oo 18 (.mva (.t 20)),
 oo 21 (.ext (.t 18) 0),
 oo 22 (.ext (.t 18) 1),
 oo 23 (.ext (.t 18) 2),
 oo 8 (.asg (.t 21)),
 oo 9 (.asg (.t 22)),
 oo 10 (.asg (.t 23))]) (.seq (.seq (.reg [om 24 10,
 oo 25 (.un .not 4 (.t 24))]) (.cond (.t 25) (.seq (.draw [oo 26 (.build 26 [.sl 0 [], .lit (.bool false)] []),
 oo 27 (.load 45 none (.g 4)),
 ov (.store 26 2 (.t 6) (.t 26)),
 oo 7 (.asg (.t 27))] [[], [], [0, 0], [1, 2, 0, 1, 2]]) .ret) .skip)) (.seq (.seq (.reg [om 28 1,
 oo 29 (.len 24 false (.t 28)),
 om 30 9,
 oo 31 (.bin .neq 3 0 (.t 29) (.t 30) 3),
 om 32 31,
 og 33 (.mv (.t 2)) 4 32 false,
 og 34 (.len 34 false (.t 33)) 4 32 false,
 og 35 (.mv (.t 8)) 4 32 false,
 og 36 (.bin .neq 3 0 (.t 34) (.t 35) 3) 4 32 false,
 oo 37 (.pick (.t 32) (.c (.bool true)) (.t 36))]) (.cond (.t 37) (.seq (.draw [oo 38 (.build 26 [.sl 0 [], .lit (.bool false)] []),
 oo 39 (.load 45 none (.g 7)),
 ov (.store 26 2 (.t 6) (.t 38)),
 oo 7 (.asg (.t 39))] [[], [], [0, 0], [1, 2, 0, 1, 2]]) .ret) .skip)) (.seq (.seq (.reg [om 40 2,
 oo 41 (.len 34 false (.t 40)),
 oo 42 (.mv (.n 0))]) (.block 0 (.loop a4g))) (.seq (.reg [om 53 2,
 oo 54 (.iaddr 34 2 (.t 53) (.n 0)),
 oo 55 (.load 26 (some 2) (.t 54)),
 oo 14 (.alloc 26 [.own 1 0 [], .lit (.bool false)]),
 ov (.store 26 2 (.t 14) (.t 55))]) (.seq (.seq (.draw [om 56 8,
 oo 57 (.bin .eql 3 0 (.t 56) (.n 2) 3),
 om 58 57,
 og 59 (.load 26 (some 2) (.t 14)) 2 58 true,
 og 60 (.mv (.t 2)) 2 58 true,
 og 61 (.iaddr 34 2 (.t 60) (.n 1)) 2 58 true,
 og 62 (.load 26 (some 2) (.t 61)) 2 58 true,
 ⟨(some 63), .call 85 [(false, (.t 59)), (false, (.t 62))] [26, 26], (some (2, 58, true))⟩,
 og 64 (.un .not 4 (.t 63)) 2 58 true,
 oo 65 (.pick (.t 58) (.t 64) (.c (.bool false))),
 om 66 65,
 og 67 (.mv (.t 0)) 10 66 false,
 og 68 (.bin .eql 3 0 (.t 67) (.n 10) 3) 10 66 false,
 og 69 (.mv (.t 68)) 10 66 false,
 og 70 (.faddr 26 1 (.t 14) 1) 13 69 true,
 og 71 (.load 4 none (.t 70)) 13 69 true,
 og 72 (.un .not 4 (.t 71)) 13 69 true,
 og 73 (.pick (.t 69) (.t 72) (.c (.bool false))) 10 66 false,
 oo 74 (.pick (.t 66) (.c (.bool true)) (.t 73)),
 om 75 74,
 og 76 (.mv (.t 0)) 19 75 false,
 og 77 (.bin .eql 3 0 (.t 76) (.n 11) 3) 19 75 false,
 og 78 (.mv (.t 77)) 19 75 false,
 og 79 (.faddr 26 1 (.t 14) 1) 22 78 true,
 og 80 (.load 4 none (.t 79)) 22 78 true,
 og 81 (.pick (.t 78) (.t 80) (.c (.bool false))) 19 75 false,
 oo 82 (.pick (.t 75) (.c (.bool true)) (.t 81))] [[], [0], [1], [2], [2], [4, 2], [5, 2], [3, 6, 2, 2], [7, 2], [2, 8], [9, 7], [10], [11, 10], [12, 10, 10], [13], [14, 13], [15, 13], [13, 16, 10], [10, 17], [18, 13], [19], [20, 19], [21, 19, 19], [22], [23, 22], [22, 24, 19], [19, 25]]) (.cond (.t 82) (.seq (.draw [oo 83 (.build 26 [.sl 0 [], .lit (.bool false)] []),
 oo 84 (.load 45 none (.g 7)),
 ov (.store 26 2 (.t 6) (.t 83)),
 oo 7 (.asg (.t 84))] [[], [], [0, 0], [1, 2, 0, 1, 2]]) .ret) .skip)) (.seq (.draw [oo 85 (.faddr 26 1 (.t 14) 1),
 oo 86 (.load 4 none (.t 85)),
 oo 15 (.asg (.c (.bool true))),
 oo 16 (.asg (.t 86))] [[], [0], [], [1, 2, 0, 1, 2]]) (.seq (.seq (.reg [om 87 0]) (.block 2 (.seq (.reg [oo 89 (.bin .eql 3 0 (.t 87) (.n 9) 3),
 oo 88 (.asg (.t 89))]) (.cond (.t 88) (.draw [om 90 1,
 oo 91 (.iaddr 24 1 (.t 90) (.n 0)),
 oo 92 (.load 3 none (.t 91)),
 om 93 1,
 oo 94 (.iaddr 24 1 (.t 93) (.n 1)),
 oo 95 (.load 3 none (.t 94)),
 oo 96 (.bin .leq 3 0 (.t 92) (.t 95) 3),
 om 97 96,
 og 98 (.mv (.t 1)) 7 97 true,
 og 99 (.iaddr 24 1 (.t 98) (.n 0)) 7 97 true,
 og 100 (.load 3 none (.t 99)) 7 97 true,
 og 101 (.faddr 26 1 (.t 14) 1) 7 97 true,
 og 102 (.load 4 none (.t 101)) 7 97 true,
 ⟨(some 103), .call 117 [(false, (.t 100)), (false, (.t 102))] [3, 4], (some (7, 97, true))⟩,
 oo 104 (.pick (.t 97) (.t 103) (.c (.bool false))),
 om 105 104,
 og 106 (.mv (.t 1)) 15 105 true,
 og 107 (.iaddr 24 1 (.t 106) (.n 1)) 15 105 true,
 og 108 (.load 3 none (.t 107)) 15 105 true,
 og 109 (.faddr 26 1 (.t 14) 1) 15 105 true,
 og 110 (.load 4 none (.t 109)) 15 105 true,
 ⟨(some 111), .call 117 [(false, (.t 108)), (false, (.t 110))] [3, 4], (some (15, 105, true))⟩,
 oo 112 (.pick (.t 105) (.t 111) (.c (.bool false))),
 oo 15 (.asg (.t 112))] [[], [0], [1], [], [3], [4], [2, 5], [6], [7], [8, 7], [9, 7], [7], [11, 7], [10, 12, 7, 7], [7, 13], [14, 13], [15], [16, 15], [17, 15], [15], [19, 15], [18, 20, 15, 15], [15, 21], [22, 21, 0, 1, 2, 3, 4, 5, 6, 7, 8, 9, 10, 11, 12, 13, 14, 15, 16, 17, 18, 19, 20, 21, 22]]) (.seq (.reg [oo 114 (.bin .eql 3 0 (.t 87) (.n 10) 3),
 oo 113 (.asg (.t 114))]) (.cond (.t 113) (.reg [om 115 1,
 oo 116 (.iaddr 24 1 (.t 115) (.n 0)),
 oo 117 (.load 3 none (.t 116)),
 oc 118 118 [(false, (.t 117)), (false, (.n 0)), (false, (.n 2147483647))] [3, 3, 3],
 om 119 118,
 og 120 (.mv (.t 1)) 4 119 true,
 og 121 (.iaddr 24 1 (.t 120) (.n 1)) 4 119 true,
 og 122 (.load 3 none (.t 121)) 4 119 true,
 ⟨(some 123), .call 118 [(false, (.t 122)), (false, (.n 0)), (false, (.n 62))] [3, 3, 3], (some (4, 119, true))⟩,
 oo 124 (.pick (.t 119) (.t 123) (.c (.bool false))),
 om 125 124,
 og 126 (.mv (.t 1)) 10 125 true,
 og 127 (.iaddr 24 1 (.t 126) (.n 2)) 10 125 true,
 og 128 (.load 3 none (.t 127)) 10 125 true,
 ⟨(some 129), .call 117 [(false, (.t 128)), (false, (.c (.bool false)))] [3, 4], (some (10, 125, true))⟩,
 oo 130 (.pick (.t 125) (.t 129) (.c (.bool false))),
 oo 15 (.asg (.t 130)),
 oo 16 (.asg (.c (.bool false)))]) (.seq (.reg [oo 132 (.bin .eql 3 0 (.t 87) (.n 11) 3),
 oo 131 (.asg (.t 132))]) (.cond (.t 131) (.reg [om 133 1,
 oo 134 (.iaddr 24 1 (.t 133) (.n 0)),
 oo 135 (.load 3 none (.t 134)),
 oc 136 117 [(false, (.t 135)), (false, (.c (.bool false)))] [3, 4],
 oo 15 (.asg (.t 136)),
 oo 16 (.asg (.c (.bool true)))]) .skip)))))))) (.seq (.seq (.reg [om 137 15,
 oo 138 (.un .not 4 (.t 137))]) (.cond (.t 138) (.seq (.draw [oo 139 (.build 26 [.sl 0 [], .lit (.bool false)] []),
 oo 140 (.load 45 none (.g 3)),
 ov (.store 26 2 (.t 6) (.t 139)),
 oo 7 (.asg (.t 140))] [[], [], [0, 0], [1, 2, 0, 1, 2]]) .ret) .skip)) (.seq (.reg [oo 141 (.load 26 (some 2) (.t 14)),
 oc 142 71 [(false, (.t 141))] [26],
 oo 17 (.alloc 26 [.own 1 0 [], .lit (.bool false)]),
 ov (.store 26 2 (.t 17) (.t 142))]) (.seq (.reg [om 143 16,
 oo 144 (.faddr 26 1 (.t 17) 1),
 ov (.store 4 1 (.t 144) (.t 143))]) (.seq (.reg [oo 145 (.load 26 (some 2) (.t 17)),
 ov (.store 26 2 (.t 6) (.t 145)),
 oo 7 (.asg (.c .nilIface))]) .ret)))))))))))))
abbrev a1q : Nat := 97
theorem a1f : fnC pg 97 146 [(.cells 6 2), (.tmp 7)] a1v := a09 Go.Proofs.Tryd.f97 [(.cell 6 26), (.tmp 7)] (by kernel_rfl)
@[go_sem] theorem c4v : fnB pg 97 = true := by kernel_rfl
def b1c : IC := (.seq (.reg [oo 2 (.asg (.c (.bool false)))]) (.seq (.reg [om 3 0,
 oc 4 114 [(false, (.t 3))] [3],
 om 5 0,
 oo 6 (.bin .eql 3 0 (.t 4) (.t 5) 3),
 oo 2 (.asg (.t 6))]) .ret))
abbrev b6z : Nat := 113
theorem b2w : fnC pg 113 7 [(.tmp 2)] b1c := a09 Go.Proofs.Tryd.f113 [(.tmp 2)] (by kernel_rfl)
@[go_sem] theorem c7h : fnB pg 113 = true := by kernel_rfl
def b0c : IC := (.seq (.reg [oo 2 (.asg (.n 0))]) (.seq (.reg [om 3 0,
 oo 4 (.mm false [3, 3] [(.t 3), (.n 127)]),
 oo 5 (.mm true [3, 3] [(.n (-128)), (.t 4)]),
 oo 2 (.asg (.t 5))]) .ret))
abbrev b5h : Nat := 114
theorem b1z : fnC pg 114 6 [(.tmp 2)] b0c := a09 Go.Proofs.Tryd.f114 [(.tmp 2)] (by kernel_rfl)
@[go_sem] theorem c6x : fnB pg 114 = true := by kernel_rfl
def a2f : IC := (.seq (.reg [oo 4 (.alloc 26 [.own 1 0 [], .lit (.bool false)]),
 oo 5 (.asg (.c (.bool false)))]) (.seq (.reg [om 9 1,
 oo 10 (.iaddr 34 2 (.t 9) (.n 0)),
 oo 11 (.load 26 (some 2) (.t 10)),
 oo 6 (.alloc 26 [.own 1 0 [], .lit (.bool false)]),
 ov (.store 26 2 (.t 6) (.t 11))]) (.seq (.reg [oo 12 (.faddr 26 0 (.t 6) 0),
 oo 13 (.load 24 none (.t 12)),
 oo 14 (.len 24 false (.t 13)),
 oo 7 (.asg (.t 14))]) (.seq (.seq (.reg [om 15 0]) (.block 0 (.seq (.reg [oo 17 (.bin .eql 3 0 (.t 15) (.n 16) 3),
 oo 16 (.asg (.t 17))]) (.cond (.t 16) (.seq (.reg [oo 18 (.load 26 (some 2) (.t 6)),
 oc 19 71 [(false, (.t 18))] [26],
 om 20 7,
 oo 21 (.bin .gtr 3 0 (.t 20) (.n 0) 3),
 om 22 21,
 og 23 (.faddr 26 1 (.t 6) 1) 4 22 true,
 og 24 (.load 4 none (.t 23)) 4 22 true,
 og 25 (.un .not 4 (.t 24)) 4 22 true,
 oo 26 (.pick (.t 22) (.t 25) (.c (.bool false))),
 om 27 26,
 og 28 (.mv (.t 1)) 9 27 true,
 og 29 (.iaddr 34 2 (.t 28) (.n 1)) 9 27 true,
 og 30 (.load 26 (some 2) (.t 29)) 9 27 true,
 og 31 (.bslice 24 3 1 1 [.lit (.int .i64 0)] [(0, (.n 256))]) 9 27 true,
 og 32 (.build 26 [.own 1 0 [], .lit (.bool false)] [(0, 0, 1, (.t 31)), (1, 1, 1, (.c (.bool true)))]) 9 27 true,
 ⟨(some 33), .call 85 [(false, (.t 30)), (false, (.t 32))] [26, 26], (some (9, 27, true))⟩,
 oo 34 (.pick (.t 27) (.t 33) (.c (.bool false))),
 ov (.store 26 2 (.t 4) (.t 19)),
 oo 5 (.asg (.t 34))]) .ret) (.seq (.reg [oo 36 (.bin .eql 3 0 (.t 15) (.n 17) 3),
 oo 35 (.asg (.t 36))]) (.cond (.t 35) (.seq (.reg [om 37 1,
 oo 38 (.iaddr 34 2 (.t 37) (.n 1)),
 oo 39 (.load 26 (some 2) (.t 38)),
 oo 8 (.alloc 26 [.own 1 0 [], .lit (.bool false)]),
 ov (.store 26 2 (.t 8) (.t 39))]) (.seq (.seq (.reg [om 40 7,
 oo 41 (.bin .neq 3 0 (.t 40) (.n 2) 3),
 om 42 41,
 og 43 (.faddr 26 0 (.t 8) 0) 2 42 false,
 og 44 (.load 24 none (.t 43)) 2 42 false,
 og 45 (.len 24 false (.t 44)) 2 42 false,
 og 46 (.bin .neq 3 0 (.t 45) (.n 1) 3) 2 42 false,
 oo 47 (.pick (.t 42) (.c (.bool true)) (.t 46)),
 om 48 47,
 og 49 (.faddr 26 1 (.t 8) 1) 8 48 false,
 og 50 (.load 4 none (.t 49)) 8 48 false,
 og 51 (.un .not 4 (.t 50)) 8 48 false,
 oo 52 (.pick (.t 48) (.c (.bool true)) (.t 51))]) (.cond (.t 52) (.seq (.reg [oo 53 (.build 26 [.sl 0 [], .lit (.bool false)] []),
 ov (.store 26 2 (.t 4) (.t 53)),
 oo 5 (.asg (.c (.bool false)))]) .ret) .skip)) (.seq (.draw [oo 54 (.faddr 26 0 (.t 8) 0),
 oo 55 (.load 24 none (.t 54)),
 oo 56 (.iaddr 24 1 (.t 55) (.n 0)),
 oo 57 (.load 3 none (.t 56)),
 oo 58 (.faddr 26 0 (.t 6) 0),
 oo 59 (.load 24 none (.t 58)),
 oo 60 (.iaddr 24 1 (.t 59) (.n 1)),
 oo 61 (.load 3 none (.t 60)),
 oo 62 (.bslice 24 3 1 2 [.lit (.int .i64 0)] [(0, (.t 57)), (1, (.t 61))]),
 oo 63 (.faddr 26 1 (.t 6) 1),
 oo 64 (.load 4 none (.t 63)),
 oo 65 (.build 26 [.own 1 0 [], .lit (.bool false)] [(0, 0, 1, (.t 62)), (1, 1, 1, (.t 64))]),
 ov (.store 26 2 (.t 4) (.t 65)),
 oo 5 (.asg (.c (.bool true)))] [[], [0], [1], [2], [], [4], [5], [6], [3, 7], [], [9], [8, 10], [11, 0, 1, 2, 3, 4, 5, 6, 7, 8, 9, 10, 11], [12, 0, 1, 2, 3, 4, 5, 6, 7, 8, 9, 10, 11, 12]]) .ret))) .skip)))))) (.seq (.seq (.reg [om 66 7,
 oo 67 (.bin .eql 3 0 (.t 66) (.n 0) 3)]) (.cond (.t 67) (.seq (.reg [oo 68 (.build 26 [.sl 0 [], .lit (.bool false)] []),
 ov (.store 26 2 (.t 4) (.t 68)),
 oo 5 (.asg (.c (.bool false)))]) .ret) .skip)) (.seq (.reg [oo 69 (.faddr 26 0 (.t 6) 0),
 oo 70 (.load 24 none (.t 69)),
 om 71 7,
 oo 72 (.bin .sub 3 0 (.t 71) (.n 1) 3),
 oo 73 (.slice 24 1 (.t 70) none (some (.t 72)) none),
 oc 74 99 [(false, (.t 73))] [24],
 oo 75 (.build 26 [.own 1 0 [], .lit (.bool false)] [(0, 0, 1, (.t 74)), (1, 1, 1, (.c (.bool true)))]),
 ov (.store 26 2 (.t 4) (.t 75)),
 oo 5 (.asg (.c (.bool true)))]) .ret))))))
abbrev a5r : Nat := 115
theorem a11 : fnC pg 115 76 [(.cells 4 2), (.tmp 5)] a2f := a09 Go.Proofs.Tryd.f115 [(.cell 4 26), (.tmp 5)] (by kernel_rfl)
@[go_sem] theorem c7o : fnB pg 115 = true := by kernel_rfl
def a9q : IC := (.seq (.reg [oo 2 (.asg (.n 0)),
 oo 3 (.asg (.n 0)),
 oo 4 (.asg (.c (.bool false)))]) (.seq (.seq (.reg [om 5 0]) (.block 0 (.seq (.seq (.reg [oo 7 (.bin .eql 3 0 (.t 5) (.n 4) 3),
 oo 6 (.asg (.t 7))]) (.cond (.t 6) .skip (.seq (.reg [oo 8 (.bin .eql 3 0 (.t 5) (.n 5) 3),
 oo 6 (.asg (.t 8))]) (.cond (.t 6) .skip (.seq (.reg [oo 9 (.bin .eql 3 0 (.t 5) (.n 6) 3),
 oo 6 (.asg (.t 9))]) (.cond (.t 6) .skip (.reg [oo 10 (.bin .eql 3 0 (.t 5) (.n 7) 3),
 oo 6 (.asg (.t 10))]))))))) (.cond (.t 6) (.seq (.reg [oo 2 (.asg (.n 2)),
 oo 3 (.asg (.n 0)),
 oo 4 (.asg (.c (.bool true)))]) .ret) (.seq (.reg [oo 12 (.bin .eql 3 0 (.t 5) (.n 8) 3),
 oo 11 (.asg (.t 12))]) (.cond (.t 11) (.seq (.reg [oo 2 (.asg (.n 1)),
 oo 3 (.asg (.n 0)),
 oo 4 (.asg (.c (.bool true)))]) .ret) (.seq (.reg [oo 14 (.bin .eql 3 0 (.t 5) (.n 9) 3),
 oo 13 (.asg (.t 14))]) (.cond (.t 13) (.seq (.reg [oo 2 (.asg (.n 1)),
 oo 3 (.asg (.n 2)),
 oo 4 (.asg (.c (.bool true)))]) .ret) (.seq (.reg [oo 16 (.bin .eql 3 0 (.t 5) (.n 10) 3),
 oo 15 (.asg (.t 16))]) (.cond (.t 15) (.seq (.reg [oo 2 (.asg (.n 1)),
 oo 3 (.asg (.n 3)),
 oo 4 (.asg (.c (.bool true)))]) .ret) (.seq (.reg [oo 18 (.bin .eql 3 0 (.t 5) (.n 11) 3),
 oo 17 (.asg (.t 18))]) (.cond (.t 17) (.seq (.reg [oo 2 (.asg (.n 1)),
 oo 3 (.asg (.n 1)),
 oo 4 (.asg (.c (.bool true)))]) .ret) .skip)))))))))))) (.seq (.reg [oo 2 (.asg (.n 0)),
 oo 3 (.asg (.n 0)),
 oo 4 (.asg (.c (.bool false)))]) .ret)))
abbrev b5a : Nat := 116
theorem b1r : fnC pg 116 19 [(.tmp 2), (.tmp 3), (.tmp 4)] a9q := a09 Go.Proofs.Tryd.f116 [(.tmp 2), (.tmp 3), (.tmp 4)] (by kernel_rfl)
@[go_sem] theorem c4w : fnB pg 116 = true := by kernel_rfl
def b2f : IC := (.seq (.reg [oo 4 (.asg (.c (.bool false)))]) (.seq (.seq (.reg [om 5 1]) (.cond (.t 5) (.seq (.reg [om 6 0,
 oc 7 118 [(false, (.t 6)), (false, (.n (-2147483648))), (false, (.n 2147483647))] [3, 3, 3],
 oo 4 (.asg (.t 7))]) .ret) .skip)) (.seq (.reg [om 8 0,
 oc 9 118 [(false, (.t 8)), (false, (.n (-128))), (false, (.n 127))] [3, 3, 3],
 oo 4 (.asg (.t 9))]) .ret)))
abbrev c34 : Nat := 117
theorem b7p : fnC pg 117 10 [(.tmp 4)] b2f := a09 Go.Proofs.Tryd.f117 [(.tmp 4)] (by kernel_rfl)
@[go_sem] theorem d1x : fnB pg 117 = true := by kernel_rfl
def b7n : IC := (.seq (.reg [oo 6 (.asg (.c (.bool false)))]) (.seq (.reg [om 7 0,
 om 8 1,
 oo 9 (.bin .geq 3 0 (.t 7) (.t 8) 3),
 om 10 9,
 og 11 (.mv (.t 0)) 3 10 true,
 og 12 (.mv (.t 2)) 3 10 true,
 og 13 (.bin .leq 3 0 (.t 11) (.t 12) 3) 3 10 true,
 oo 14 (.pick (.t 10) (.t 13) (.c (.bool false))),
 oo 6 (.asg (.t 14))]) .ret))
abbrev c33 : Nat := 118
theorem b7o : fnC pg 118 15 [(.tmp 6)] b7n := a09 Go.Proofs.Tryd.f118 [(.tmp 6)] (by kernel_rfl)
@[go_sem] theorem d1w : fnB pg 118 = true := by kernel_rfl
end Go.Ideal.Tryd
end
section
namespace Go.Ideal.Tryd
section
variable {G : GG} {bk : Nat -> Nat × Nat} {Q : Exit -> St -> Prop} {st : St}
theorem b8b (n : Int) : ACalls pg G b5h [li n] (li (max (min n 127) (-128))) := by
 refine b1z rfl ?_
 simp (disch := omega) [go_sem, b0c]
 split <;> split <;> omega
theorem b8a (n : Int) : ACalls pg G b6z [li n] (lb (a2p n)) := by
 refine b2w rfl ?_
 have h : (decide (max (min n 127) (-128) = n)) = a2p n := by
  rw [a2p, <- Bool.decide_and]; exact decide_eq_decide.2 (by omega)
 simp (disch := omega) [go_sem, b1c]
 refine a0j (b8b n) rfl rfl ?_
 simp (disch := omega) [go_sem, h]
theorem c80 (n a b : Int) : ACalls pg G c33 [li n, li a, li b] (lb (decide (a <= n) && decide (n <= b))) := by
 refine b7o rfl ?_
 by_cases h : a <= n <;> simp (disch := omega) [go_sem, b7n, h]
theorem c9e (n : Int) (w : Bool) : ACalls pg G c34 [li n, lb w] (lb (b6p n w)) := by
 refine b7p rfl ?_
 cases w
 ·simp (disch := omega) [go_sem, b2f]
  refine a0j (c80 n (-128) 127) rfl rfl ?_
  simp (disch := omega) [go_sem, b6p, a2p]
 ·simp (disch := omega) [go_sem, b2f]
  refine a0j (c80 n (-2147483648) 2147483647) rfl rfl ?_
  simp (disch := omega) [go_sem, b6p]
theorem c0k (n : Int) : ACalls pg G c2n [li n] (lb (a2q n)) := by
 refine b56 rfl ?_
 by_cases h : 4 <= n <;> simp (disch := omega) [go_sem, b4x, h, a2q]
theorem a4m (n : Int) (h : 4 <= n /\ n <= 11) : ACalls pg G b5a [li n] (.tup [li (a2v n), li (a17 n), lb true]) := by
 refine b1r rfl ?_
 obtain ⟨h1, h2⟩ := h
 obtain rfl | rfl | rfl | rfl | rfl | rfl | rfl | rfl : n = 4 \/ n = 5 \/ n = 6 \/ n = 7 \/ n = 8 \/ n = 9 \/ n = 10 \/ n = 11 := by omega
 all_goals simp (disch := omega) [go_sem, a9q, a2v, a17, a2q]
theorem f15 (n : Int) : ACalls pg G c7r [li n] (li (a2v n)) := by
 refine c0v rfl ?_
 by_cases h : n = 4 \/ n = 5 \/ n = 6 \/ n = 7 \/ n = 12 \/ n = 13 \/ n = 16 \/ n = 17
 ·rcases h with rfl | rfl | rfl | rfl | rfl | rfl | rfl | rfl <;> simp (disch := omega) [go_sem, b55, a2v]
 ·have h' := h
  simp only [not_or] at h'
  obtain ⟨a, b, c, d, e, f, g, i⟩ := h'
  simp (disch := omega) [go_sem, b55, a, b, c, d, e, f, g, i]
  refine a0j (c0k n) rfl rfl ?_
  cases k : a2q n <;> simp (disch := omega) [go_sem, a2v, a, b, c, d, e, f, g, i, k]
theorem d7t (n : Int) : ACalls pg G c36 [li n] (li (a17 n)) := by
 refine b8h rfl ?_
 by_cases h : n = 9 \/ n = 12 \/ n = 14 \/ n = 15 \/ n = 10 \/ n = 13 \/ n = 11
 ·rcases h with rfl | rfl | rfl | rfl | rfl | rfl | rfl <;> simp (disch := omega) [go_sem, b22, a17]
 ·simp only [not_or] at h
  obtain ⟨a, b, c, d, e, f, g⟩ := h
  simp (disch := omega) [go_sem, b22, a17, a, b, c, d, e, f, g]
end
end Go.Ideal.Tryd
end
section
namespace Go.Ideal.Tryd
attribute [local go_sem] eD eT eV
section
variable {G : GG} {bk : Nat -> Nat × Nat} {Q : Exit -> St -> Prop} {st : St}
abbrev b35 (bk : Nat -> Nat × Nat) (r : Dr) : AV := .tup [.agg (eD r.1), a0v bk r.2]
abbrev zD : AV := .var [.own 1 0 [], lb false]
theorem a3d {e : Er} (h : ¬ e = .nil) : e.isNil = false := by cases e <;> simp_all [Er.isNil]
theorem c3z {α : Type} : ∀ {l : List α}, l.length = 1 -> ∃ x, l = [x]
 | [x], _ => ⟨x, rfl⟩
theorem b9c {α : Type} : ∀ {l : List α}, l.length = 2 -> ∃ x y, l = [x, y]
 | [x, y], _ => ⟨x, y, rfl⟩
theorem e65 {α : Type} : ∀ {l : List α}, l.length = 3 -> ∃ x y z, l = [x, y, z]
 | [x, y, z], _ => ⟨x, y, z, rfl⟩
theorem g0c {α : Type} : ∀ {l : List α}, l.length = 4 -> ∃ x y z u, l = [x, y, z, u]
 | [x, y, z, u], _ => ⟨x, y, z, u, rfl⟩
theorem e1b (hS : Sent3 G bk) {za zb : Int} {a b : Ds} (ha : a.shape.length < 2 ^ 62) (hb : b.shape.length < 2 ^ 62)
  (h : st.s 0 = li za /\ st.s 1 = li zb /\ st.s 6 = .var (eD a) /\ st.s 7 = .var (eD b) /\ st.s 8 = zD /\ st.s 9 = .lit .nilIface /\ st.s 17 = .own 2 2 (eD a ++ eD b) /\ st.s 18 = li 2 /\ st.s 19 = li 0)
  (hbad : ∀ e : Er, e ≠ .nil -> c7f za zb a b = (dn, e) -> ∀ s, s.s 8 = .var [.sl 0 [], lb false] /\ s.s 9 = a0v bk e -> Q .ret s)
  (hex : a08 a.shape = .nil -> a08 b.shape = .nil -> ∀ s, s.s 0 = li za /\ s.s 1 = li zb /\ s.s 6 = .var (eD a) /\ s.s 7 = .var (eD b) /\ s.s 8 = zD /\ s.s 9 = .lit .nilIface -> Q (.exit 0) s) : AW pg G 88 (.loop a30) Q st := by
 refine a06 Nat (fun i st => i <= 2 /\ (1 <= i -> a08 a.shape = .nil) /\ (2 <= i -> a08 b.shape = .nil) /\ st.s 0 = li za /\ st.s 1 = li zb /\ st.s 6 = .var (eD a) /\ st.s 7 = .var (eD b) /\ st.s 8 = zD /\ st.s 9 = .lit .nilIface /\ st.s 17 = .own 2 2 (eD a ++ eD b) /\ st.s 18 = li 2 /\ st.s 19 = li i) (fun i => 2 - i) 0 ⟨by omega, by omega, by omega, h⟩ ?_
 clear h
 rintro i st K ⟨hi, h1, h2, h⟩ hK
 obtain rfl | rfl | rfl : i = 0 \/ i = 1 \/ i = 2 := by omega
 ·simp (disch := omega) [go_sem, a30, h]
  refine a0m (a03 hS a.shape a.wide ha) (a0t _) (by simp (disch := omega) [go_sem, h]) ?_
  by_cases he : a08 a.shape = .nil
  ·simp (disch := omega) [go_sem, h, he, Er.isNil]
   refine hK 1 _ ⟨by omega, fun _ => he, by omega, by simp (disch := omega) [go_sem, h]⟩ (by omega)
  ·have he' := a3d he
   simp (disch := omega) [go_sem, h, he']
   exact hbad _ he (by simp only [c7f, chk, he']; rfl) _ (by simp (disch := omega) [go_sem, h])
 ·simp (disch := omega) [go_sem, a30, h]
  have ea := h1 (by omega)
  refine a0m (a03 hS b.shape b.wide hb) (a0t _) (by simp (disch := omega) [go_sem, h]) ?_
  by_cases he : a08 b.shape = .nil
  ·simp (disch := omega) [go_sem, h, he, Er.isNil]
   refine hK 2 _ ⟨by omega, fun _ => ea, fun _ => he, by simp (disch := omega) [go_sem, h]⟩ (by omega)
  ·have he' := a3d he
   simp (disch := omega) [go_sem, h, he']
   exact hbad _ he (by simp only [c7f, chk, he', ea, Er.isNil]; rfl) _ (by simp (disch := omega) [go_sem, h])
 ·simp (disch := omega) [go_sem, a30, h]
  exact hex (h1 (by omega)) (h2 (by omega)) _ (by simp (disch := omega) [go_sem, h])
theorem e1a (hS : SentO G bk) (za zb : Int) (a b : Ds) (ha : a.shape.length < 2 ^ 62) (hb : b.shape.length < 2 ^ 62) : ACalls pg G b6y [li za, li zb, .agg (eD a), .agg (eD b)] (b35 bk (c7f za zb a b)) := by
 have h7 := hS.val 7 (by decide)
 have h3 := hS.val 3 (by decide)
 refine b2v rfl ?_
 simp (disch := omega) [go_sem, b1b, a7g, a0g]
 refine e1b hS.three (za := za) (zb := zb) (a := a) (b := b) ha hb (by simp (disch := omega) [go_sem]) (fun e he hm s h => ?_) (fun ea eb s h => ?_)
 ·rw [hm]
  simp (disch := omega) [go_sem, h, dn]
 have hbd : ¬ (a.shape.length = 2 /\ b.shape.length = 2 /\ a.shape[1]! = b.shape[0]! /\ a.wide = false /\ b.wide = false) -> c7f za zb a b = (dn, .s 6) := fun k => by
  simp only [c7f, chk, ea, eb, Er.isNil, if_true, k, if_false]; rfl
 by_cases c1 : a.shape.length = 2
 ·obtain ⟨ash, aw⟩ := a
  obtain ⟨x, y, rfl⟩ := b9c c1
  by_cases c2 : b.shape.length = 2
  ·obtain ⟨bsh, bw⟩ := b
   obtain ⟨u, v, rfl⟩ := b9c c2
   by_cases c3 : y = u
   ·cases aw
    ·cases bw
     ·have hgd : c7f za zb ⟨[x, y], false⟩ ⟨[u, v], false⟩ = if (a2p za && a2p zb) = true then b3j [x, v] true else bad 3 := by
       simp only [c7f, chk, ea, eb, Er.isNil, if_true]; simp [c3]
      rw [hgd]
      clear hgd
      simp (disch := omega) [go_sem, h]
      refine a0b ?_
      simp (disch := omega) [go_sem, h, c3]
      refine a0d (by decide) fun s2 hs2 hes2 => ?_
      simp (disch := omega) [go_sem, hs2, h, c3]
      refine a0j (b8a za) rfl rfl ?_
      cases ha : a2p za
      ·simp (disch := omega) [go_sem, hs2, h]
       refine a0b ?_
       simp (disch := omega) [go_sem, hs2, h, h3]
       refine a0d (by decide) fun s3 hs3 hes3 => ?_
       simp (disch := omega) [go_sem, hs3, hs2, h, h3, bad, dn, a0v]
      simp (disch := omega) [go_sem, hs2, h]
      refine a0j (b8a zb) rfl rfl ?_
      cases hb : a2p zb
      ·simp (disch := omega) [go_sem, hs2, h]
       refine a0b ?_
       simp (disch := omega) [go_sem, hs2, h, h3]
       refine a0d (by decide) fun s3 hs3 hes3 => ?_
       simp (disch := omega) [go_sem, hs3, hs2, h, h3, bad, dn, a0v]
      simp (disch := omega) [go_sem, hs2, h]
      refine a0b ?_
      simp (disch := omega) [go_sem, hs2, h, a7g, a0g]
      refine a0d (by decide) fun s3 hs3 hes3 => ?_
      simp (disch := omega) [go_sem, hs3, hs2, h, a7g, a0g]
      refine a0m (a03 hS.three [x, v] true (by simp)) (a0t _) (by simp (disch := omega) [go_sem, hs3, hs2, h]) ?_
      by_cases he : a08 [x, v] = .nil
      ·simp (disch := omega) [go_sem, hs3, hs2, h, he, Er.isNil, b3j, chk, a0v]
      ·have he' := a3d he
       simp (disch := omega) [go_sem, hs3, hs2, h, he', b3j, chk, dn]
     ·
      rw [hbd (by simp)]
      simp (disch := omega) [go_sem, h]
      refine a0b ?_
      simp (disch := omega) [go_sem, h, c3]
      refine a0d (by decide) fun s2 hs2 hes2 => ?_
      simp (disch := omega) [go_sem, hs2, h, c3]
      refine a0b ?_
      simp (disch := omega) [go_sem, hs2, h, c3, h7]
      refine a0d (by decide) fun s3 hs3 hes3 => ?_
      simp (disch := omega) [go_sem, hs3, hs2, h, c3, h7, dn, a0v]
    ·
     rw [hbd (by simp)]
     simp (disch := omega) [go_sem, h]
     refine a0b ?_
     simp (disch := omega) [go_sem, h, c3]
     refine a0d (by decide) fun s2 hs2 hes2 => ?_
     simp (disch := omega) [go_sem, hs2, h, c3]
     refine a0b ?_
     simp (disch := omega) [go_sem, hs2, h, c3, h7]
     refine a0d (by decide) fun s3 hs3 hes3 => ?_
     simp (disch := omega) [go_sem, hs3, hs2, h, c3, h7, dn, a0v]
   ·
    rw [hbd (by simp [c3])]
    simp (disch := omega) [go_sem, h]
    refine a0b ?_
    simp (disch := omega) [go_sem, h, c3]
    refine a0d (by decide) fun s2 hs2 hes2 => ?_
    simp (disch := omega) [go_sem, hs2, h, c3]
    refine a0b ?_
    simp (disch := omega) [go_sem, hs2, h, c3, h7]
    refine a0d (by decide) fun s3 hs3 hes3 => ?_
    simp (disch := omega) [go_sem, hs3, hs2, h, c3, h7, dn, a0v]
  ·have c2' : ¬ (b.shape.length : Int) = 2 := by omega
   rw [hbd (fun k => c2 k.2.1)]
   simp (disch := omega) [go_sem, h]
   refine a0b ?_
   simp (disch := omega) [go_sem, h, c2']
   refine a0d (by decide) fun s2 hs2 hes2 => ?_
   simp (disch := omega) [go_sem, hs2, h, c2']
   refine a0b ?_
   simp (disch := omega) [go_sem, hs2, h, c2', h7]
   refine a0d (by decide) fun s3 hs3 hes3 => ?_
   simp (disch := omega) [go_sem, hs3, hs2, h, c2', h7, dn, a0v]
 ·have c1' : ¬ (a.shape.length : Int) = 2 := by omega
  rw [hbd (fun k => c1 k.1)]
  simp (disch := omega) [go_sem, h]
  refine a0b ?_
  simp (disch := omega) [go_sem, h, c1']
  refine a0d (by decide) fun s2 hs2 hes2 => ?_
  simp (disch := omega) [go_sem, hs2, h, c1']
  refine a0b ?_
  simp (disch := omega) [go_sem, hs2, h, c1', h7]
  refine a0d (by decide) fun s3 hs3 hes3 => ?_
  simp (disch := omega) [go_sem, hs3, hs2, h, c1', h7, dn, a0v]
end
end Go.Ideal.Tryd
end
section
namespace Go.Ideal
section
variable {G : GG} {N d : Nat} {st : St}
@[go_sem] theorem d9i {T : TypeId} : evS G N (some d) (.mkmap T) st = some (st.thru N d (.mp [] [])) := (rfl)
def d5q (v : AV) : Option Int := match v with
 | .lit (.int .i64 n) => some n
 | _ => none
@[go_sem] theorem e6w {n : Int} : d5q (.lit (.int .i64 n)) = some n := (rfl)
theorem c2c (x : X) : (d2g x).run st = (d5q (rdv st x)).map fun n => (n, st) := by
 simp only [d2g, Ev.run_bind, a48, Option.bind]
 cases rdv st x <;> try rfl
 rename_i v; cases v <;> try rfl
 rename_i k n; cases k <;> rfl
def mpK (t : Nat) (q : List Nat) (k : Option AV) : Option (Nat × List Nat × List Int × List AV) := match k with
 | some (.mp keys vals) => some (t, q, keys, vals)
 | _ => none
@[congr] theorem e1h {t : Nat} {q : List Nat} {k k' : Option AV} (h : k = k') : mpK t q k = mpK t q k' := by rw [h]
@[go_sem] theorem f72 {t : Nat} {q : List Nat} {keys : List Int} {vals : List AV} : mpK t q (some (.mp keys vals)) = some (t, q, keys, vals) := (rfl)
def mpO (st : St) (v : AV) : Option (Nat × List Nat × List Int × List AV) := match v with
 | .bor t q _ _ e => mpK t q (a2b st t q e)
 | _ => none
@[congr] theorem e1i {v v' : AV} (h : v = v') : mpO st v = mpO st v' := by rw [h]
@[go_sem] theorem f2l {t lo n e : Nat} {q : List Nat} : mpO st (.bor t q lo n e) = mpK t q (a2b st t q e) := (rfl)
theorem c2d (x : X) : (d2v x).run st = (mpO st (rdv st x)).map fun r => ((r.1, r.2.1, st.s r.1, r.2.2.1, r.2.2.2), st) := by
 simp only [d2v, Ev.run_bind, a0u, Option.bind]
 cases hv : rdv st x <;> try rfl
 rename_i t q lo n e
 simp only [mpO, Ev.run_bind, a1l, Option.bind]
 by_cases he : e = st.ep t
 ·simp only [he, beq_self_eq_true, a0i, if_true, Ev.run, a0z, Option.bind, b7i]
  cases hk : a0e (st.s t) q with
  | none => rfl
  | some k => cases k <;> rfl
 ·have : (e == st.ep t) = false := by simpa using he
  simp only [this, a0i, Bool.false_eq_true, if_false, Ev.run, b7h he]
  rfl
def mgR (st : St) (d : Nat) (zs : List AV) (r : Option AV) : Option St := match r with
 | some v => iO (a0l v) (some (st.put d (.tup [v, .lit (.bool true)]))) none
 | none => iO (a0n zs) (some (st.put d (.tup [.agg zs, .lit (.bool false)]))) none
@[congr] theorem e1c {zs : List AV} {r r' : Option AV} (h : r = r') : mgR st d zs r = mgR st d zs r' := by rw [h]
@[go_sem] theorem e7k {zs : List AV} {v : AV} : mgR st d zs (some v) = iO (a0l v) (some (st.put d (.tup [v, .lit (.bool true)]))) none := (rfl)
@[go_sem] theorem e7j {zs : List AV} : mgR st d zs none = iO (a0n zs) (some (st.put d (.tup [.agg zs, .lit (.bool false)]))) none := (rfl)
def mgS (st : St) (d : Nat) (zs : List AV) (m : Option (Nat × List Nat × List Int × List AV)) (n : Option Int) : Option St := match m, n with
 | some (_, _, keys, vals), some n => mgR st d zs (a3z keys vals n)
 | _, _ => none
@[congr] theorem e1d {zs : List AV} {m m' : Option (Nat × List Nat × List Int × List AV)} {n n' : Option Int} (h : m = m') (h2 : n = n') : mgS st d zs m n = mgS st d zs m' n' := by rw [h, h2]
@[go_sem] theorem e7l {zs : List AV} {t : Nat} {q : List Nat} {keys : List Int} {vals : List AV} {n : Int} : mgS st d zs (some (t, q, keys, vals)) (some n) = mgR st d zs (a3z keys vals n) := (rfl)
@[go_sem] theorem e6h {T e : TypeId} {zs : List AV} {x k : X} : evS G N (some d) (.mget T e zs x k) st = mgS st d zs (mpO st (rdv st x)) (d5q (rdv st k)) := by
 simp only [evS, a07, Ev.run_bind, c2d, Option.bind]
 cases mpO st (rdv st x) with
 | none => rfl
 | some r =>
  obtain ⟨t, q, keys, vals⟩ := r
  simp only [Option.map, c2c]
  cases d5q (rdv st k) with
  | none => rfl
  | some n =>
   simp only [mgS, mgR]
   cases a3z keys vals n with
   | none =>
    simp only [Ev.run_bind, a0f, Option.bind]
    cases a0n zs <;> rfl
   | some v =>
    simp only [Ev.run_bind, a0f, Option.bind]
    cases a0l v <;> rfl
def msS (st : St) (N : Nat) (m : Option (Nat × List Nat × List Int × List AV)) (n : Option Int) (v : AV) : Option St := match m, n with
 | some (t, q, keys, vals), some n => iO (b1k v && decide (t < N)) (some (st.set t (a0o (st.s t) q (.mp (a2y keys vals n v).1 (a2y keys vals n v).2)))) none
 | _, _ => none
@[congr] theorem e1j {m m' : Option (Nat × List Nat × List Int × List AV)} {n n' : Option Int} {v v' : AV} (h : m = m') (h2 : n = n') (h3 : v = v') : msS st N m n v = msS st N m' n' v' := by rw [h, h2, h3]
@[go_sem] theorem e7o {t : Nat} {q : List Nat} {keys : List Int} {vals : List AV} {n : Int} {v : AV} : msS st N (some (t, q, keys, vals)) (some n) v = iO (b1k v && decide (t < N)) (some (st.set t (a0o (st.s t) q (.mp (a2y keys vals n v).1 (a2y keys vals n v).2)))) none := (rfl)
@[go_sem] theorem e6i {T e : TypeId} {x k v : X} : evS G N none (.mset T e x k v) st = msS st N (mpO st (rdv st x)) (d5q (rdv st k)) (rdv st v) := by
 simp only [evS, a07, Ev.run_bind, a0i, Option.isNone_none, if_true, Ev.run, Option.bind, c2d]
 cases mpO st (rdv st x) with
 | none => rfl
 | some r =>
  obtain ⟨t, q, keys, vals⟩ := r
  simp only [Option.map, c2c]
  cases d5q (rdv st k) with
  | none => rfl
  | some n =>
   simp only [msS, a0u, Ev.run_bind, a0f, Option.bind]
   cases b1k (rdv st v) && decide (t < N) <;> rfl
def lnF (st : St) (d : Nat) (l : Option (List AV)) : Option St := match l with
 | some l => some (st.put d (.loan l))
 | none => none
@[congr] theorem e01 {l l' : Option (List AV)} (h : l = l') : lnF st d l = lnF st d l' := by rw [h]
@[go_sem] theorem e7f {l : List AV} : lnF st d (some l) = some (st.put d (.loan l)) := (rfl)
def lnS (st : St) (N d sz : Nat) (r : Option (Nat × List Nat × Nat × List AV)) : Option St := match r with
 | some (t, q, o, ks) => gO (o + sz <= ks.length /\ t < N) (lnF st d (b50 t q (st.ep t) o ((ks.drop o).take sz)))
 | none => none
@[congr] theorem e02 {sz : Nat} {r r' : Option (Nat × List Nat × Nat × List AV)} (h : r = r') : lnS st N d sz r = lnS st N d sz r' := by rw [h]
@[go_sem] theorem e7g {sz t o : Nat} {q : List Nat} {ks : List AV} : lnS st N d sz (some (t, q, o, ks)) = gO (o + sz <= ks.length /\ t < N) (lnF st d (b50 t q (st.ep t) o ((ks.drop o).take sz))) := (rfl)
@[go_sem] theorem e6f {T sz : Nat} {x : X} : evS G N (some d) (.lend T sz x) st = lnS st N d sz (a6x st x (rdv st x)) := by
 simp only [evS, a07, Ev.run_bind, a8g, Option.bind]
 cases a6x st x (rdv st x) with
 | none => rfl
 | some r =>
  obtain ⟨t, q, o, ks⟩ := r
  simp only [Option.map, Ev.run_bind, a0f, Option.bind, lnS, gO]
  by_cases h : o + sz <= ks.length /\ t < N
  ·obtain ⟨h1, h2⟩ := h
   simp only [h1, h2, decide_true, Bool.and_self, if_true, and_self, a0z]
   cases b50 t q (st.ep t) o (List.take sz (List.drop o ks)) <;> rfl
  ·have : (decide (o + sz <= ks.length) && decide (t < N)) = false := by
    rw [Bool.eq_false_iff]; intro hh
    simp only [Bool.and_eq_true, decide_eq_true_eq] at hh
    exact h hh
   simp only [this, Bool.false_eq_true, if_false, if_neg h]
end
end Go.Ideal
end
section
namespace Go.Ideal.Tryd
def a63 : IC := (.seq (.reg [oo 36 (.bin .lss 3 0 (.t 35) (.t 34) 3)]) (.seq (.cond (.t 36) .skip (.exit 0)) (.seq (.block 1 (.seq (.reg [oo 37 (.iaddr 57 6 (.t 33) (.t 35)),
 oo 38 (.load 73 (some 6) (.t 37)),
 oo 6 (.alloc 73 [.lit (.int .i64 0), .own 1 0 [], .own 1 0 [], .own 1 0 [], .lit (.bool false), .own 1 0 []]),
 ov (.store 73 6 (.t 6) (.t 38))]) (.reg [om 39 4,
 oo 40 (.faddr 73 1 (.t 6) 1),
 oo 41 (.load 24 none (.t 40)),
 oo 42 (.bslice 95 24 1 1 [.own 1 0 []] [(0, (.t 41))]),
 oo 43 (.app 95 24 1 24 (.t 39) (.t 42)),
 oo 4 (.asg (.t 43))]))) (.reg [oo 44 (.bin .add 3 0 (.t 35) (.n 1) 3),
 om 35 44]))))
def a64 : IC := (.seq (.reg [oo 76 (.bin .lss 3 0 (.t 75) (.t 74) 3)]) (.seq (.cond (.t 76) .skip (.exit 2)) (.seq (.block 3 (.seq (.reg [oo 77 (.iaddr 24 1 (.t 73) (.t 75)),
 oo 78 (.load 3 none (.t 77)),
 oo 10 (.asg (.t 78))]) (.seq (.reg [om 80 7,
 oo 81 (.faddr 59 0 (.t 1) 0),
 oo 82 (.load 57 none (.t 81)),
 om 83 10,
 oo 84 (.iaddr 57 6 (.t 82) (.t 83)),
 oo 85 (.load 73 (some 6) (.t 84)),
 ⟨(some 86), .callx (.f 48) [(false, (.t 85))] [.x (.t 80), .p 0] [96, 73], none⟩,
 oo 79 (.mva (.t 86)),
 oo 87 (.ext (.t 79) 0),
 oo 88 (.ext (.t 79) 1),
 oo 11 (.alloc 26 [.own 1 0 [], .lit (.bool false)]),
 ov (.store 26 2 (.t 11) (.t 87)),
 oo 12 (.asg (.t 88))]) (.seq (.seq (.reg [om 89 12,
 oo 90 (.bin .neq 45 2 (.t 89) (.c .nilIface) 45)]) (.cond (.t 90) (.seq (.reg [oo 91 (.build 65 [.sl 0 [], .sl 0 [], .sl 0 [], .lit (.bool false), .sl 0 []] []),
 om 92 10,
 om 93 12,
 oc 94 49 [(false, (.t 92)), (false, (.t 93))] [3, 45],
 ov (.store 65 5 (.t 2) (.t 91)),
 oo 3 (.asg (.t 94))]) .ret) .skip)) (.draw [om 95 7,
 oo 96 (.nilck (.t 95)),
 oo 97 (.faddr 99 0 (.t 96) 0),
 oo 98 (.faddr 65 1 (.t 97) 1),
 oo 99 (.load 34 none (.t 98)),
 om 100 10,
 oo 101 (.load 26 (some 2) (.t 11)),
 oo 102 (.iaddr 34 2 (.t 99) (.t 100)),
 ov (.store 26 2 (.t 102) (.t 101))] [[], [0], [1], [2], [3], [], [], [4, 5, 0, 1, 2, 3, 4, 5, 6], [7, 6, 0, 1, 2, 3, 4, 5, 6]]))))) (.reg [oo 103 (.bin .add 3 0 (.t 75) (.n 1) 3),
 om 75 103]))))
def a6n : IC := (.seq (.reg [oo 1 (.box 59 2 (.t 0)),
 oo 2 (.alloc 65 [.own 1 0 [], .own 2 0 [], .own 1 0 [], .lit (.bool false), .own 2 0 []]),
 oo 3 (.asg (.c .nilIface))]) (.seq (.seq (.reg [oo 13 (.faddr 59 0 (.t 1) 0),
 oo 14 (.load 57 none (.t 13)),
 oo 15 (.len 57 false (.t 14)),
 oo 16 (.bin .gtr 3 0 (.t 15) (.n 64) 3)]) (.cond (.t 16) (.seq (.draw [oo 17 (.build 65 [.sl 0 [], .sl 0 [], .sl 0 [], .lit (.bool false), .sl 0 []] []),
 oo 18 (.load 45 none (.g 2)),
 ov (.store 65 5 (.t 2) (.t 17)),
 oo 3 (.asg (.t 18))] [[], [], [0, 0], [1, 2, 0, 1, 2]]) .ret) .skip)) (.seq (.seq (.reg [oo 19 (.faddr 59 1 (.t 1) 1),
 oo 20 (.load 3 none (.t 19)),
 oo 21 (.bin .lss 3 0 (.t 20) (.n 0) 3),
 om 22 21,
 og 23 (.faddr 59 1 (.t 1) 1) 3 22 false,
 og 24 (.load 3 none (.t 23)) 3 22 false,
 og 25 (.faddr 59 0 (.t 1) 0) 3 22 false,
 og 26 (.load 57 none (.t 25)) 3 22 false,
 og 27 (.len 57 false (.t 26)) 3 22 false,
 og 28 (.bin .geq 3 0 (.t 24) (.t 27) 3) 3 22 false,
 oo 29 (.pick (.t 22) (.c (.bool true)) (.t 28))]) (.cond (.t 29) (.seq (.draw [oo 30 (.build 65 [.sl 0 [], .sl 0 [], .sl 0 [], .lit (.bool false), .sl 0 []] []),
 oo 31 (.load 45 none (.g 0)),
 ov (.store 65 5 (.t 2) (.t 30)),
 oo 3 (.asg (.t 31))] [[], [], [0, 0], [1, 2, 0, 1, 2]]) .ret) .skip)) (.seq (.reg [oo 4 (.asg (.nl 1))]) (.seq (.seq (.reg [oo 32 (.faddr 59 0 (.t 1) 0),
 oo 33 (.load 57 none (.t 32)),
 oo 34 (.len 57 false (.t 33)),
 oo 35 (.mv (.n 0))]) (.block 0 (.loop a63))) (.seq (.reg [oo 45 (.mkmap 97),
 oo 46 (.build 99 [.own 1 0 [], .own 2 0 [], .sl 0 [], .lit (.bool false), .own 2 0 [], .lit (.bool false), .lit (.map none)] [(2, 6, 1, (.t 45))]),
 oo 47 (.box 99 7 (.t 46)),
 oo 7 (.asg (.t 47))]) (.seq (.reg [oo 8 (.asg (.c .nilIface))]) (.seq (.seq (.reg [om 49 7,
 om 50 4,
 oc 51 47 [(false, (.t 50))] [95],
 oo 48 (.mva (.t 51)),
 oo 52 (.ext (.t 48) 0),
 oo 53 (.ext (.t 48) 1),
 oo 54 (.nilck (.t 49)),
 oo 55 (.faddr 99 0 (.t 54) 0),
 oo 56 (.faddr 65 0 (.t 55) 0),
 ov (.stf 24 1 (.t 56) (.t 52)),
 oo 8 (.asg (.t 53))]) (.seq (.reg [om 57 8,
 oo 58 (.bin .neq 45 2 (.t 57) (.c .nilIface) 45)]) (.cond (.t 58) (.seq (.reg [oo 59 (.build 65 [.sl 0 [], .sl 0 [], .sl 0 [], .lit (.bool false), .sl 0 []] []),
 om 60 8,
 ov (.store 65 5 (.t 2) (.t 59)),
 oo 3 (.asg (.t 60))]) .ret) .skip))) (.seq (.reg [om 61 7,
 oo 62 (.faddr 59 0 (.t 1) 0),
 oo 63 (.load 57 none (.t 62)),
 oo 64 (.len 57 false (.t 63)),
 oo 65 (.mks 34 26 2 32 [.sl 0 [], .lit (.bool false)] (.t 64) (.t 64)),
 oo 66 (.nilck (.t 61)),
 oo 67 (.faddr 99 0 (.t 66) 0),
 oo 68 (.faddr 65 1 (.t 67) 1),
 ov (.store 34 1 (.t 68) (.t 65))]) (.seq (.seq (.reg [om 69 7,
 oo 70 (.nilck (.t 69)),
 oo 71 (.faddr 99 0 (.t 70) 0),
 oo 72 (.faddr 65 0 (.t 71) 0),
 oo 73 (.load 24 none (.t 72)),
 oo 74 (.len 24 false (.t 73)),
 oo 75 (.mv (.n 0))]) (.block 2 (.loop a64))) (.seq (.reg [om 104 7,
 oo 105 (.nilck (.t 104)),
 oo 106 (.faddr 99 0 (.t 105) 0),
 oo 107 (.load 65 (some 5) (.t 106)),
 ov (.store 65 5 (.t 2) (.t 107)),
 oo 3 (.asg (.c .nilIface))]) .ret)))))))))))
abbrev c2o : Nat := 27
theorem b57 : fnC pg 27 108 [(.cells 2 5), (.tmp 3)] a6n := a09 Go.Proofs.Tryd.f27 [(.cell 2 65), (.tmp 3)] (by kernel_rfl)
@[go_sem] theorem d0s : fnB pg 27 = true := by kernel_rfl
def a18 : IC := (.seq (.reg [oo 18 (.bin .lss 3 0 (.t 17) (.t 16) 3)]) (.seq (.cond (.t 18) .skip (.exit 1)) (.seq (.block 2 (.seq (.reg [oo 19 (.iaddr 24 1 (.t 15) (.t 17)),
 oo 20 (.load 3 none (.t 19)),
 oo 8 (.asg (.t 20))]) (.reg [om 21 6,
 om 22 0,
 oo 23 (.nilck (.t 22)),
 oo 24 (.faddr 99 0 (.t 23) 0),
 oo 25 (.faddr 65 1 (.t 24) 1),
 oo 26 (.load 34 none (.t 25)),
 om 27 8,
 oo 28 (.iaddr 34 2 (.t 26) (.t 27)),
 oo 29 (.load 26 (some 2) (.t 28)),
 oo 30 (.bslice 34 26 2 1 [.own 1 0 [], .lit (.bool false)] [(0, (.t 29))]),
 oo 31 (.app 34 26 2 32 (.t 21) (.t 30)),
 oo 6 (.asg (.t 31))]))) (.reg [oo 32 (.bin .add 3 0 (.t 17) (.n 1) 3),
 om 17 32]))))
def a5l : IC := (.seq (.reg [oo 3 (.box 73 6 (.t 1)),
 oo 4 (.alloc 26 [.own 1 0 [], .lit (.bool false)]),
 oo 5 (.asg (.c .nilIface))]) (.seq (.block 0 (.seq (.reg [oo 11 (.faddr 73 0 (.t 3) 0),
 oo 12 (.load 3 none (.t 11)),
 oc 13 67 [(false, (.t 12))] [3],
 oo 10 (.asg (.t 13))]) (.cond (.t 10) (.seq (.reg [oo 6 (.asg (.nl 2))]) (.seq (.seq (.reg [oo 14 (.faddr 73 1 (.t 3) 1),
 oo 15 (.load 24 none (.t 14)),
 oo 16 (.len 24 false (.t 15)),
 oo 17 (.mv (.n 0))]) (.block 1 (.loop a18))) (.seq (.reg [oo 33 (.faddr 73 0 (.t 3) 0),
 oo 34 (.load 3 none (.t 33)),
 oo 35 (.faddr 73 2 (.t 3) 2),
 oo 36 (.load 24 none (.t 35)),
 om 37 6,
 oc 38 68 [(false, (.t 34)), (false, (.t 36)), (false, (.t 37))] [3, 24, 34],
 oo 39 (.ext (.t 38) 0),
 oo 40 (.ext (.t 38) 1),
 ov (.store 26 2 (.t 4) (.t 39)),
 oo 5 (.asg (.t 40))]) .ret))) (.seq (.reg [oo 42 (.faddr 73 0 (.t 3) 0),
 oo 43 (.load 3 none (.t 42)),
 oo 44 (.bin .lss 3 0 (.t 43) (.n 1) 3),
 om 45 44,
 og 46 (.faddr 73 0 (.t 3) 0) 3 45 false,
 og 47 (.load 3 none (.t 46)) 3 45 false,
 og 48 (.bin .gtr 3 0 (.t 47) (.n 3) 3) 3 45 false,
 oo 49 (.pick (.t 45) (.c (.bool true)) (.t 48)),
 oo 41 (.asg (.t 49))]) (.cond (.t 41) (.seq (.draw [oo 50 (.build 26 [.sl 0 [], .lit (.bool false)] []),
 oo 51 (.load 45 none (.g 4)),
 ov (.store 26 2 (.t 4) (.t 50)),
 oo 5 (.asg (.t 51))] [[], [], [0, 0], [1, 2, 0, 1, 2]]) .ret) (.seq (.reg [oo 53 (.faddr 73 1 (.t 3) 1),
 oo 54 (.load 24 none (.t 53)),
 oo 55 (.len 24 false (.t 54)),
 oo 56 (.bin .gtr 3 0 (.t 55) (.n 0) 3),
 oo 52 (.asg (.t 56))]) (.cond (.t 52) (.seq (.draw [oo 57 (.build 26 [.sl 0 [], .lit (.bool false)] []),
 oo 58 (.load 45 none (.g 7)),
 ov (.store 26 2 (.t 4) (.t 57)),
 oo 5 (.asg (.t 58))] [[], [], [0, 0], [1, 2, 0, 1, 2]]) .ret) (.seq (.reg [oo 60 (.faddr 73 0 (.t 3) 0),
 oo 61 (.load 3 none (.t 60)),
 oo 62 (.bin .eql 3 0 (.t 61) (.n 1) 3),
 oo 59 (.asg (.t 62))]) (.cond (.t 59) (.seq (.reg [om 63 0,
 oo 64 (.load 73 (some 6) (.t 3)),
 ⟨(some 65), .callx (.f 69) [(false, (.t 64))] [.x (.t 63), .p 0] [96, 73], none⟩,
 oo 66 (.ext (.t 65) 0),
 oo 67 (.ext (.t 65) 1),
 ov (.store 26 2 (.t 4) (.t 66)),
 oo 5 (.asg (.t 67))]) .ret) (.seq (.reg [oo 69 (.faddr 73 0 (.t 3) 0),
 oo 70 (.load 3 none (.t 69)),
 oo 71 (.bin .eql 3 0 (.t 70) (.n 3) 3),
 oo 68 (.asg (.t 71))]) (.cond (.t 68) (.seq (.reg [om 72 0,
 oo 73 (.load 73 (some 6) (.t 3)),
 ⟨(some 74), .callx (.f 70) [(false, (.t 73))] [.x (.t 72), .p 0] [96, 73], none⟩,
 oo 75 (.ext (.t 74) 0),
 oo 76 (.ext (.t 74) 1),
 ov (.store 26 2 (.t 4) (.t 75)),
 oo 5 (.asg (.t 76))]) .ret) (.seq (.reg [oo 78 (.faddr 73 2 (.t 3) 2),
 oo 79 (.load 24 none (.t 78)),
 oo 80 (.len 24 false (.t 79)),
 oo 81 (.bin .gtr 3 0 (.t 80) (.n 0) 3),
 oo 77 (.asg (.t 81))]) (.cond (.t 77) (.seq (.draw [oo 82 (.build 26 [.sl 0 [], .lit (.bool false)] []),
 oo 83 (.load 45 none (.g 7)),
 ov (.store 26 2 (.t 4) (.t 82)),
 oo 5 (.asg (.t 83))] [[], [], [0, 0], [1, 2, 0, 1, 2]]) .ret) .skip))))))))))))) (.seq (.seq (.reg [oo 84 (.faddr 73 3 (.t 3) 3),
 oo 85 (.load 71 (some 3) (.t 84)),
 oc 86 59 [(false, (.t 85))] [71],
 oo 9 (.asg (.t 86))]) (.seq (.reg [om 87 9,
 oo 88 (.bin .neq 45 2 (.t 87) (.c .nilIface) 45)]) (.cond (.t 88) (.seq (.reg [oo 89 (.build 26 [.sl 0 [], .lit (.bool false)] []),
 om 90 9,
 ov (.store 26 2 (.t 4) (.t 89)),
 oo 5 (.asg (.t 90))]) .ret) .skip))) (.seq (.reg [oo 91 (.faddr 73 3 (.t 3) 3),
 oo 92 (.faddr 71 0 (.t 91) 0),
 oo 93 (.load 26 (some 2) (.t 92)),
 oc 94 71 [(false, (.t 93))] [26],
 ov (.store 26 2 (.t 4) (.t 94)),
 oo 5 (.asg (.c .nilIface))]) .ret))))
abbrev a80 : Nat := 48
@[go_sem] theorem b8j : fnB pg 48 = true := by kernel_rfl
theorem a66 : fnX pg 48 95 [(.cells 4 2), (.tmp 5)] [(.cell 4 26), (.tmp 5)] a5l := c48 Go.Proofs.Tryd.f48 (by kernel_rfl)
def a6o : IC := (.seq (.reg [oo 3 (.box 73 6 (.t 1)),
 oo 4 (.alloc 26 [.own 1 0 [], .lit (.bool false)]),
 oo 5 (.asg (.c .nilIface))]) (.seq (.reg [oo 9 (.faddr 73 2 (.t 3) 2),
 oo 10 (.load 24 none (.t 9)),
 oc 11 98 [(false, (.t 10)), (false, (.n 0))] [24, 3],
 oo 8 (.mva (.t 11)),
 oo 12 (.ext (.t 8) 0),
 oo 13 (.ext (.t 8) 1),
 oo 6 (.alloc 26 [.own 1 0 [], .lit (.bool false)]),
 ov (.store 26 2 (.t 6) (.t 12)),
 oo 7 (.asg (.t 13))]) (.seq (.seq (.reg [om 14 7,
 oo 15 (.bin .neq 45 2 (.t 14) (.c .nilIface) 45)]) (.cond (.t 15) (.seq (.reg [oo 16 (.build 26 [.sl 0 [], .lit (.bool false)] []),
 om 17 7,
 ov (.store 26 2 (.t 4) (.t 16)),
 oo 5 (.asg (.t 17))]) .ret) .skip)) (.seq (.seq (.draw [om 18 0,
 oo 19 (.nilck (.t 18)),
 oo 20 (.faddr 99 5 (.t 19) 1),
 oo 21 (.load 4 none (.t 20)),
 om 22 21,
 og 23 (.load 26 (some 2) (.t 6)) 4 22 true,
 og 24 (.mv (.t 0)) 4 22 true,
 og 25 (.nilck (.t 24)) 4 22 true,
 og 26 (.faddr 99 0 (.t 25) 0) 4 22 true,
 og 27 (.faddr 65 2 (.t 26) 2) 4 22 true,
 og 28 (.load 26 (some 2) (.t 27)) 4 22 true,
 ⟨(some 29), .call 85 [(false, (.t 23)), (false, (.t 28))] [26, 26], (some (4, 22, true))⟩,
 og 30 (.un .not 4 (.t 29)) 4 22 true,
 oo 31 (.pick (.t 22) (.t 30) (.c (.bool false)))] [[], [0], [1], [2], [3], [4], [4], [6, 4], [7, 4], [8, 4], [9, 4], [5, 10, 4, 4], [11, 4], [4, 12]]) (.cond (.t 31) (.seq (.draw [oo 32 (.build 26 [.sl 0 [], .lit (.bool false)] []),
 oo 33 (.load 45 none (.g 7)),
 ov (.store 26 2 (.t 4) (.t 32)),
 oo 5 (.asg (.t 33))] [[], [], [0, 0], [1, 2, 0, 1, 2]]) .ret) .skip)) (.seq (.reg [om 34 0,
 om 35 0,
 oo 36 (.load 26 (some 2) (.t 6)),
 oc 37 71 [(false, (.t 36))] [26],
 oo 38 (.nilck (.t 34)),
 oo 39 (.faddr 99 5 (.t 38) 1),
 ov (.store 4 1 (.t 39) (.c (.bool true))),
 oo 40 (.nilck (.t 35)),
 oo 41 (.faddr 99 0 (.t 40) 0),
 oo 42 (.faddr 65 2 (.t 41) 2),
 ov (.store 26 2 (.t 42) (.t 37))]) (.seq (.reg [oo 43 (.load 26 (some 2) (.t 6)),
 ov (.store 26 2 (.t 4) (.t 43)),
 oo 5 (.asg (.c .nilIface))]) .ret))))))
abbrev b0f : Nat := 69
@[go_sem] theorem c0w : fnB pg 69 = true := by kernel_rfl
theorem a7z : fnX pg 69 44 [(.cells 4 2), (.tmp 5)] [(.cell 4 26), (.tmp 5)] a6o := c48 Go.Proofs.Tryd.f69 (by kernel_rfl)
@[go_sem] def order_looker_weight_r12 : List AO := [om 57 0,
 oo 58 (.nilck (.t 57)),
 oo 59 (.faddr 99 6 (.t 58) 2),
 oo 60 (.load 97 none (.t 59)),
 om 61 6,
 oo 62 (.load 26 (some 2) (.t 7)),
 ov (.mset 97 26 (.t 60) (.t 61) (.t 62))]
def a1g : IC := (.seq (.seq (.reg [om 63 0,
 oo 64 (.nilck (.t 63)),
 oo 65 (.faddr 99 0 (.t 64) 0),
 oo 66 (.faddr 65 4 (.t 65) 3),
 oo 67 (.load 34 none (.t 66)),
 oo 68 (.len 34 false (.t 67)),
 om 69 6,
 oo 70 (.bin .leq 3 0 (.t 68) (.t 69) 3)]) (.cond (.t 70) .skip (.exit 0))) (.block 1 (.reg [om 71 0,
 om 72 0,
 oo 73 (.nilck (.t 72)),
 oo 74 (.faddr 99 0 (.t 73) 0),
 oo 75 (.faddr 65 4 (.t 74) 3),
 oo 76 (.load 34 none (.t 75)),
 oo 77 (.build 26 [.sl 0 [], .lit (.bool false)] []),
 oo 78 (.bslice 34 26 2 1 [.own 1 0 [], .lit (.bool false)] [(0, (.t 77))]),
 oo 79 (.app 34 26 2 32 (.t 76) (.t 78)),
 oo 80 (.nilck (.t 71)),
 oo 81 (.faddr 99 0 (.t 80) 0),
 oo 82 (.faddr 65 4 (.t 81) 3),
 ov (.store 34 1 (.t 82) (.t 79))])))
@[go_sem] def order_looker_weight_r15 : List AO := [om 83 0,
 oo 84 (.nilck (.t 83)),
 oo 85 (.faddr 99 0 (.t 84) 0),
 oo 86 (.faddr 65 4 (.t 85) 3),
 oo 87 (.load 34 none (.t 86)),
 om 88 6,
 oo 89 (.load 26 (some 2) (.t 7)),
 oc 90 71 [(false, (.t 89))] [26],
 oo 91 (.iaddr 34 2 (.t 87) (.t 88)),
 ov (.store 26 2 (.t 91) (.t 90))]
@[go_sem] def order_looker_weight_r16 : List AO := [oo 92 (.load 26 (some 2) (.t 7)),
 ov (.store 26 2 (.t 4) (.t 92)),
 oo 5 (.asg (.c .nilIface))]
def a1m : IC := (.seq (.reg [oo 3 (.box 73 6 (.t 1)),
 oo 4 (.alloc 26 [.own 1 0 [], .lit (.bool false)]),
 oo 5 (.asg (.c .nilIface))]) (.seq (.seq (.reg [oo 11 (.faddr 73 2 (.t 3) 2),
 oo 12 (.load 24 none (.t 11)),
 oo 13 (.len 24 false (.t 12)),
 oo 14 (.bin .lss 3 0 (.t 13) (.n 2) 3)]) (.cond (.t 14) (.seq (.draw [oo 15 (.build 26 [.sl 0 [], .lit (.bool false)] []),
 oo 16 (.load 45 none (.g 7)),
 ov (.store 26 2 (.t 4) (.t 15)),
 oo 5 (.asg (.t 16))] [[], [], [0, 0], [1, 2, 0, 1, 2]]) .ret) .skip)) (.seq (.reg [oo 17 (.faddr 73 2 (.t 3) 2),
 oo 18 (.load 24 none (.t 17)),
 oo 19 (.iaddr 24 1 (.t 18) (.n 0)),
 oo 20 (.load 3 none (.t 19)),
 oo 6 (.asg (.t 20))]) (.seq (.seq (.reg [om 21 6,
 oo 22 (.bin .lss 3 0 (.t 21) (.n 0) 3),
 om 23 22,
 og 24 (.mv (.t 6)) 2 23 false,
 og 25 (.bin .geq 3 0 (.t 24) (.n 8) 3) 2 23 false,
 oo 26 (.pick (.t 23) (.c (.bool true)) (.t 25))]) (.cond (.t 26) (.seq (.draw [oo 27 (.build 26 [.sl 0 [], .lit (.bool false)] []),
 oo 28 (.load 45 none (.g 3)),
 ov (.store 26 2 (.t 4) (.t 27)),
 oo 5 (.asg (.t 28))] [[], [], [0, 0], [1, 2, 0, 1, 2]]) .ret) .skip)) (.seq (.reg [oo 30 (.faddr 73 2 (.t 3) 2),
 oo 31 (.load 24 none (.t 30)),
 oc 32 98 [(false, (.t 31)), (false, (.n 1))] [24, 3],
 oo 29 (.mva (.t 32)),
 oo 33 (.ext (.t 29) 0),
 oo 34 (.ext (.t 29) 1),
 oo 7 (.alloc 26 [.own 1 0 [], .lit (.bool false)]),
 ov (.store 26 2 (.t 7) (.t 33)),
 oo 8 (.asg (.t 34))]) (.seq (.seq (.reg [om 35 8,
 oo 36 (.bin .neq 45 2 (.t 35) (.c .nilIface) 45)]) (.cond (.t 36) (.seq (.reg [oo 37 (.build 26 [.sl 0 [], .lit (.bool false)] []),
 om 38 8,
 ov (.store 26 2 (.t 4) (.t 37)),
 oo 5 (.asg (.t 38))]) .ret) .skip)) (.seq (.seq (.reg [om 40 0,
 oo 41 (.nilck (.t 40)),
 oo 42 (.faddr 99 6 (.t 41) 2),
 oo 43 (.load 97 none (.t 42)),
 om 44 6,
 oo 45 (.mget 97 26 [.sl 0 [], .lit (.bool false)] (.t 43) (.t 44)),
 om 39 45,
 oo 46 (.ext (.t 39) 0),
 oo 47 (.ext (.t 39) 1),
 oo 9 (.alloc 26 [.own 1 0 [], .lit (.bool false)]),
 ov (.store 26 2 (.t 9) (.t 46)),
 oo 10 (.asg (.t 47))]) (.seq (.reg [om 48 10,
 om 49 48,
 og 50 (.load 26 (some 2) (.t 7)) 1 49 true,
 og 51 (.load 26 (some 2) (.t 9)) 1 49 true,
 ⟨(some 52), .call 85 [(false, (.t 50)), (false, (.t 51))] [26, 26], (some (1, 49, true))⟩,
 og 53 (.un .not 4 (.t 52)) 1 49 true,
 oo 54 (.pick (.t 49) (.t 53) (.c (.bool false)))]) (.cond (.t 54) (.seq (.draw [oo 55 (.build 26 [.sl 0 [], .lit (.bool false)] []),
 oo 56 (.load 45 none (.g 7)),
 ov (.store 26 2 (.t 4) (.t 55)),
 oo 5 (.asg (.t 56))] [[], [], [0, 0], [1, 2, 0, 1, 2]]) .ret) .skip))) (.seq (.draw order_looker_weight_r12 [[], [0], [1], [2], [], [], [3, 4, 5, 0, 1, 2, 3, 4, 5]]) (.seq (.block 0 (.loop a1g)) (.seq (.draw order_looker_weight_r15 [[], [0], [1], [2], [3], [], [], [6], [4, 5, 0, 1, 2, 3, 4, 5, 6, 7], [8, 7, 7, 0, 1, 2, 3, 4, 5, 6, 7]]) (.seq (.reg order_looker_weight_r16) .ret)))))))))))
abbrev a7l : Nat := 70
@[go_sem] theorem b58 : fnB pg 70 = true := by kernel_rfl
theorem a57 : fnX pg 70 93 [(.cells 4 2), (.tmp 5)] [(.cell 4 26), (.tmp 5)] a1m := c48 Go.Proofs.Tryd.f70 (by kernel_rfl)
def a4p : IC := (.seq (.reg [oo 4 (.alloc 26 [.own 1 0 [], .lit (.bool false)]),
 oo 5 (.asg (.c .nilIface))]) (.seq (.seq (.reg [om 8 0,
 oo 9 (.len 24 false (.t 8)),
 om 10 1,
 oo 11 (.bin .leq 3 0 (.t 9) (.t 10) 3)]) (.cond (.t 11) (.seq (.draw [oo 12 (.build 26 [.sl 0 [], .lit (.bool false)] []),
 oo 13 (.load 45 none (.g 7)),
 ov (.store 26 2 (.t 4) (.t 12)),
 oo 5 (.asg (.t 13))] [[], [], [0, 0], [1, 2, 0, 1, 2]]) .ret) .skip)) (.seq (.seq (.reg [om 14 0,
 om 15 1,
 oo 16 (.iaddr 24 1 (.t 14) (.t 15)),
 oo 17 (.load 3 none (.t 16)),
 oo 18 (.bin .neq 3 0 (.t 17) (.n 0) 3),
 om 19 18,
 og 20 (.mv (.t 0)) 5 19 true,
 og 21 (.mv (.t 1)) 5 19 true,
 og 22 (.iaddr 24 1 (.t 20) (.t 21)) 5 19 true,
 og 23 (.load 3 none (.t 22)) 5 19 true,
 og 24 (.bin .neq 3 0 (.t 23) (.n 1) 3) 5 19 true,
 oo 25 (.pick (.t 19) (.t 24) (.c (.bool false)))]) (.cond (.t 25) (.seq (.draw [oo 26 (.build 26 [.sl 0 [], .lit (.bool false)] []),
 oo 27 (.load 45 none (.g 3)),
 ov (.store 26 2 (.t 4) (.t 26)),
 oo 5 (.asg (.t 27))] [[], [], [0, 0], [1, 2, 0, 1, 2]]) .ret) .skip)) (.seq (.draw [om 28 0,
 om 29 1,
 oo 30 (.bin .add 3 0 (.t 29) (.n 1) 3),
 oo 31 (.slice 24 1 (.t 28) (some (.t 30)) none none),
 oc 32 99 [(false, (.t 31))] [24],
 om 33 0,
 om 34 1,
 oo 35 (.iaddr 24 1 (.t 33) (.t 34)),
 oo 36 (.load 3 none (.t 35)),
 oo 37 (.bin .eql 3 0 (.t 36) (.n 1) 3),
 oo 38 (.build 26 [.own 1 0 [], .lit (.bool false)] [(0, 0, 1, (.t 32)), (1, 1, 1, (.t 37))]),
 oo 6 (.alloc 26 [.own 1 0 [], .lit (.bool false)]),
 ov (.store 26 2 (.t 6) (.t 38))] [[], [], [1], [0, 2], [3], [], [], [5, 6], [7], [8], [4, 9], [], [11, 10, 4, 0, 1, 2, 3, 4, 5, 6, 7, 8, 9, 10, 11]]) (.seq (.seq (.reg [oo 39 (.load 26 (some 2) (.t 6)),
 oc 40 58 [(false, (.t 39))] [26],
 oo 7 (.asg (.t 40))]) (.seq (.reg [om 41 7,
 oo 42 (.bin .neq 45 2 (.t 41) (.c .nilIface) 45)]) (.cond (.t 42) (.seq (.reg [oo 43 (.build 26 [.sl 0 [], .lit (.bool false)] []),
 om 44 7,
 ov (.store 26 2 (.t 4) (.t 43)),
 oo 5 (.asg (.t 44))]) .ret) .skip))) (.seq (.reg [oo 45 (.load 26 (some 2) (.t 6)),
 ov (.store 26 2 (.t 4) (.t 45)),
 oo 5 (.asg (.c .nilIface))]) .ret))))))
abbrev b62 : Nat := 98
theorem b26 : fnC pg 98 46 [(.cells 4 2), (.tmp 5)] a4p := a09 Go.Proofs.Tryd.f98 [(.cell 4 26), (.tmp 5)] (by kernel_rfl)
@[go_sem] theorem c7l : fnB pg 98 = true := by kernel_rfl
end Go.Ideal.Tryd
end
section
namespace Go.Ideal
section
variable (P : Program) (G : GG) (N : Nat) (aft : DA)
def c2w (ex : List Nat) (d : Option Nat) (f : FuncId) (args : List (Bool × X)) (rest : List AO) (fps : List (List Nat × List Nat)) (K : St -> Prop) (st : St) (o1 o2 : Option St) : Prop := match o1, o2 with
 | some st1, some st2 => c1o P G N aft d f (a4q N args.length st2) (ex ++ (d.toList ++ a0w st (args.map (·.2)))) rest fps K st st1 st2
 | _, _ => False
def b92 (ex : List Nat) (d : Option Nat) (f : FuncId) (args : List (Bool × X)) (rest : List AO) (fps : List (List Nat × List Nat)) (K : St -> Prop) (st : St) (o1 : Option St) : Prop := c2w P G N aft ex d f args rest fps K st o1 (pss N (N + 2) args o1)
def d0e (v : AV) (want : Bool) (t : Nat) (d : Option Nat) (f : FuncId) (args : List (Bool × X)) (rest : List AO) (fps : List (List Nat × List Nat)) (K : St -> Prop) (st : St) : Prop := match v with
 | .lit v => if b4a want v then b92 P G N aft [t] d f args rest fps K st (gvs N (N + 2) args (some st)) else (∀ u ∈ t :: d.toList, u < N) /\ a6v aft.2 (a2s d st) /\ a6w P G N aft rest (fps ++ [([t], d.toList)]) K (a2s d st)
 | _ => False
end
section
variable {P : Program} {G : GG} {N : Nat} {aft : DA} {fps : List (List Nat × List Nat)} {K : St -> Prop} {st : St} {d : Option Nat} {rest : List AO} {t : Nat} {f : FuncId} {args : List (Bool × X)} {ex : List Nat}
@[congr] theorem d43 {v v' : AV} {w : Bool} (h : v = v') : d0e P G N aft v w t d f args rest fps K st = d0e P G N aft v' w t d f args rest fps K st := by rw [h]
@[congr] theorem d1q {o o' : Option St} (h : o = o') : b92 P G N aft ex d f args rest fps K st o = b92 P G N aft ex d f args rest fps K st o' := by rw [h]
@[congr] theorem d1r {o1 o o' : Option St} (h : o = o') : c2w P G N aft ex d f args rest fps K st o1 o = c2w P G N aft ex d f args rest fps K st o1 o' := by rw [h]
@[go_sem] theorem d4y {st1 : St} : b92 P G N aft ex d f args rest fps K st (some st1) = c2w P G N aft ex d f args rest fps K st (some st1) (pss N (N + 2) args (some st1)) := (rfl)
@[go_sem] theorem d4z {st1 st2 : St} : c2w P G N aft ex d f args rest fps K st (some st1) (some st2) = c1o P G N aft d f (a4q N args.length st2) (ex ++ (d.toList ++ a0w st (args.map (·.2)))) rest fps K st st1 st2 := (rfl)
@[go_sem] theorem e98 {j : Nat} {want : Bool} {tys : List TypeId} : a6w P G N aft (⟨d, .call f args tys, some (j, t, want)⟩ :: rest) fps K st = d0e P G N aft (st.s t) want t d f args rest fps K st := by
 simp only [a6w, d0e]
 cases st.s t <;> try rfl
 simp only [c4p, b92, c2w, c1o]
 split
 ·cases gvs N (N + 2) args (some st) with
  | none => rfl
  | some st1 =>
   simp only
   cases pss N (N + 2) args (some st1) <;> rfl
 ·rfl
@[go_sem] theorem e97 : d0e P G N aft (.lit (.bool true)) true t d f args rest fps K st = b92 P G N aft [t] d f args rest fps K st (gvs N (N + 2) args (some st)) := (rfl)
@[go_sem] theorem e94 : d0e P G N aft (.lit (.bool false)) false t d f args rest fps K st = b92 P G N aft [t] d f args rest fps K st (gvs N (N + 2) args (some st)) := (rfl)
@[go_sem] theorem e96 : d0e P G N aft (.lit (.bool true)) false t d f args rest fps K st = ((∀ u ∈ t :: d.toList, u < N) /\ a6v aft.2 (a2s d st) /\ a6w P G N aft rest (fps ++ [([t], d.toList)]) K (a2s d st)) := (rfl)
@[go_sem] theorem e95 : d0e P G N aft (.lit (.bool false)) true t d f args rest fps K st = ((∀ u ∈ t :: d.toList, u < N) /\ a6v aft.2 (a2s d st) /\ a6w P G N aft rest (fps ++ [([t], d.toList)]) K (a2s d st)) := (rfl)
end
end Go.Ideal
end
section
namespace Go.Ideal.Tryd
attribute [local go_sem] eD
def a3u (args : List Int) (a : Nat) : Dr :=
 if args.length <= a then bad 6
 else if args[a]! ≠ 0 /\ args[a]! ≠ 1 then bad 3
 else chk (a08 (args.drop (a + 1))) (⟨args.drop (a + 1), decide (args[a]! = 1)⟩, .nil)
section
variable {G : GG} {bk : Nat -> Nat × Nat} {Q : Exit -> St -> Prop} {st : St}
theorem d0h (hS : SentO G bk) (args : List Int) (a : Nat) (hlen : args.length < 2 ^ 36) (ha : a <= 1) : ACalls pg G b62 [slI args, li a] (b35 bk (a3u args a)) := by
 have h7 := hS.val 7 (by decide)
 have h3 := hS.val 3 (by decide)
 refine b26 rfl ?_
 by_cases h1 : args.length <= a
 ·have h1' : (args.length : Int) <= a := by omega
  simp (disch := omega) [go_sem, a4p, h1, h1']
  refine a0b ?_
  simp (disch := omega) [go_sem, h1, h7]
  refine a0d (by decide) fun s2 hs he => ?_
  simp (disch := omega) [go_sem, hs, a3u, h1, bad, dn, a0v]
 ·have h1' : ¬ (args.length : Int) <= a := by omega
  have hlt : a < args.length := by omega
  have hg : args[a]! = args[a] := by simp [hlt]
  obtain ⟨tl, htl⟩ : ∃ tl, tl = args.drop (a + 1) := ⟨_, rfl⟩
  have hd : tl.length < 2 ^ 36 := by rw [htl]; simp; omega
  have e1 : ((args.length : Int) - ((a : Int) + 1)).toNat = tl.length := by rw [htl]; simp; omega
  have e2 : List.take tl.length (List.drop (a + 1) (List.map li args)) = List.map li tl := by rw [htl, <- List.map_drop, List.take_of_length_le (by simp)]
  by_cases z : args[a] = 0
  ·simp (disch := omega) [go_sem, a4p, h1, h1', hlt, z]
   refine a0b ?_
   simp (disch := omega) [go_sem, hlt, z]
   simp only [e1, e2]
   refine a02 (b2d tl (by omega)) rfl (b2y _) (by simp) [32] (by simp) (by simp (disch := omega) [go_sem]) ?_
   simp (disch := omega) [go_sem, hlt, z]
   refine a0d (by decide) fun s2 hs he => ?_
   simp (disch := omega) [go_sem, hs, a0g]
   refine a0m (a03 hS.three tl false (by omega)) (a0t _) (by simp (disch := omega) [go_sem]) ?_
   cases hv : (a08 tl).isNil with
   | true => simp (disch := omega) [go_sem, hs, hv, a3u, h1, hg, z, <- htl, chk, a0v]
   | false => simp (disch := omega) [go_sem, hs, hv, a3u, h1, hg, z, <- htl, chk, a0v, dn]
  ·by_cases o : args[a] = 1
   ·have z' : ¬ (1 : Int) = 0 := by omega
    simp (disch := omega) [go_sem, a4p, h1, h1', hlt, o]
    refine a0b ?_
    simp (disch := omega) [go_sem, hlt, o]
    simp only [e1, e2]
    refine a02 (b2d tl (by omega)) rfl (b2y _) (by simp) [32] (by simp) (by simp (disch := omega) [go_sem]) ?_
    simp (disch := omega) [go_sem, hlt, o]
    refine a0d (by decide) fun s2 hs he => ?_
    simp (disch := omega) [go_sem, hs, a0g]
    refine a0m (a03 hS.three tl true (by omega)) (a0t _) (by simp (disch := omega) [go_sem]) ?_
    cases hv : (a08 tl).isNil with
    | true => simp (disch := omega) [go_sem, hs, hv, a3u, h1, hg, o, <- htl, chk, a0v]
    | false => simp (disch := omega) [go_sem, hs, hv, a3u, h1, hg, o, <- htl, chk, a0v, dn]
   ·simp (disch := omega) [go_sem, a4p, h1, h1', hlt, z, o]
    refine a0b ?_
    simp (disch := omega) [go_sem, h3]
    refine a0d (by decide) fun s2 hs he => ?_
    simp (disch := omega) [go_sem, hs, a3u, h1, hg, z, o, bad, dn, a0v]
end
end Go.Ideal.Tryd
end
section
namespace Go.Ideal.Tryd
attribute [local go_sem] eD
structure Lk where
 ord : List Int
 descs : List Ds
 hin : Ds
 ws : List Ds
 input : Bool
 keys : List Int
 vals : List Ds
def eLk (l : Lk) : List AV := [slI l.ord, .own 2 l.descs.length (fm eD l.descs), slI l.hin.shape, lb l.hin.wide, .own 2 l.ws.length (fm eD l.ws), lb l.input, .mp l.keys (l.vals.map fun d => .agg (eD d))]
def inR (l : Lk) (args : List Int) : Dr × Lk :=
 if (a3u args 0).2.isNil = true then
  if l.input = true /\ (a3u args 0).1 ≠ l.hin then (bad 6, l) else (a3u args 0, { l with input := true, hin := (a3u args 0).1 })
 else ((dn, (a3u args 0).2), l)
section
variable {G : GG} {bk : Nat -> Nat × Nat} {Q : Exit -> St -> Prop} {st : St}
theorem g0a (hS : SentO G bk) (l : Lk) (n : Nd) (hl : l.hin.shape.length < 2 ^ 36) (hn : n.args.length < 2 ^ 36) (hf : (a3u n.args 0).1.shape.length < 2 ^ 36) : ACallsX pg G b0f [.var (eLk l), .agg (a5u n)] (b35 bk (inR l n.args).1) [(0, .var (eLk (inR l n.args).2))] := by
 have h7 := hS.val 7 (by decide)
 refine a7z (pins := [0]) (by kernel_rfl) rfl rfl (by simp [go_sem]) rfl ?_
 simp (disch := omega) [go_sem, a6o, eLk, a5u]
 refine a0m (d0h hS n.args 0 hn (by omega)) (by simp [go_sem]) (by simp (disch := omega) [go_sem]) ?_
 generalize hr : a3u n.args 0 = r at *
 obtain ⟨d, e⟩ := r
 simp only at hf
 cases he : e.isNil with
 | false =>
  simp (disch := omega) [go_sem, he, inR, hr, dn]
 | true =>
  obtain rfl : e = .nil := by cases e <;> simp_all [Er.isNil]
  simp (disch := omega) [go_sem, he]
  refine a0b ?_
  cases hi : l.input with
  | false =>
   simp (disch := omega) [go_sem, hi]
   refine a0d (by decide) fun s2 hs hep => ?_
   simp (disch := omega) [go_sem, hs, hep]
   refine a0m ((a21 d.shape d.wide (by omega)).shown (res' := .agg [slI d.shape, lb d.wide]) (by simp (disch := omega) [go_sem])) (by simp (disch := omega) [go_sem]) (by simp (disch := omega) [go_sem]) ?_
   simp (disch := omega) [go_sem, hs, hep, a0g, inR, hr, he, hi, a0v]
  | true =>
   simp (disch := omega) [go_sem, hi]
   refine a02 (a5n d l.hin (by omega) (by omega)) rfl rfl (by simp) [29] (by simp) (by simp (disch := omega) [go_sem]) ?_
   simp (disch := omega) [go_sem, hi]
   refine a0d (by decide) fun s2 hs hep => ?_
   by_cases hd : d = l.hin
   ·simp (disch := omega) [go_sem, hs, hep, hd]
    subst hd
    refine a0m ((a21 l.hin.shape l.hin.wide (by omega)).shown (res' := .agg [slI l.hin.shape, lb l.hin.wide]) (by simp (disch := omega) [go_sem])) (by simp (disch := omega) [go_sem]) (by simp (disch := omega) [go_sem]) ?_
    simp (disch := omega) [go_sem, hs, hep, a0g, inR, hr, he, hi, a0v]
   ·simp (disch := omega) [go_sem, hs, hep, hd]
    refine a0b ?_
    simp (disch := omega) [go_sem, hs, hep, h7]
    refine a0d (by decide) fun s3 hs3 hep3 => ?_
    simp (disch := omega) [go_sem, hs3, hep3, hs, hep, inR, hr, he, hi, hd, bad, dn, a0v]
end
end Go.Ideal.Tryd
end
section
namespace Go.Ideal.Tryd
attribute [local go_sem] eD
def c82 : List Int -> List Ds -> Int -> Option Ds
 | k :: ks, v :: vs, n => if k = n then some v else c82 ks vs n
 | _, _, _ => none
def b7w : List Int -> List Ds -> Int -> Ds -> List Int × List Ds
 | k :: ks, v :: vs, n, x => if k = n then (k :: ks, x :: vs) else (k :: (b7w ks vs n x).1, v :: (b7w ks vs n x).2)
 | _, _, n, x => ([n], [x])
theorem b0r (f : Ds -> AV) : ∀ (keys : List Int) (vals : List Ds) (n : Int), a3z keys (vals.map f) n = (c82 keys vals n).map f
 | [], _, n => rfl
 | k :: ks, [], n => rfl
 | k :: ks, v :: vs, n => by
  simp only [List.map_cons, a3z, c82]
  split
  ·rfl
  ·exact b0r f ks vs n
theorem b4w (f : Ds -> AV) : ∀ (keys : List Int) (vals : List Ds) (n : Int) (x : Ds), a2y keys (vals.map f) n (f x) = ((b7w keys vals n x).1, (b7w keys vals n x).2.map f)
 | [], _, n, x => rfl
 | k :: ks, [], n, x => rfl
 | k :: ks, v :: vs, n, x => by
  simp only [List.map_cons, a2y, b7w]
  split
  ·rfl
  ·rw [b4w f ks vs n x]; rfl
theorem c10 : ∀ {keys : List Int} {vals : List Ds} {n : Int} {d : Ds}, c82 keys vals n = some d -> d ∈ vals
 | [], _, n, d, h => by simp [c82] at h
 | k :: ks, [], n, d, h => by simp [c82] at h
 | k :: ks, v :: vs, n, d, h => by
  simp only [c82] at h
  split at h
  ·simp only [Option.some.injEq] at h; simp [h]
  ·exact List.mem_cons_of_mem _ (c10 h)
def b6a (ws : List Ds) (k : Nat) : List Ds := ws ++ List.replicate (k + 1 - ws.length) dn
def wtR (l : Lk) (args : List Int) : Dr × Lk :=
 if args.length < 2 then (bad 6, l)
 else if args[0]! < 0 \/ 8 <= args[0]! then (bad 3, l)
 else if (a3u args 1).2.isNil = true then
  if (c82 l.keys l.vals args[0]!).all (fun was => decide ((a3u args 1).1 = was)) = true then
   (a3u args 1, { l with keys := (b7w l.keys l.vals args[0]! (a3u args 1).1).1, vals := (b7w l.keys l.vals args[0]! (a3u args 1).1).2, ws := (b6a l.ws args[0]!.toNat).set args[0]!.toNat (a3u args 1).1 })
  else (bad 6, l)
 else ((dn, (a3u args 1).2), l)
section
variable {G : GG} {bk : Nat -> Nat × Nat} {Q : Exit -> St -> Prop} {st : St}
theorem c5r (keys : List Int) (vals : List Ds) (n : Int) (x : Ds) : a2y keys (vals.map fun d => AV.agg [AV.sl d.shape.length (List.map li d.shape), lb d.wide]) n (.agg [AV.sl x.shape.length (List.map li x.shape), lb x.wide]) = ((b7w keys vals n x).1, (b7w keys vals n x).2.map fun d => AV.agg [AV.sl d.shape.length (List.map li d.shape), lb d.wide]) := b4w (fun d => AV.agg [AV.sl d.shape.length (List.map li d.shape), lb d.wide]) keys vals n x
theorem b8m {ws : List Ds} {k : Nat} : k < (b6a ws k).length := by simp [b6a]; omega
theorem c90 {α : Type} {a r vs : List α} {j : Nat} : a0g (a ++ r) (a.length + j) vs = a ++ a0g r j vs := by
 simp only [a0g]
 rw [List.take_append, List.drop_append]
 rw [List.take_of_length_le (by omega), show a.length + j - a.length = j by omega, List.drop_eq_nil_of_le (by omega), show a.length + j + vs.length - a.length = j + vs.length by omega]
 simp
theorem b2h {α : Type} {f : α -> List AV} {c : Nat} (hf : ∀ x, (f x).length = c) (y : α) : ∀ {xs : List α} {i : Nat}, i < xs.length -> a0g (fm f xs) (i * c) (f y) = fm f (xs.set i y)
 | x :: xs, 0, _ => by
  simp only [List.set_cons_zero, a3o, a0g, Nat.zero_mul, Nat.zero_add, hf, List.take_zero, List.nil_append]
  rw [List.drop_append, List.drop_eq_nil_of_le (by rw [hf]; omega), hf, Nat.sub_self]
  simp
 | x :: xs, i + 1, h => by
  have ih := b2h hf y (xs := xs) (i := i) (by simpa using h)
  rw [List.set_cons_succ, a3o, a3o, <- ih, show (i + 1) * c = (f x).length + i * c by rw [hf, Nat.succ_mul]; omega, c90]
theorem c1q {xs : List Ds} {i : Nat} {d : Ds} (h : i < xs.length) : a0g (fm eD xs) (i * 2) [slI d.shape, lb d.wide] = fm eD (xs.set i d) := b2h (f := eD) (c := 2) (fun _ => rfl) d h
theorem f44 {l : Lk} {k : Nat} {d : Ds} (hk : k < 8) (hw : l.ws.length <= 8)
  (h : st.s 0 = .var (eLk l) /\ st.s 4 = .var [.own 1 0 [], lb false] /\ st.s 6 = li k /\ st.s 7 = .var (eD d))
  (hex : ∀ s : St, s.s 0 = .var (eLk { l with ws := b6a l.ws k }) /\ s.s 4 = .var [.own 1 0 [], lb false] /\ s.s 6 = li k /\ s.s 7 = .var (eD d) -> Q (.exit 0) s) : AW pg G 93 (.loop a1g) Q st := by
 refine a06 Nat (fun j st => j <= k + 1 - l.ws.length /\ st.s 0 = .var (eLk { l with ws := l.ws ++ List.replicate j dn }) /\ st.s 4 = .var [.own 1 0 [], lb false] /\ st.s 6 = li k /\ st.s 7 = .var (eD d)) (fun j => k + 1 - l.ws.length - j) 0 ⟨by omega, by simpa using h⟩ ?_
 clear h
 rintro j st K ⟨hj, h⟩ hK
 obtain ⟨v, hv⟩ : ∃ v, v = l.ws ++ List.replicate j dn := ⟨_, rfl⟩
 have hvl : v.length = l.ws.length + j := by rw [hv]; simp
 rw [<- hv] at h
 by_cases c : v.length <= k
 ·have c' : (v.length : Int) <= k := by omega
  simp only [eLk] at h
  simp (disch := omega) [go_sem, a1g, h, c, c']
  refine hK (j + 1) _ ⟨by omega, ?_⟩ (by omega)
  rw [show l.ws ++ List.replicate (j + 1) dn = v ++ [dn] by rw [hv, List.replicate_succ', List.append_assoc]]
  simp (disch := omega) [go_sem, h, eLk, a8s, a7e, dn]
 ·have c' : ¬ (v.length : Int) <= k := by omega
  simp only [eLk] at h
  simp (disch := omega) [go_sem, a1g, h, c, c']
  have e : b6a l.ws k = v := by rw [hv, b6a, show k + 1 - l.ws.length = j by omega]
  refine hex _ ?_
  rw [e]
  simp (disch := omega) [go_sem, h, eLk]
theorem c64 {l : Lk} {kk : Nat} {d : Ds} (hk8 : kk < 8) (hw : l.ws.length <= 8) (hf : d.shape.length < 2 ^ 36)
  (h0 : st.s 0 = .var (eLk l) /\ st.s 4 = .var [.own 1 0 [], lb false] /\ st.s 6 = li kk /\ st.s 7 = .var (eD d))
  (hex : ∀ s : St, s.s 0 = .var (eLk { l with keys := (b7w l.keys l.vals kk d).1, vals := (b7w l.keys l.vals kk d).2, ws := (b6a l.ws kk).set kk d }) /\ s.s 4 = .var (eD d) /\ s.s 5 = .lit .nilIface -> Q .ret s) :
  AW pg G 93 (.draw order_looker_weight_r12 [[], [0], [1], [2], [], [], [3, 4, 5, 0, 1, 2, 3, 4, 5]]) (b01 (AW pg G 93 (.seq (.block 0 (.loop a1g)) (.seq (.draw order_looker_weight_r15 [[], [0], [1], [2], [3], [], [], [6], [4, 5, 0, 1, 2, 3, 4, 5, 6, 7], [8, 7, 7, 0, 1, 2, 3, 4, 5, 6, 7]]) (.seq (.reg order_looker_weight_r16) .ret))) Q) Q) st := by
 simp only [eLk] at h0
 refine a0b ?_
 simp (disch := omega) [go_sem, h0, b1k, b1d, c5r]
 refine a0d (by decide) fun s2 hs hep => ?_
 simp (disch := omega) [go_sem, hs, hep, h0]
 refine f44 (l := { l with keys := (b7w l.keys l.vals kk d).1, vals := (b7w l.keys l.vals kk d).2 }) (k := kk) (d := d) hk8 hw (by simp (disch := omega) [go_sem, hs, hep, eLk, h0]) (fun s h => ?_)
 simp only [eLk] at h
 simp (disch := omega) [go_sem, h]
 refine a0b ?_
 simp (disch := omega) [go_sem, h, b8m]
 refine b2e ((a21 d.shape d.wide (by omega)).shown (res' := .agg [slI d.shape, lb d.wide]) (by simp (disch := omega) [go_sem])) (by simp (disch := omega) [go_sem]) (by simp (disch := omega) [go_sem, h]) (by simp (disch := omega) [go_sem, a0w, a8b]) [90] (by simp) (by simp (disch := omega) [go_sem, h]) ?_
 have hp := b8m (ws := l.ws) (k := kk)
 have hp2 : kk * 2 + 2 <= (b6a l.ws kk).length * 2 := by omega
 simp (disch := omega) [go_sem, h, hp, hp2]
 refine a0d (by decide) fun s3 hs3 hep3 => ?_
 simp (disch := omega) [go_sem, hs3, hep3, h, hp, hp2, c1q]
 refine hex _ ?_
 simp (disch := omega) [go_sem, hs3, hep3, h, hp, hp2, c1q, eLk]
theorem g0w (hS : SentO G bk) (l : Lk) (n : Nd) (hl : ∀ d ∈ l.vals, d.shape.length < 2 ^ 36) (hw : l.ws.length <= 8) (hn : n.args.length < 2 ^ 36) (hf : (a3u n.args 1).1.shape.length < 2 ^ 36) : ACallsX pg G a7l [.var (eLk l), .agg (a5u n)] (b35 bk (wtR l n.args).1) [(0, .var (eLk (wtR l n.args).2))] := by
 have h7 := hS.val 7 (by decide)
 have h3 := hS.val 3 (by decide)
 refine a57 (pins := [0]) (by kernel_rfl) rfl rfl (by simp [go_sem]) rfl ?_
 by_cases h2 : n.args.length < 2
 ·have h2' : (n.args.length : Int) < 2 := by omega
  simp (disch := omega) [go_sem, a1m, eLk, a5u, h2']
  refine a0b ?_
  simp (disch := omega) [go_sem, h7]
  refine a0d (by decide) fun s2 hs hep => ?_
  simp (disch := omega) [go_sem, hs, hep, wtR, h2, bad, dn, a0v]
 have h2' : ¬ (n.args.length : Int) < 2 := by omega
 have h0 : 0 < n.args.length := by omega
 have hg : n.args[0]! = n.args[0] := by simp [h0]
 generalize hk : n.args[0] = k at *
 by_cases z : k < 0
 ·simp (disch := omega) [go_sem, a1m, eLk, a5u, h2', h0, hk, z]
  refine a0b ?_
  simp (disch := omega) [go_sem, h3]
  refine a0d (by decide) fun s2 hs hep => ?_
  simp (disch := omega) [go_sem, hs, hep, wtR, h2, hk, z, bad, dn, a0v]
 by_cases o : 8 <= k
 ·simp (disch := omega) [go_sem, a1m, eLk, a5u, h2', h0, hk, z, o]
  refine a0b ?_
  simp (disch := omega) [go_sem, h3]
  refine a0d (by decide) fun s2 hs hep => ?_
  simp (disch := omega) [go_sem, hs, hep, wtR, h2, hk, z, o, bad, dn, a0v]
 obtain ⟨kk, rfl⟩ : ∃ kk : Nat, k = kk := ⟨k.toNat, by omega⟩
 simp (disch := omega) [go_sem, a1m, eLk, a5u, h2', h0, hk, z, o]
 refine a0m (d0h hS n.args 1 hn (by omega)) (by simp [go_sem]) (by simp (disch := omega) [go_sem]) ?_
 generalize hr : a3u n.args 1 = r at *
 obtain ⟨d, e⟩ := r
 simp only at hf
 cases he : e.isNil with
 | false =>
  simp (disch := omega) [go_sem, he, wtR, h2, hk, z, o, hr, dn]
 | true =>
  obtain rfl : e = .nil := by cases e <;> simp_all [Er.isNil]
  cases hq : c82 l.keys l.vals kk with
  | none =>
   simp (disch := omega) [go_sem, he, b0r, hq, a0g]
   refine c64 (l := l) (kk := kk) (d := d) (by omega) hw hf (by simp (disch := omega) [go_sem, eLk]) (fun s h => ?_)
   simp only [eLk] at h
   simp (disch := omega) [go_sem, h, wtR, h2, hk, z, o, hr, he, hq, a0v]
  | some was =>
   have hwas : was.shape.length < 2 ^ 36 := hl _ (c10 hq)
   simp (disch := omega) [go_sem, he, b0r, hq, a0g]
   refine a0j (a5n d was (by omega) (by omega)) rfl rfl ?_
   by_cases hd : d = was
   ·subst hd
    simp (disch := omega) [go_sem]
    refine c64 (l := l) (kk := kk) (d := d) (by omega) hw hf (by simp (disch := omega) [go_sem, eLk]) (fun s h => ?_)
    simp only [eLk] at h
    simp (disch := omega) [go_sem, h, wtR, h2, hk, z, o, hr, he, hq, a0v]
   ·simp (disch := omega) [go_sem, hd]
    refine a0b ?_
    simp (disch := omega) [go_sem, h7]
    refine a0d (by decide) fun s3 hs3 hep3 => ?_
    simp (disch := omega) [go_sem, hs3, hep3, wtR, h2, hk, z, o, hr, he, hq, hd, bad, dn, a0v]
end
end Go.Ideal.Tryd
end
section
namespace Go.Ideal.Tryd
attribute [local go_sem] eD eT eV
section
variable {G : GG} {bk : Nat -> Nat × Nat} {Q : Exit -> St -> Prop} {st : St}
theorem e4u (hS : SentO G bk) (a : Ds) (ha : a.shape.length < 2 ^ 62) : ACalls pg G c37 [.agg (eD a)] (b35 bk (b6l a)) := by
 have h7 := hS.val 7 (by decide)
 by_cases he : a08 a.shape = .nil
 ·by_cases c1 : a.shape.length = 2
  ·obtain ⟨ash, aw⟩ := a
   obtain ⟨x, y, rfl⟩ := b9c c1
   have hr : b6l ⟨[x, y], aw⟩ = (⟨[y, x], aw⟩, .nil) := by simp [b6l, chk, he, Er.isNil]
   rw [hr]
   refine ACalls.shown (res := .tup [.agg [owI [y, x], lb aw], .lit .nilIface]) ?_ rfl
   refine a7y rfl ?_
   simp (disch := omega) [go_sem, a9x]
   refine a0m (a03 hS.three [x, y] aw (by simp)) (a0t _) (by simp (disch := omega) [go_sem]) ?_
   simp (disch := omega) [go_sem, he, Er.isNil]
   refine a0b ?_
   simp (disch := omega) [go_sem]
   refine a0d (by decide) fun s2 hs2 hes2 => ?_
   simp (disch := omega) [go_sem, hs2]
  ·have c1' : ¬ (a.shape.length : Int) = 2 := by omega
   have hr : b6l a = (dn, .s 6) := by simp only [b6l, chk, he, Er.isNil, if_true, c1, if_false]; rfl
   rw [hr]
   refine a7y rfl ?_
   simp (disch := omega) [go_sem, a9x]
   refine a0m (a03 hS.three a.shape a.wide ha) (a0t _) (by simp (disch := omega) [go_sem]) ?_
   simp (disch := omega) [go_sem, he, Er.isNil, c1']
   refine a0b ?_
   simp (disch := omega) [go_sem, h7, dn, a0v]
   refine a0d (by decide) fun s2 hs2 hes2 => ?_
   simp (disch := omega) [go_sem, hs2, h7, dn, a0v]
 ·have he' := a3d he
  have hr : b6l a = (dn, a08 a.shape) := by simp only [b6l, chk, he']; rfl
  rw [hr]
  refine a7y rfl ?_
  simp (disch := omega) [go_sem, a9x]
  refine a0m (a03 hS.three a.shape a.wide ha) (a0t _) (by simp (disch := omega) [go_sem]) ?_
  simp (disch := omega) [go_sem, he', dn]
end
end Go.Ideal.Tryd
end
