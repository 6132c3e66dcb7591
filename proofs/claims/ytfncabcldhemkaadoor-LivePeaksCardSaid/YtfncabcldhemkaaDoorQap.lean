/- Part Qap of the proof: a machine with trees for values, its soundness, and walks on it. -/
import Derived.Test.YtfncabcldhemkaaDoorQao
import Derived.Test.YtfncabcldhemkaaDoorQah
set_option linter.unusedVariables false
set_option linter.unusedSimpArgs false
set_option maxHeartbeats 4000000
set_option maxRecDepth 10000
section
namespace Go.Ideal.Tryd
theorem b8t {n : Nat} {e : Int} : a3w (n + 1) e false = a3w n e false ++ [opN 8 [(n : Int)] []] := by
 simp [a3w, List.range_succ]
theorem c6e {n : Nat} {e : Int} : a3w n e true = a3w n e false ++ [opN 7 [(n : Int), 1] []] := by
 simp [a3w]
theorem c05 {n : Nat} {e : Int} {k : Bool} : ∀ x ∈ a3w n e k, x.sh /\ x.ins.length <= 2 := by
 intro x hx
 unfold a3w at hx
 simp only [List.mem_append, List.mem_cons, List.mem_map, List.mem_range] at hx
 rcases hx with (rfl | ⟨i, _, rfl⟩) | hx
 ·exact ⟨⟨by simp [inN], by simp [inN], by simp [inN], by simp [inN]⟩, by simp [inN]⟩
 ·exact ⟨⟨by simp [opN], by simp [opN], by simp [opN], by simp [opN]⟩, by simp [opN]⟩
 ·split at hx
  ·simp at hx
   subst hx
   exact ⟨⟨by simp [opN], by simp [opN], by simp [opN], by simp [opN]⟩, by simp [opN]⟩
  ·simp at hx
section
variable {G : GG} {bk : Nat -> Nat × Nat} {Q : Exit -> St -> Prop} {st : St}
theorem d0x (hS : SentO G bk) (hA : Around G bk) {n : Nat} {e : Int} {k : Bool} (hn : 2 <= n /\ n <= 60) (he : 1 <= e /\ e <= 256) : ∃ l : List Sp, ACalls pg G b6v [d5p (a5p n e k)] (.tup [owS l, li (if k = true then 3 * ((e + 3) / 4 * 4) else 2 * ((e + 3) / 4 * 4)), .lit .nilIface]) /\ l.length = (a3w n e k).length /\ l[0]!.a = -1 := by
 obtain ⟨l, h1, h2, h3⟩ := c9r (n := n) (e := e) (k := k) hn he
 have hlen := a3m (n := n) (e := e) (k := k)
 have hN : (a3w n e k).length <= 62 := by rw [hlen]; split <;> omega
 have ht : tot ((a5p n e k).nodes.map (·.ins)) <= 2 * ((a5p n e k).nodes.map (·.ins)).length := e4s (fun r hr => by
  obtain ⟨x, hx, rfl⟩ := List.mem_map.1 hr
  exact (c05 x hx).2)
 have hl2 : (a5p n e k).nodes.length = (a3w n e k).length := rfl
 rw [List.length_map, hl2] at ht
 have := f2i hS hA (a5p n e k) (fun x hx => (c05 x hx).1) (by omega) (by omega) (fun hnil => by
  obtain ⟨a1, a2, a3, a4, a5, a6, a7, a8, a9⟩ := e2t (fun x hx => (c05 x hx).1) hnil
  exact ⟨a1, a4, by omega, a6, fun d hd => by have := a7 d hd; omega⟩)
 rw [h1] at this
 refine ⟨l, ?_, h2, h3⟩
 simpa [a0v] using this
theorem c8g (h : st.s 1 = .var [.own 6 1 (fm a7r (a3w 0 3 false)), li 0] /\ st.s 2 = li 0)
  (hex : ∀ s : St, s.s 1 = .var [.own 6 7 (fm a7r (a3w 6 3 false)), li 0] -> Q (.exit 0) s) : AW pg G 35 (.loop a2g) Q st := by
 refine a06 Nat (fun j st => j <= 6 /\ st.s 1 = .var [.own 6 (j + 1) (fm a7r (a3w j 3 false)), li 0] /\ st.s 2 = li j) (fun j => 6 - j) 0 ⟨by omega, h⟩ ?_
 clear h
 rintro j st K ⟨hj, h⟩ hK
 have hlen : (a3w j 3 false).length = j + 1 := by rw [a3m]; rfl
 have ht : (fm a7r (a3w j 3 false)).take ((j + 1) * 6) = fm a7r (a3w j 3 false) := by rw [<- hlen]; exact a7s
 by_cases c : j < 6
 ·have c' : (j : Int) < 6 := by omega
  simp (disch := omega) [go_sem, a2g, h, c', ht, hlen]
  refine hK (j + 1) _ ⟨by omega, ?_⟩ (by omega)
  rw [b8t, a8s, a7e]
  simp (disch := omega) [go_sem, h, ht, hlen, a7r, opN]
 ·obtain rfl : j = 6 := by omega
  simp (disch := omega) [go_sem, a2g, h]
  exact hex _ (by simp (disch := omega) [go_sem, h])
theorem c44 (hS : SentO G bk) (hA : Around G bk) : ACalls pg G a9f [] (lb true) := by
 obtain ⟨l, h1, h2, h3⟩ := d0x hS hA (n := 6) (e := 3) (k := false) (by omega) (by omega)
 have hlen : (a3w 6 3 false).length = 7 := by rw [a3m]; rfl
 simp only [a5p, hlen] at h1
 refine a7v rfl ?_
 simp (disch := omega) [go_sem, a5v]
 refine c8g (by simp (disch := omega) [go_sem, a3w, inN, a7e, a7r]) (fun s h => ?_)
 generalize hv : fm a7r (a3w 6 3 false) = v at *
 have hz : a1n v = fm a5u (a3w 6 3 false) := by rw [<- hv]; exact b5r
 have ht : v.take 42 = v := by rw [<- hv]; exact List.take_of_length_le (by rw [c8b, hlen]; omega)
 simp (disch := omega) [go_sem, h, hz, ht]
 refine a6y h1 (by simp [go_sem, a0r]) ?_ ?_ <;> simp (disch := omega) [go_sem, h]
theorem c89 {n : Nat} {e : Int} {k : Bool} (hn : n <= 60) (h : st.s 0 = li n /\ st.s 1 = li e /\ st.s 2 = lb k /\ st.s 7 = lb true /\ st.s 8 = .var [.own 6 1 (fm a7r (a3w 0 e false)), li 0] /\ st.s 9 = li 0)
  (hex : ∀ s : St, s.s 0 = li n /\ s.s 1 = li e /\ s.s 2 = lb k /\ s.s 7 = lb true /\ s.s 8 = .var [.own 6 (n + 1) (fm a7r (a3w n e false)), li 0] -> Q (.exit 0) s) : AW pg G 107 (.loop a12) Q st := by
 refine a06 Nat (fun j st => j <= n /\ st.s 0 = li n /\ st.s 1 = li e /\ st.s 2 = lb k /\ st.s 7 = lb true /\ st.s 8 = .var [.own 6 (j + 1) (fm a7r (a3w j e false)), li 0] /\ st.s 9 = li j) (fun j => n - j) 0 ⟨by omega, h⟩ ?_
 clear h
 rintro j st K ⟨hj, h⟩ hK
 have hlen : (a3w j e false).length = j + 1 := by rw [a3m]; rfl
 have ht : (fm a7r (a3w j e false)).take ((j + 1) * 6) = fm a7r (a3w j e false) := by rw [<- hlen]; exact a7s
 by_cases c : j < n
 ·simp (disch := omega) [go_sem, a12, h, c, ht, hlen]
  refine hK (j + 1) _ ⟨by omega, ?_⟩ (by omega)
  rw [b8t, a8s, a7e]
  simp (disch := omega) [go_sem, h, ht, hlen, a7r, opN]
 ·obtain rfl : j = n := by omega
  simp (disch := omega) [go_sem, a12, h]
  exact hex _ (by simp (disch := omega) [go_sem, h])
theorem f0e {xs : List Sp} (h : 0 < xs.length) : (fm eS xs)[0]? = some (li xs[0]!.a) := by
 cases xs with
 | nil => simp at h
 | cons x xs => rfl
theorem e08 (hS : SentO G bk) (hA : Around G bk) (n e : Int) (keep : Bool) : ACalls pg G a7k [li n, li e, lb keep] (lb true) := by
 have r1 := b13 (n := n) (m := 50) (by omega)
 have r2 := b13 (n := e) (m := 100) (by omega)
 have c1 := b52 (G := G) n 50 (by omega) (by omega)
 have c2 := b52 (G := G) e 100 (by omega) (by omega)
 obtain ⟨m, hm⟩ : ∃ m : Nat, c53 n 50 + 2 = m := ⟨(c53 n 50 + 2).toNat, by omega⟩
 generalize hev : c53 e 100 + 1 = e1 at *
 obtain ⟨l, h1, h2, h3⟩ := d0x hS hA (n := m) (e := e1) (k := keep) (by omega) (by omega)
 have hlen := a3m (n := m) (e := e1) (k := keep)
 have hlen0 : (a3w m e1 false).length = m + 1 := by rw [a3m]; rfl
 refine a6j rfl ?_
 simp (disch := omega) [go_sem, a4n]
 refine a0j (c44 hS hA) rfl rfl ?_
 simp (disch := omega) [go_sem]
 refine a0j c1 rfl rfl ?_
 simp (disch := omega) [go_sem, hm]
 refine a0j c2 rfl rfl ?_
 simp (disch := omega) [go_sem, hev]
 refine c89 (n := m) (e := e1) (k := keep) (by omega) (by simp (disch := omega) [go_sem, hm, hev, a3w, inN, a7e, a7r]) (fun s h => ?_)
 have hl0 : 0 < l.length := by omega
 have h3' : l[0].a = -1 := by rw [<- a8m hl0]; exact h3
 have ho : 0 <= (e1 + 3) / 4 * 4 /\ (e1 + 3) / 4 * 4 <= 200 := by omega
 have hq : (e1 + 3).tdiv 4 = (e1 + 3) / 4 := Int.tdiv_eq_ediv_of_nonneg (by omega)
 cases keep with
 | false =>
  simp only [a5p, d5p, slN, Bool.false_eq_true, if_false, hlen0] at h1
  have e0 : (((m + 1 : Nat) : Int) - 1) = m := by omega
  rw [e0] at h1
  have hz : a1n (fm a7r (a3w m e1 false)) = fm a5u (a3w m e1 false) := b5r
  have ht : (fm a7r (a3w m e1 false)).take ((m + 1) * 6) = fm a7r (a3w m e1 false) := by rw [<- hlen0]; exact a7s
  generalize hv : fm a7r (a3w m e1 false) = v at *
  simp (disch := omega) [go_sem, h, hz, ht]
  refine a6y h1 (by simp [go_sem, a0r]) ?_ ?_ <;> simp (disch := omega) [go_sem, h, hq, hlen0, h2, hl0, f0e, h3']
 | true =>
  have hlen1 : (a3w m e1 true).length = m + 1 + 1 := by rw [a3m]; rfl
  simp only [a5p, d5p, slN, if_true, hlen1] at h1
  have e0 : (((m + 1 + 1 : Nat) : Int) - 1) = m + 1 := by omega
  rw [e0] at h1
  have hz : a1n (fm a7r (a3w m e1 true)) = fm a5u (a3w m e1 true) := b5r
  have ht0 : (fm a7r (a3w m e1 false)).take ((m + 1) * 6) = fm a7r (a3w m e1 false) := by rw [<- hlen0]; exact a7s
  have hap : fm a7r (a3w m e1 false) ++ [li 7, .own 1 2 [li m, li 1], .own 1 0 [], .own 1 0 [], lb false, .own 1 0 []] = fm a7r (a3w m e1 true) := by
   rw [c6e, a8s, a7e]; rfl
  have ht : (fm a7r (a3w m e1 true)).take ((m + 1 + 1) * 6) = fm a7r (a3w m e1 true) := by rw [<- hlen1]; exact a7s
  generalize hv : fm a7r (a3w m e1 false) = v at *
  generalize hv2 : fm a7r (a3w m e1 true) = v2 at *
  simp (disch := omega) [go_sem, h, hz, ht0, hap, ht]
  refine a6y h1 (by simp [go_sem, a0r]) ?_ ?_
  all_goals
   by_cases c3 : (m : Int) = 2
   ·simp (disch := omega) [go_sem, h, hq, hlen1, h2, hl0, f0e, h3', c3]
   ·have c4 : (2 : Int) < m := by omega
    simp (disch := omega) [go_sem, h, hq, hlen1, h2, hl0, f0e, h3', c3, c4]
end
end Go.Ideal.Tryd
end
