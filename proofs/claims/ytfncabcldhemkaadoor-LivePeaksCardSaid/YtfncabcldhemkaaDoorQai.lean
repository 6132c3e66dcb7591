/- Part Qai of the proof: a machine with trees for values, its soundness, and walks on it. -/
import Derived.Test.YtfncabcldhemkaaDoorQah
set_option linter.unusedVariables false
set_option linter.unusedSimpArgs false
set_option maxHeartbeats 8000000
set_option maxRecDepth 200000
section
namespace Go.Ideal.Tryd
attribute [local go_sem] eD eT eV
section
variable {G : GG} {bk : Nat -> Nat × Nat} {Q : Exit -> St -> Prop} {st : St}
theorem wq {x y : Int} (h : 0 <= x /\ 1 <= y /\ x < 4611686018427387904) : IntKind.i64.wrap (IntKind.i64.wrap (x.tdiv y) + 1) = x / y + 1 := by
 have h1 := Int.ediv_nonneg h.1 (by omega : 0 <= y)
 have h2 := Int.ediv_le_self y h.1
 rw [Int.tdiv_eq_ediv_of_nonneg h.1, a78 (n := x / y) (by omega), a78 (by omega)]
theorem b0i {sh : List Int} (h : a08 sh = .nil) : ∀ x ∈ sh, 1 <= x /\ x <= 256 := by
 have := a6z.1 h
 simp only [c08, Bool.and_eq_true, List.all_eq_true, a5q, decide_eq_true_eq] at this
 intro x hx
 exact this.1.2 x hx
theorem d0v (hS : SentO G bk) (p q : Int) (a : Ds) (ha : a.shape.length < 2 ^ 62) : ACalls pg G b5b [slI [p, q], .agg (eD a)] (b35 bk (b8q [p, q] a)) := by
 have h7 := hS.val 7 (by decide)
 have h3 := hS.val 3 (by decide)
 by_cases he : a08 a.shape = .nil
 ·have hr : b8q [p, q] a = (if a.shape.length = 3 then
   (if 1 <= p /\ p <= 16 /\ 1 <= q /\ q <= 16 then
    (if 0 <= a.shape[0]! - p /\ 0 <= a.shape[1]! - p then
     (⟨[(a.shape[0]! - p) / q + 1, (a.shape[1]! - p) / q + 1, a.shape[2]!], a.wide⟩, .nil) else bad 6) else bad 3) else bad 6) := by simp [b8q, chk, he, Er.isNil]
  rw [hr]
  clear hr
  by_cases c1 : a.shape.length = 3
  ·obtain ⟨ash, aw⟩ := a
   obtain ⟨x, y, z, rfl⟩ := e65 c1
   have hd : a08 [x, y, z] = .nil := he
   have hx := b0i hd x (by simp)
   have hy := b0i hd y (by simp)
   by_cases p1 : p < 1
   ·rw [if_pos (by simp), if_neg (by omega)]
    refine a1c rfl ?_
    simp (disch := omega) [go_sem, a1k]
    refine a0m (a03 hS.three [x, y, z] aw (by simp)) (a0t _) (by simp (disch := omega) [go_sem]) ?_
    simp (disch := omega) [go_sem, hd, Er.isNil]
    refine a0b ?_
    simp (disch := omega) [go_sem]
    refine a0d (by decide) fun s2 hs2 hes2 => ?_
    simp (disch := omega) [go_sem, hs2, p1]
    refine a0b ?_
    simp (disch := omega) [go_sem, hs2, h3, bad, dn, a0v]
    refine a0d (by decide) fun s4 hs4 hes4 => ?_
    simp (disch := omega) [go_sem, hs4, hs2, h3, bad, dn, a0v]
   by_cases p2 : 16 < p
   ·rw [if_pos (by simp), if_neg (by omega)]
    refine a1c rfl ?_
    simp (disch := omega) [go_sem, a1k]
    refine a0m (a03 hS.three [x, y, z] aw (by simp)) (a0t _) (by simp (disch := omega) [go_sem]) ?_
    simp (disch := omega) [go_sem, hd, Er.isNil]
    refine a0b ?_
    simp (disch := omega) [go_sem]
    refine a0d (by decide) fun s2 hs2 hes2 => ?_
    simp (disch := omega) [go_sem, hs2, p1, p2]
    refine a0b ?_
    simp (disch := omega) [go_sem, hs2, h3, bad, dn, a0v]
    refine a0d (by decide) fun s4 hs4 hes4 => ?_
    simp (disch := omega) [go_sem, hs4, hs2, h3, bad, dn, a0v]
   by_cases p3 : q < 1
   ·rw [if_pos (by simp), if_neg (by omega)]
    refine a1c rfl ?_
    simp (disch := omega) [go_sem, a1k]
    refine a0m (a03 hS.three [x, y, z] aw (by simp)) (a0t _) (by simp (disch := omega) [go_sem]) ?_
    simp (disch := omega) [go_sem, hd, Er.isNil]
    refine a0b ?_
    simp (disch := omega) [go_sem]
    refine a0d (by decide) fun s2 hs2 hes2 => ?_
    simp (disch := omega) [go_sem, hs2, p1, p2, p3]
    refine a0b ?_
    simp (disch := omega) [go_sem, hs2, h3, bad, dn, a0v]
    refine a0d (by decide) fun s4 hs4 hes4 => ?_
    simp (disch := omega) [go_sem, hs4, hs2, h3, bad, dn, a0v]
   by_cases p4 : 16 < q
   ·rw [if_pos (by simp), if_neg (by omega)]
    refine a1c rfl ?_
    simp (disch := omega) [go_sem, a1k]
    refine a0m (a03 hS.three [x, y, z] aw (by simp)) (a0t _) (by simp (disch := omega) [go_sem]) ?_
    simp (disch := omega) [go_sem, hd, Er.isNil]
    refine a0b ?_
    simp (disch := omega) [go_sem]
    refine a0d (by decide) fun s2 hs2 hes2 => ?_
    simp (disch := omega) [go_sem, hs2, p1, p2, p3, p4]
    refine a0b ?_
    simp (disch := omega) [go_sem, hs2, h3, bad, dn, a0v]
    refine a0d (by decide) fun s4 hs4 hes4 => ?_
    simp (disch := omega) [go_sem, hs4, hs2, h3, bad, dn, a0v]
   by_cases p5 : x - p < 0
   ·rw [if_pos (by simp), if_pos (by omega), if_neg (by simp; omega)]
    refine a1c rfl ?_
    simp (disch := omega) [go_sem, a1k]
    refine a0m (a03 hS.three [x, y, z] aw (by simp)) (a0t _) (by simp (disch := omega) [go_sem]) ?_
    simp (disch := omega) [go_sem, hd, Er.isNil]
    refine a0b ?_
    simp (disch := omega) [go_sem]
    refine a0d (by decide) fun s2 hs2 hes2 => ?_
    simp (disch := omega) [go_sem, hs2, p1, p2, p3, p4]
    refine a0b ?_
    simp (disch := omega) [go_sem, hs2]
    refine a0d (by decide) fun s4 hs4 hes4 => ?_
    simp (disch := omega) [go_sem, hs4, hs2, p5]
    refine a0b ?_
    simp (disch := omega) [go_sem, hs4, hs2, h7, bad, dn, a0v]
    refine a0d (by decide) fun s6 hs6 hes6 => ?_
    simp (disch := omega) [go_sem, hs6, hs4, hs2, h7, bad, dn, a0v]
   by_cases p6 : y - p < 0
   ·rw [if_pos (by simp), if_pos (by omega), if_neg (by simp; omega)]
    refine a1c rfl ?_
    simp (disch := omega) [go_sem, a1k]
    refine a0m (a03 hS.three [x, y, z] aw (by simp)) (a0t _) (by simp (disch := omega) [go_sem]) ?_
    simp (disch := omega) [go_sem, hd, Er.isNil]
    refine a0b ?_
    simp (disch := omega) [go_sem]
    refine a0d (by decide) fun s2 hs2 hes2 => ?_
    simp (disch := omega) [go_sem, hs2, p1, p2, p3, p4]
    refine a0b ?_
    simp (disch := omega) [go_sem, hs2]
    refine a0d (by decide) fun s4 hs4 hes4 => ?_
    simp (disch := omega) [go_sem, hs4, hs2, p5, p6]
    refine a0b ?_
    simp (disch := omega) [go_sem, hs4, hs2, h7, bad, dn, a0v]
    refine a0d (by decide) fun s6 hs6 hes6 => ?_
    simp (disch := omega) [go_sem, hs6, hs4, hs2, h7, bad, dn, a0v]
   rw [if_pos (by simp), if_pos (by omega), if_pos (by simp; omega)]
   refine ACalls.shown (res := .tup [.agg [owI [(x - p) / q + 1, (y - p) / q + 1, z], lb aw], .lit .nilIface]) ?_ (by simp [go_sem, frz, a1n, owI]; rfl)
   refine a1c rfl ?_
   simp (disch := omega) [go_sem, a1k]
   refine a0m (a03 hS.three [x, y, z] aw (by simp)) (a0t _) (by simp (disch := omega) [go_sem]) ?_
   simp (disch := omega) [go_sem, hd, Er.isNil]
   refine a0b ?_
   simp (disch := omega) [go_sem]
   refine a0d (by decide) fun s2 hs2 hes2 => ?_
   simp (disch := omega) [go_sem, hs2, p1, p2, p3, p4]
   refine a0b ?_
   simp (disch := omega) [go_sem, hs2]
   refine a0d (by decide) fun s4 hs4 hes4 => ?_
   simp (disch := omega) [go_sem, hs4, hs2, p5, p6]
   refine a0b ?_
   simp (disch := omega) [go_sem, hs4, hs2, a7g]
   refine a0d (by decide) fun s6 hs6 hes6 => ?_
   simp (disch := omega) [go_sem, hs6, hs4, hs2, a7g, wq (x := x - p) (y := q) (by omega), wq (x := y - p) (y := q) (by omega)]
  ·have c1' : ¬ (a.shape.length : Int) = 3 := by omega
   rw [if_neg c1]
   refine a1c rfl ?_
   simp (disch := omega) [go_sem, a1k]
   refine a0m (a03 hS.three a.shape a.wide ha) (a0t _) (by simp (disch := omega) [go_sem]) ?_
   simp (disch := omega) [go_sem, he, Er.isNil, c1']
   refine a0b ?_
   simp (disch := omega) [go_sem, h7, bad, dn, a0v]
   refine a0d (by decide) fun s2 hs2 hes2 => ?_
   simp (disch := omega) [go_sem, hs2, h7, bad, dn, a0v]
 ·have he' := a3d he
  have hr : b8q [p, q] a = (dn, a08 a.shape) := by simp only [b8q, chk, he']; rfl
  rw [hr]
  refine a1c rfl ?_
  simp (disch := omega) [go_sem, a1k]
  refine a0m (a03 hS.three a.shape a.wide ha) (a0t _) (by simp (disch := omega) [go_sem]) ?_
  simp (disch := omega) [go_sem, he', dn]
end
end Go.Ideal.Tryd
end
section
namespace Go.Ideal.Tryd
attribute [local go_sem] eD eT eV
section
variable {G : GG} {bk : Nat -> Nat × Nat} {Q : Exit -> St -> Prop} {st : St}
theorem d1p (hS : Sent3 G bk) {args : List Int} {a b : Ds} (ha : (a.shape).length < 2 ^ 62) (hb : (b.shape).length < 2 ^ 62)
  (h : st.s 0 = slI args /\ st.s 4 = .var (eD a) /\ st.s 5 = .var (eD b) /\ st.s 6 = zD /\ st.s 7 = .lit .nilIface /\ st.s 25 = .own 2 2 [slI a.shape, lb a.wide, slI b.shape, lb b.wide] /\ st.s 26 = li 2 /\ st.s 27 = li 0)
  (hbad : ∀ e : Er, e ≠ .nil -> b34 args a b = (dn, e) -> ∀ s, s.s 6 = .var [.sl 0 [], lb false] /\ s.s 7 = a0v bk e -> Q .ret s)
  (hex : a08 (a.shape) = .nil -> a08 (b.shape) = .nil -> ∀ s, s.s 0 = slI args /\ s.s 4 = .var (eD a) /\ s.s 5 = .var (eD b) /\ s.s 6 = zD /\ s.s 7 = .lit .nilIface -> Q (.exit 0) s) : AW pg G 153 (.loop a3f) Q st := by
 refine a06 Nat (fun i st => i <= 2 /\ (1 <= i -> a08 (a.shape) = .nil) /\ (2 <= i -> a08 (b.shape) = .nil) /\ st.s 0 = slI args /\ st.s 4 = .var (eD a) /\ st.s 5 = .var (eD b) /\ st.s 6 = zD /\ st.s 7 = .lit .nilIface /\ st.s 25 = .own 2 2 [slI a.shape, lb a.wide, slI b.shape, lb b.wide] /\ st.s 26 = li 2 /\ st.s 27 = li i) (fun i => 2 - i) 0 ⟨by omega, by omega, by omega, h⟩ ?_
 clear h
 rintro i st K ⟨hi, h1, h2, h⟩ hK
 obtain rfl | rfl | rfl : i = 0 \/ i = 1 \/ i = 2 := by omega
 ·simp (disch := omega) [go_sem, a3f, h]
  refine a0m (a03 hS (a.shape) a.wide ha) (a0t _) (by simp (disch := omega) [go_sem, h]) ?_
  by_cases he : a08 (a.shape) = .nil
  ·simp (disch := omega) [go_sem, h, he, Er.isNil]
   refine hK 1 _ ⟨by omega, fun _ => he, by omega, by simp (disch := omega) [go_sem, h]⟩ (by omega)
  ·have he' := a3d he
   simp (disch := omega) [go_sem, h, he']
   exact hbad _ he (by simp only [b34, chk, he']; rfl) _ (by simp (disch := omega) [go_sem, h])
 ·simp (disch := omega) [go_sem, a3f, h]
  have ea := h1 (by omega)
  refine a0m (a03 hS (b.shape) b.wide hb) (a0t _) (by simp (disch := omega) [go_sem, h]) ?_
  by_cases he : a08 (b.shape) = .nil
  ·simp (disch := omega) [go_sem, h, he, Er.isNil]
   refine hK 2 _ ⟨by omega, fun _ => ea, fun _ => he, by simp (disch := omega) [go_sem, h]⟩ (by omega)
  ·have he' := a3d he
   simp (disch := omega) [go_sem, h, he']
   exact hbad _ he (by simp only [b34, chk, he', ea, Er.isNil]; rfl) _ (by simp (disch := omega) [go_sem, h])
 ·simp (disch := omega) [go_sem, a3f, h]
  exact hex (h1 (by omega)) (h2 (by omega)) _ (by simp (disch := omega) [go_sem, h])
theorem d1o (hS : SentO G bk) (p q za : Int) (a b : Ds) (ha : a.shape.length < 2 ^ 62) (hb : b.shape.length < 2 ^ 62) : ACalls pg G b49 [slI [p, q, za], .agg (eD a), .agg (eD b)] (b35 bk (b34 [p, q, za] a b)) := by
 have h7 := hS.val 7 (by decide)
 have h3 := hS.val 3 (by decide)
 have hz : decide (max (min za 127) (-128) = za) = a2p za := by
  rw [a2p, <- Bool.decide_and]; exact decide_eq_decide.2 (by omega)
 refine b1q rfl ?_
 simp (disch := omega) [go_sem, a9o, a7g, a0g]
 refine d1p hS.three (args := [p, q, za]) (a := a) (b := b) ha hb (by simp (disch := omega) [go_sem]) (fun e he hm s h => ?_) (fun ea eb s h => ?_)
 ·rw [hm]
  simp (disch := omega) [go_sem, h, dn]
 have hbd : ¬ (a.shape.length = 3 /\ b.shape.length = 4 /\ a.shape[2]! = b.shape[2]! /\ a.wide = false /\ b.wide = false) -> b34 [p, q, za] a b = (dn, .s 6) := fun k => by
  simp only [b34, chk, ea, eb, Er.isNil, if_true, k, if_false]; rfl
 by_cases c1 : a.shape.length = 3
 ·obtain ⟨ash, aw⟩ := a
  obtain ⟨x, y, z, rfl⟩ := e65 c1
  by_cases c2 : b.shape.length = 4
  ·obtain ⟨bsh, bw⟩ := b
   obtain ⟨u, v, w, o, rfl⟩ := g0c c2
   by_cases c3 : z = w
   ·cases aw
    ·cases bw
     ·have hgd : b34 [p, q, za] ⟨[x, y, z], false⟩ ⟨[u, v, w, o], false⟩ = 
       (if 1 <= p /\ p <= 16 /\ 0 <= q /\ q <= 15 /\ a2p za = true then
        (if 0 <= x + 2 * q - u /\ 0 <= y + 2 * q - v then
         b3j [(x + 2 * q - u) / p + 1, (y + 2 * q - v) / p + 1, o] true else bad 6) else bad 3) := by
       simp only [b34, chk, ea, eb, Er.isNil, if_true]; simp [c3]
      rw [hgd]
      clear hgd hbd
      have hx := b0i ea x (by simp)
      have hy := b0i ea y (by simp)
      have hu := b0i eb u (by simp)
      have hv := b0i eb v (by simp)
      simp (disch := omega) [go_sem, h]
      by_cases p1 : p < 1
      ·rw [if_neg (by omega)]
       refine a0b ?_
       simp (disch := omega) [go_sem, h, c3]
       refine a0d (by decide) fun s2 hs2 hes2 => ?_
       simp (disch := omega) [go_sem, hs2, h, c3]
       refine a0b ?_
       simp (disch := omega) [go_sem, hs2, h]
       refine a0d (by decide) fun s3 hs3 hes3 => ?_
       simp (disch := omega) [go_sem, hs3, hs2, h, p1]
       refine a0b ?_
       simp (disch := omega) [go_sem, hs3, hs2, h, h3, bad, dn, a0v]
       refine a0d (by decide) fun s4 hs4 hes4 => ?_
       simp (disch := omega) [go_sem, hs4, hs3, hs2, h, h3, bad, dn, a0v]
      by_cases p2 : 16 < p
      ·rw [if_neg (by omega)]
       refine a0b ?_
       simp (disch := omega) [go_sem, h, c3]
       refine a0d (by decide) fun s2 hs2 hes2 => ?_
       simp (disch := omega) [go_sem, hs2, h, c3]
       refine a0b ?_
       simp (disch := omega) [go_sem, hs2, h]
       refine a0d (by decide) fun s3 hs3 hes3 => ?_
       simp (disch := omega) [go_sem, hs3, hs2, h, p1, p2]
       refine a0b ?_
       simp (disch := omega) [go_sem, hs3, hs2, h, h3, bad, dn, a0v]
       refine a0d (by decide) fun s4 hs4 hes4 => ?_
       simp (disch := omega) [go_sem, hs4, hs3, hs2, h, h3, bad, dn, a0v]
      by_cases p3 : q < 0
      ·rw [if_neg (by omega)]
       refine a0b ?_
       simp (disch := omega) [go_sem, h, c3]
       refine a0d (by decide) fun s2 hs2 hes2 => ?_
       simp (disch := omega) [go_sem, hs2, h, c3]
       refine a0b ?_
       simp (disch := omega) [go_sem, hs2, h]
       refine a0d (by decide) fun s3 hs3 hes3 => ?_
       simp (disch := omega) [go_sem, hs3, hs2, h, p1, p2, p3]
       refine a0b ?_
       simp (disch := omega) [go_sem, hs3, hs2, h, h3, bad, dn, a0v]
       refine a0d (by decide) fun s4 hs4 hes4 => ?_
       simp (disch := omega) [go_sem, hs4, hs3, hs2, h, h3, bad, dn, a0v]
      by_cases p4 : 15 < q
      ·rw [if_neg (by omega)]
       refine a0b ?_
       simp (disch := omega) [go_sem, h, c3]
       refine a0d (by decide) fun s2 hs2 hes2 => ?_
       simp (disch := omega) [go_sem, hs2, h, c3]
       refine a0b ?_
       simp (disch := omega) [go_sem, hs2, h]
       refine a0d (by decide) fun s3 hs3 hes3 => ?_
       simp (disch := omega) [go_sem, hs3, hs2, h, p1, p2, p3, p4]
       refine a0b ?_
       simp (disch := omega) [go_sem, hs3, hs2, h, h3, bad, dn, a0v]
       refine a0d (by decide) fun s4 hs4 hes4 => ?_
       simp (disch := omega) [go_sem, hs4, hs3, hs2, h, h3, bad, dn, a0v]
      refine a0b ?_
      simp (disch := omega) [go_sem, h, c3]
      refine a0d (by decide) fun s2 hs2 hes2 => ?_
      simp (disch := omega) [go_sem, hs2, h, c3]
      refine a0b ?_
      simp (disch := omega) [go_sem, hs2, h]
      refine a0d (by decide) fun s3 hs3 hes3 => ?_
      simp (disch := omega) [go_sem, hs3, hs2, h, p1, p2, p3, p4]
      refine a0j (b8b za) rfl rfl ?_
      cases hn : a2p za
      ·rw [if_neg (by simp)]
       simp (disch := omega) [go_sem, hs3, hs2, h, hz, hn]
       refine a0b ?_
       simp (disch := omega) [go_sem, hs3, hs2, h, h3, bad, dn, a0v]
       refine a0d (by decide) fun s4 hs4 hes4 => ?_
       simp (disch := omega) [go_sem, hs4, hs3, hs2, h, h3, bad, dn, a0v]
      rw [if_pos ⟨by omega, by omega, by omega, by omega, rfl⟩]
      simp (disch := omega) [go_sem, hs3, hs2, h, hz, hn]
      by_cases p5 : x + 2 * q - u < 0
      ·rw [if_neg (by omega)]
       refine a0b ?_
       simp (disch := omega) [go_sem, hs3, hs2, h]
       refine a0d (by decide) fun s5 hs5 hes5 => ?_
       simp (disch := omega) [go_sem, hs5, hs3, hs2, h, p5]
       refine a0b ?_
       simp (disch := omega) [go_sem, hs5, hs3, hs2, h, h7, bad, dn, a0v]
       refine a0d (by decide) fun s6 hs6 hes6 => ?_
       simp (disch := omega) [go_sem, hs6, hs5, hs3, hs2, h, h7, bad, dn, a0v]
      by_cases p6 : y + 2 * q - v < 0
      ·rw [if_neg (by omega)]
       refine a0b ?_
       simp (disch := omega) [go_sem, hs3, hs2, h]
       refine a0d (by decide) fun s5 hs5 hes5 => ?_
       simp (disch := omega) [go_sem, hs5, hs3, hs2, h, p5, p6]
       refine a0b ?_
       simp (disch := omega) [go_sem, hs5, hs3, hs2, h, h7, bad, dn, a0v]
       refine a0d (by decide) fun s6 hs6 hes6 => ?_
       simp (disch := omega) [go_sem, hs6, hs5, hs3, hs2, h, h7, bad, dn, a0v]
      rw [if_pos (by omega)]
      refine a0b ?_
      simp (disch := omega) [go_sem, hs3, hs2, h]
      refine a0d (by decide) fun s5 hs5 hes5 => ?_
      simp (disch := omega) [go_sem, hs5, hs3, hs2, h, p5, p6]
      have w1 := wq (x := x + 2 * q - u) (y := p) (by omega)
      have w2 := wq (x := y + 2 * q - v) (y := p) (by omega)
      refine a0b ?_
      simp (disch := omega) [go_sem, hs5, hs3, hs2, h, a7g, a0g, w1, w2]
      refine a0d (by decide) fun s6 hs6 hes6 => ?_
      simp (disch := omega) [go_sem, hs6, hs5, hs3, hs2, h, a7g, a0g, w1, w2]
      refine a0m (a03 hS.three [(x + 2 * q - u) / p + 1, (y + 2 * q - v) / p + 1, o] true (by simp)) (a0t _) (by simp (disch := omega) [go_sem, hs6, hs5, hs3, hs2, h]) ?_
      by_cases he : a08 [(x + 2 * q - u) / p + 1, (y + 2 * q - v) / p + 1, o] = .nil
      ·simp (disch := omega) [go_sem, hs6, hs5, hs3, hs2, h, he, Er.isNil, b3j, chk, a0v]
      ·have he' := a3d he
       simp (disch := omega) [go_sem, hs6, hs5, hs3, hs2, h, he', b3j, chk, dn]
     ·
      rw [hbd (by simp)]
      simp (disch := omega) [go_sem, h]
      refine a0b ?_
      simp (disch := omega) [go_sem, h, c3]
      refine a0d (by decide) fun s2 hs2 hes2 => ?_
      simp (disch := omega) [go_sem, hs2, h, c3]
      refine a0b ?_
      simp (disch := omega) [go_sem, hs2, h, h7, dn, a0v]
      refine a0d (by decide) fun s3 hs3 hes3 => ?_
      simp (disch := omega) [go_sem, hs3, hs2, h, h7, dn, a0v]
    ·
     rw [hbd (by simp)]
     simp (disch := omega) [go_sem, h]
     refine a0b ?_
     simp (disch := omega) [go_sem, h, c3]
     refine a0d (by decide) fun s2 hs2 hes2 => ?_
     simp (disch := omega) [go_sem, hs2, h, c3]
     refine a0b ?_
     simp (disch := omega) [go_sem, hs2, h, h7, dn, a0v]
     refine a0d (by decide) fun s3 hs3 hes3 => ?_
     simp (disch := omega) [go_sem, hs3, hs2, h, h7, dn, a0v]
   ·
    rw [hbd (by simp [c3])]
    simp (disch := omega) [go_sem, h]
    refine a0b ?_
    simp (disch := omega) [go_sem, h, c3]
    refine a0d (by decide) fun s2 hs2 hes2 => ?_
    simp (disch := omega) [go_sem, hs2, h, c3]
    refine a0b ?_
    simp (disch := omega) [go_sem, hs2, h, h7, dn, a0v]
    refine a0d (by decide) fun s3 hs3 hes3 => ?_
    simp (disch := omega) [go_sem, hs3, hs2, h, h7, dn, a0v]
  ·have c2' : ¬ (b.shape.length : Int) = 4 := by omega
   rw [hbd (fun k => c2 k.2.1)]
   simp (disch := omega) [go_sem, h]
   refine a0b ?_
   simp (disch := omega) [go_sem, h, c2']
   refine a0d (by decide) fun s2 hs2 hes2 => ?_
   simp (disch := omega) [go_sem, hs2, h, c2']
   refine a0b ?_
   simp (disch := omega) [go_sem, hs2, h, h7, dn, a0v]
   refine a0d (by decide) fun s3 hs3 hes3 => ?_
   simp (disch := omega) [go_sem, hs3, hs2, h, h7, dn, a0v]
 ·have c1' : ¬ (a.shape.length : Int) = 3 := by omega
  rw [hbd (fun k => c1 k.1)]
  simp (disch := omega) [go_sem, h]
  refine a0b ?_
  simp (disch := omega) [go_sem, h, c1']
  refine a0d (by decide) fun s2 hs2 hes2 => ?_
  simp (disch := omega) [go_sem, hs2, h, c1']
  refine a0b ?_
  simp (disch := omega) [go_sem, hs2, h, h7, dn, a0v]
  refine a0d (by decide) fun s3 hs3 hes3 => ?_
  simp (disch := omega) [go_sem, hs3, hs2, h, h7, dn, a0v]
end
end Go.Ideal.Tryd
end
section
namespace Go.Ideal.Tryd
attribute [local go_sem] eD eT eV
section
variable {G : GG} {bk : Nat -> Nat × Nat} {Q : Exit -> St -> Prop} {st : St}
theorem d3g (hS : Sent3 G bk) {args : List Int} {a : Ds} (ha : (a.shape).length < 2 ^ 62) (hb : (args).length < 2 ^ 62)
  (h : st.s 0 = slI args /\ st.s 3 = .var (eD a) /\ st.s 6 = .var [slI args, lb a.wide] /\ st.s 4 = zD /\ st.s 5 = .lit .nilIface /\ st.s 17 = .own 2 2 [slI a.shape, lb a.wide, slI args, lb a.wide] /\ st.s 18 = li 2 /\ st.s 19 = li 0)
  (hbad : ∀ e : Er, e ≠ .nil -> a5x args a = (dn, e) -> ∀ s, s.s 4 = .var [.sl 0 [], lb false] /\ s.s 5 = a0v bk e -> Q .ret s)
  (hex : a08 (a.shape) = .nil -> a08 (args) = .nil -> ∀ s, s.s 0 = slI args /\ s.s 3 = .var (eD a) /\ s.s 6 = .var [slI args, lb a.wide] /\ s.s 4 = zD /\ s.s 5 = .lit .nilIface -> Q (.exit 0) s) : AW pg G 39 (.loop a31) Q st := by
 refine a06 Nat (fun i st => i <= 2 /\ (1 <= i -> a08 (a.shape) = .nil) /\ (2 <= i -> a08 (args) = .nil) /\ st.s 0 = slI args /\ st.s 3 = .var (eD a) /\ st.s 6 = .var [slI args, lb a.wide] /\ st.s 4 = zD /\ st.s 5 = .lit .nilIface /\ st.s 17 = .own 2 2 [slI a.shape, lb a.wide, slI args, lb a.wide] /\ st.s 18 = li 2 /\ st.s 19 = li i) (fun i => 2 - i) 0 ⟨by omega, by omega, by omega, h⟩ ?_
 clear h
 rintro i st K ⟨hi, h1, h2, h⟩ hK
 obtain rfl | rfl | rfl : i = 0 \/ i = 1 \/ i = 2 := by omega
 ·simp (disch := omega) [go_sem, a31, h]
  refine a0m (a03 hS (a.shape) a.wide ha) (a0t _) (by simp (disch := omega) [go_sem, h]) ?_
  by_cases he : a08 (a.shape) = .nil
  ·simp (disch := omega) [go_sem, h, he, Er.isNil]
   refine hK 1 _ ⟨by omega, fun _ => he, by omega, by simp (disch := omega) [go_sem, h]⟩ (by omega)
  ·have he' := a3d he
   simp (disch := omega) [go_sem, h, he']
   exact hbad _ he (by simp only [a5x, chk, he']; rfl) _ (by simp (disch := omega) [go_sem, h])
 ·simp (disch := omega) [go_sem, a31, h]
  have ea := h1 (by omega)
  refine a0m (a03 hS (args) a.wide hb) (a0t _) (by simp (disch := omega) [go_sem, h]) ?_
  by_cases he : a08 (args) = .nil
  ·simp (disch := omega) [go_sem, h, he, Er.isNil]
   refine hK 2 _ ⟨by omega, fun _ => ea, fun _ => he, by simp (disch := omega) [go_sem, h]⟩ (by omega)
  ·have he' := a3d he
   simp (disch := omega) [go_sem, h, he']
   exact hbad _ he (by simp only [a5x, chk, he', ea, Er.isNil]; rfl) _ (by simp (disch := omega) [go_sem, h])
 ·simp (disch := omega) [go_sem, a31, h]
  exact hex (h1 (by omega)) (h2 (by omega)) _ (by simp (disch := omega) [go_sem, h])
theorem e3j (hS : SentO G bk) (args : List Int) (a : Ds) (ha : a.shape.length < 2 ^ 40) (hb : args.length < 2 ^ 40) : ACalls pg G b60 [slI args, .agg (eD a)] (b35 bk (a5x args a)) := by
 have h7 := hS.val 7 (by decide)
 refine b24 rfl ?_
 simp (disch := omega) [go_sem, b1h]
 refine a0b ?_
 simp (disch := omega) [go_sem]
 refine a02 (b2d args hb) rfl (by simp only [a0x, a04, a2c, Bool.and_true]) (by simp) [11] (by simp) (by simp (disch := omega) [go_sem]) ?_
 simp (disch := omega) [go_sem]
 refine a0d (by decide) fun s2 hs2 he2 => ?_
 simp (disch := omega) [go_sem, hs2, a7g, a0g]
 refine d3g hS.three (args := args) (a := a) (by omega) (by omega) (by simp (disch := omega) [go_sem, hs2]) (fun e he hm s h => ?_) (fun ea eb s h => ?_)
 ·rw [hm]
  simp (disch := omega) [go_sem, h, dn]
 simp (disch := omega) [go_sem, h]
 refine a0j (b10 hS.three a.shape (by omega)) rfl rfl ?_
 simp (disch := omega) [go_sem, h]
 refine a0j (b10 hS.three args (by omega)) rfl rfl ?_
 by_cases hq : a5h a.shape = a5h args
 ·simp (disch := omega) [go_sem, h, hq, a5x, chk, ea, eb, Er.isNil, a0v]
 ·simp (disch := omega) [go_sem, h, hq]
  refine a0b ?_
  simp (disch := omega) [go_sem, h, h7]
  refine a0d (by decide) fun s3 hs3 he3 => ?_
  simp (disch := omega) [go_sem, hs3, h, h7, hq, a5x, chk, ea, eb, Er.isNil, a0v, bad, dn]
end
end Go.Ideal.Tryd
end
section
namespace Go.Ideal.Tryd
attribute [local go_sem] eD eT eV
section
variable {G : GG} {bk : Nat -> Nat × Nat} {Q : Exit -> St -> Prop} {st : St}
theorem sl1 (a : Ds) : slD [a] = .sl 1 [slI a.shape, lb a.wide] := rfl
theorem sl2 (a b : Ds) : slD [a, b] = .sl 2 [slI a.shape, lb a.wide, slI b.shape, lb b.wide] := rfl
theorem d2r (a b : Ds) (ha : a.shape.length < 2 ^ 40) (hb : b.shape.length < 2 ^ 40) : ACalls pg G a5r [li 16, slD [a, b]] (.tup [.agg (eD (a3a 16 [a, b]).1), lb (a3a 16 [a, b]).2]) := by
 have hr : a3a 16 [a, b] = (a, decide (0 < a.shape.length /\ a.wide = false /\ b = ⟨[256], true⟩)) := rfl
 rw [hr, sl2]
 refine ACalls.shown (res := .tup [.agg [owI a.shape, lb a.wide], lb (decide (0 < a.shape.length /\ a.wide = false /\ b = ⟨[256], true⟩))]) ?_ (by simp [go_sem, frz, a1n, owI])
 refine a11 rfl ?_
 simp (disch := omega) [go_sem, a2f]
 refine a0j (a21 a.shape a.wide ha) rfl (by simp only [owI, a0x, a04, a2c, Bool.and_true]) ?_
 by_cases c1 : 0 < a.shape.length
 ·cases hw : a.wide
  ·simp (disch := omega) [go_sem, c1, hw, a7g, a0g]
   refine a0j (a5n b ⟨[256], true⟩ (by omega) (by simp)) rfl rfl ?_
   simp (disch := omega) [go_sem, c1, hw]
  ·simp (disch := omega) [go_sem, c1, hw]
 ·simp (disch := omega) [go_sem, c1]
theorem d2s (a b : Ds) (ha : a.shape.length < 2 ^ 40) (hb : b.shape.length < 2 ^ 40) : ACalls pg G a5r [li 17, slD [a, b]] (.tup [.agg (eD (a3a 17 [a, b]).1), lb (a3a 17 [a, b]).2]) := by
 have hr : a3a 17 [a, b] = (if a.shape.length = 2 /\ b.shape.length = 1 /\ b.wide = true then (⟨[b.shape[0]!, a.shape[1]!], a.wide⟩, true) else (dn, false)) := rfl
 rw [hr, sl2]
 by_cases c1 : a.shape.length = 2
 ·by_cases c2 : b.shape.length = 1
  ·cases hw : b.wide
   ·rw [if_neg (by simp)]
    have c1' : (a.shape.length : Int) = 2 := by omega
    have c2' : (b.shape.length : Int) = 1 := by omega
    refine a11 rfl ?_
    simp (disch := omega) [go_sem, a2f, c1', c2', hw, dn]
   ·rw [if_pos ⟨c1, c2, rfl⟩]
    obtain ⟨ash, aw⟩ := a
    obtain ⟨x, y, rfl⟩ := b9c c1
    obtain ⟨bsh, bw⟩ := b
    obtain ⟨z, rfl⟩ := c3z c2
    obtain rfl : bw = true := hw
    refine ACalls.shown (res := .tup [.agg [owI [z, y], lb aw], lb true]) ?_ (by simp [go_sem, frz, a1n, owI])
    refine a11 rfl ?_
    simp (disch := omega) [go_sem, a2f]
    refine a0b ?_
    simp (disch := omega) [go_sem, a7g, a0g]
    refine a0d (by decide) fun s2 hs2 hes2 => ?_
    simp (disch := omega) [go_sem, hs2, a7g, a0g]
  ·rw [if_neg (by simp [c2])]
   have c1' : (a.shape.length : Int) = 2 := by omega
   have c2' : ¬ (b.shape.length : Int) = 1 := by omega
   refine a11 rfl ?_
   simp (disch := omega) [go_sem, a2f, c1', c2', dn]
 ·rw [if_neg (by simp [c1])]
  have c1' : ¬ (a.shape.length : Int) = 2 := by omega
  refine a11 rfl ?_
  simp (disch := omega) [go_sem, a2f, c1', dn]
theorem d2t (op : Int) (h1 : ¬ op = 16) (h2 : ¬ op = 17) (a : Ds) (ha : a.shape.length < 2 ^ 40) : ACalls pg G a5r [li op, slD [a]] (.tup [.agg (eD (a3a op [a]).1), lb (a3a op [a]).2]) := by
 have hr : a3a op [a] = (if a.shape.length = 0 then (dn, false) else (⟨a.shape.dropLast, true⟩, true)) := by simp only [a3a, h1, h2, if_false]; rfl
 rw [hr, sl1]
 by_cases c : a.shape.length = 0
 ·rw [if_pos c]
  have c' : (a.shape.length : Int) = 0 := by omega
  refine a11 rfl ?_
  simp (disch := omega) [go_sem, a2f, h1, h2, c', dn]
 ·rw [if_neg c]
  obtain ⟨ash, aw⟩ := a
  obtain rfl | ⟨l, x, rfl⟩ : ash = [] \/ ∃ l x, ash = l ++ [x] := by
   rcases List.eq_nil_or_concat ash with h | ⟨l, x, h⟩
   ·exact .inl h
   ·exact .inr ⟨l, x, by simpa using h⟩
  ·exact absurd rfl c
  simp only [List.length_append, List.length_cons, List.length_nil] at ha c
  rw [show (⟨(⟨l ++ [x], aw⟩ : Ds).shape.dropLast, true⟩ : Ds) = ⟨l, true⟩ by simp]
  refine ACalls.shown (res := .tup [.agg [owI l, lb true], lb true]) ?_ (by simp [go_sem, frz, a1n, owI])
  refine a11 rfl ?_
  have ht : List.take l.length (List.map li l ++ [li x]) = List.map li l := by rw [List.take_append_of_le_length (by simp), List.take_of_length_le (by simp)]
  have hd := b2d (G := G) l (by omega)
  simp (disch := omega) [go_sem, a2f, h1, h2, c, ht]
  refine a0j hd rfl (by simp only [owI, a0x, a04, a2c, Bool.and_true]) ?_
  simp (disch := omega) [go_sem]
end
end Go.Ideal.Tryd
end
section
namespace Go.Ideal
def d41 (P : Program) (G : GG) (N : Nat) (aft : DA) (t : Nat) (d : Option Nat) (f : FuncId) (args : List (Bool × X)) (rest : List AO) (fps : List (List Nat × List Nat)) (K : St -> Prop) (st : St) (o1 o2 : Option St) : Prop := match o1, o2 with
 | some st1, some st2 => c1o P G N aft d f (a4q N args.length st2) (t :: (d.toList ++ a0w st (args.map (·.2)))) rest fps K st st1 st2
 | _, _ => False
def d1s (P : Program) (G : GG) (N : Nat) (aft : DA) (t : Nat) (d : Option Nat) (f : FuncId) (args : List (Bool × X)) (rest : List AO) (fps : List (List Nat × List Nat)) (K : St -> Prop) (st : St) (o1 : Option St) : Prop := d41 P G N aft t d f args rest fps K st o1 (pss N (N + 2) args o1)
def dGc (P : Program) (G : GG) (N : Nat) (aft : DA) (v : AV) (want : Bool) (t : Nat) (d : Option Nat) (f : FuncId) (args : List (Bool × X)) (rest : List AO) (fps : List (List Nat × List Nat)) (K : St -> Prop) (st : St) : Prop := match v with
 | .lit v => if b4a want v then d1s P G N aft t d f args rest fps K st (gvs N (N + 2) args (some st)) else (∀ u ∈ t :: d.toList, u < N) /\ a6v aft.2 (a2s d st) /\ a6w P G N aft rest (fps ++ [([t], d.toList)]) K (a2s d st)
 | _ => False
section
variable {P : Program} {G : GG} {N : Nat} {aft : DA} {d : Option Nat} {i : IOp} {rest : List AO} {fps : List (List Nat × List Nat)} {K : St -> Prop} {st : St} {t : Nat} {f : FuncId} {args : List (Bool × X)}
@[go_sem] theorem f01 {T : TypeId} {s u : Nat} {x : X} : evS G N none (.stf T s x (.t u)) st = evS G N none (.store T s x (.t u)) (st.set u (frz (st.s u))) := (rfl)
@[go_sem] theorem f9u {w : Bool} : dGd P G N aft (.lit undef) w t d i rest fps K st = ((∀ u ∈ t :: d.toList, u < N) /\ a6v aft.2 (a2s d st) /\ a6w P G N aft rest (fps ++ [([t], d.toList)]) K (a2s d st)) := (rfl)
@[congr] theorem d80 {v v' : AV} {w : Bool} (h : v = v') : dGc P G N aft v w t d f args rest fps K st = dGc P G N aft v' w t d f args rest fps K st := by rw [h]
@[congr] theorem d40 {o o' : Option St} (h : o = o') : d1s P G N aft t d f args rest fps K st o = d1s P G N aft t d f args rest fps K st o' := by rw [h]
@[congr] theorem d42 {o1 o o' : Option St} (h : o = o') : d41 P G N aft t d f args rest fps K st o1 o = d41 P G N aft t d f args rest fps K st o1 o' := by rw [h]
@[go_sem] theorem d8y {st1 : St} : d1s P G N aft t d f args rest fps K st (some st1) = d41 P G N aft t d f args rest fps K st (some st1) (pss N (N + 2) args (some st1)) := (rfl)
@[go_sem] theorem d8z {st1 st2 : St} : d41 P G N aft t d f args rest fps K st (some st1) (some st2) = c1o P G N aft d f (a4q N args.length st2) (t :: (d.toList ++ a0w st (args.map (·.2)))) rest fps K st st1 st2 := (rfl)
@[go_sem] theorem f5w : dGc P G N aft (.lit (.bool true)) true t d f args rest fps K st = d1s P G N aft t d f args rest fps K st (gvs N (N + 2) args (some st)) := (rfl)
@[go_sem] theorem f5t : dGc P G N aft (.lit (.bool false)) false t d f args rest fps K st = d1s P G N aft t d f args rest fps K st (gvs N (N + 2) args (some st)) := (rfl)
@[go_sem] theorem f5v : dGc P G N aft (.lit (.bool true)) false t d f args rest fps K st = ((∀ u ∈ t :: d.toList, u < N) /\ a6v aft.2 (a2s d st) /\ a6w P G N aft rest (fps ++ [([t], d.toList)]) K (a2s d st)) := (rfl)
@[go_sem] theorem f5u : dGc P G N aft (.lit (.bool false)) true t d f args rest fps K st = ((∀ u ∈ t :: d.toList, u < N) /\ a6v aft.2 (a2s d st) /\ a6w P G N aft rest (fps ++ [([t], d.toList)]) K (a2s d st)) := (rfl)
@[go_sem] theorem f9t {w : Bool} : dGc P G N aft (.lit undef) w t d f args rest fps K st = ((∀ u ∈ t :: d.toList, u < N) /\ a6v aft.2 (a2s d st) /\ a6w P G N aft rest (fps ++ [([t], d.toList)]) K (a2s d st)) := (rfl)
@[go_sem] theorem d46 {j : Nat} {want : Bool} {tys : List TypeId} : a6w P G N aft (⟨d, .call f args tys, some (j, t, want)⟩ :: rest) fps K st = dGc P G N aft (st.s t) want t d f args rest fps K st := by
 simp only [a6w, dGc]
 cases st.s t <;> try rfl
 rename_i v
 simp only [c4p, d1s, d41, c1o]
 split
 ·cases gvs N (N + 2) args (some st) with
  | none => rfl
  | some st1 =>
   simp only
   cases pss N (N + 2) args (some st1) <;> rfl
 ·rfl
end
end Go.Ideal
end
section
namespace Go.Ideal.Tryd
attribute [local go_sem] eD eT eV
section
variable {G : GG} {bk : Nat -> Nat × Nat} {Q : Exit -> St -> Prop} {st : St}
theorem b6j (hS : Sent3 G bk) {op : Int} {ins : List Ds} {r : Dr} (hn : ins.length < 2 ^ 40) (hf : ∀ d ∈ ins, d.shape.length < 2 ^ 40)
  (h : st.s 0 = li op /\ st.s 1 = slD ins /\ st.s 4 = zD /\ st.s 5 = .lit .nilIface /\ st.s 28 = slD ins /\ st.s 29 = li ins.length /\ st.s 30 = li 0)
  (hbad : ∀ e : Er, e ≠ .nil -> b5l ins r = (dn, e) -> ∀ s, s.s 4 = .var [.sl 0 [], lb false] /\ s.s 5 = a0v bk e -> Q .ret s)
  (hex : b5l ins r = r -> ∀ s, s.s 0 = li op /\ s.s 1 = slD ins /\ s.s 4 = zD /\ s.s 5 = .lit .nilIface -> Q (.exit 1) s) : AW pg G 58 (.loop a4j) Q st := by
 refine a06 Nat (fun i st => i <= ins.length /\ b5l ins r = b5l (ins.drop i) r /\ st.s 0 = li op /\ st.s 1 = slD ins /\ st.s 4 = zD /\ st.s 5 = .lit .nilIface /\ st.s 28 = slD ins /\ st.s 29 = li ins.length /\ st.s 30 = li i) (fun i => ins.length - i) 0 ⟨by omega, rfl, h⟩ ?_
 clear h
 rintro i st K ⟨hi, hm, h⟩ hK
 by_cases hlt : i < ins.length
 ·rw [List.drop_eq_getElem_cons hlt, b5l] at hm
  have hl := hf _ (List.getElem_mem hlt)
  simp (disch := omega) [go_sem, a4j, h, hlt]
  refine a0m (a03 hS ins[i].shape ins[i].wide (by omega)) (a0t _) (by simp (disch := omega) [go_sem, h]) ?_
  by_cases he : a08 ins[i].shape = .nil
  ·simp (disch := omega) [go_sem, h, he, Er.isNil]
   refine hK (i + 1) _ ⟨by omega, by rw [hm, chk, he]; rfl, by simp (disch := omega) [go_sem, h]⟩ (by omega)
  ·have he' := a3d he
   simp (disch := omega) [go_sem, h, he']
   exact hbad _ he (by rw [hm, chk, he']; rfl) _ (by simp (disch := omega) [go_sem, h])
 ·obtain rfl : i = ins.length := by omega
  rw [List.drop_length, b5l] at hm
  simp (disch := omega) [go_sem, a4j, h]
  exact hex hm _ (by simp (disch := omega) [go_sem, h])
theorem c2f (hS : SentO G bk) (op : Int) (ins : List Ds) (hf : ∀ d ∈ ins, d.shape.length < 2 ^ 40) (ho : (op = 16 \/ op = 17) /\ ins.length = 2 \/ (op = 19 \/ op = 20) /\ ins.length = 1) : ACalls pg G b5g [li op, slD ins] (b35 bk (c1a op ins)) := by
 have h7 := hS.val 7 (by decide)
 have hl : ACalls pg G a5r [li op, slD ins] (.tup [.agg (eD (a3a op ins).1), lb (a3a op ins).2]) := by
  rcases ho with ⟨h, h2⟩ | ⟨h, h2⟩
  ·obtain ⟨a, b, rfl⟩ := b9c h2
   rcases h with rfl | rfl
   ·exact d2r a b (hf a (by simp)) (hf b (by simp))
   ·exact d2s a b (hf a (by simp)) (hf b (by simp))
  ·obtain ⟨a, rfl⟩ := c3z h2
   exact d2t op (by omega) (by omega) a (hf a (by simp))
 have hn : ins.length < 2 ^ 40 := by omega
 have hlen : (a3a op ins).1.shape.length < 2 ^ 40 := by
  rcases ho with ⟨h, h2⟩ | ⟨h, h2⟩
  ·obtain ⟨a, b, rfl⟩ := b9c h2
   have := hf a (by simp)
   rcases h with rfl | rfl
   ·exact this
   ·rw [show a3a 17 [a, b] = (if a.shape.length = 2 /\ b.shape.length = 1 /\ b.wide = true then (⟨[b.shape[0]!, a.shape[1]!], a.wide⟩, true) else (dn, false)) from rfl]
    split <;> simp [dn]
  ·obtain ⟨a, rfl⟩ := c3z h2
   have := hf a (by simp)
   have hr : a3a op [a] = (if a.shape.length = 0 then (dn, false) else (⟨a.shape.dropLast, true⟩, true)) := by simp only [a3a, show ¬ op = 16 by omega, show ¬ op = 17 by omega, if_false]; rfl
   rw [hr]
   split <;> simp [dn]; omega
 unfold c1a
 generalize a3a op ins = d at *
 obtain ⟨d, ok⟩ := d
 refine b1y rfl ?_
 obtain ⟨rfl, h2⟩ | ⟨rfl, h2⟩ | ⟨rfl, h2⟩ | ⟨rfl, h2⟩ : (op = 16 /\ ins.length = 2) \/ (op = 17 /\ ins.length = 2) \/ (op = 19 /\ ins.length = 1) \/ (op = 20 /\ ins.length = 1) := by omega
 ·
  simp (disch := omega) [go_sem, a34, h2]
  refine b6j hS.three (op := 16) (ins := ins) (r := if ok = true then b3j d.shape d.wide else bad 6) hn hf (by simp (disch := omega) [go_sem, h2]) (fun e he hm s h => ?_) (fun hm s h => ?_)
  ·rw [hm]
   simp (disch := omega) [go_sem, h, dn]
  ·rw [hm]
   simp (disch := omega) [go_sem, h]
   refine a0m hl (by simp [go_sem, a0r]) (by simp (disch := omega) [go_sem, h]) ?_
   cases ok
   ·simp (disch := omega) [go_sem, h]
    refine a0b ?_
    simp (disch := omega) [go_sem, h, h7]
    refine a0d (by decide) fun s2 hs2 he2 => ?_
    simp (disch := omega) [go_sem, hs2, h, h7, bad, dn, a0v]
   ·simp (disch := omega) [go_sem, h]
    refine a0m (a03 hS.three d.shape d.wide (by simp at hlen; omega)) (a0t _) (by simp (disch := omega) [go_sem, h]) ?_
    by_cases he : a08 d.shape = .nil
    ·simp (disch := omega) [go_sem, h, he, Er.isNil, b3j, chk, a0v]
    ·have he' := a3d he
     simp (disch := omega) [go_sem, h, he', b3j, chk, dn]
 ·
  simp (disch := omega) [go_sem, a34, h2]
  refine b6j hS.three (op := 17) (ins := ins) (r := if ok = true then b3j d.shape d.wide else bad 6) hn hf (by simp (disch := omega) [go_sem, h2]) (fun e he hm s h => ?_) (fun hm s h => ?_)
  ·rw [hm]
   simp (disch := omega) [go_sem, h, dn]
  ·rw [hm]
   simp (disch := omega) [go_sem, h]
   refine a0m hl (by simp [go_sem, a0r]) (by simp (disch := omega) [go_sem, h]) ?_
   cases ok
   ·simp (disch := omega) [go_sem, h]
    refine a0b ?_
    simp (disch := omega) [go_sem, h, h7]
    refine a0d (by decide) fun s2 hs2 he2 => ?_
    simp (disch := omega) [go_sem, hs2, h, h7, bad, dn, a0v]
   ·simp (disch := omega) [go_sem, h]
    refine a0m (a03 hS.three d.shape d.wide (by simp at hlen; omega)) (a0t _) (by simp (disch := omega) [go_sem, h]) ?_
    by_cases he : a08 d.shape = .nil
    ·simp (disch := omega) [go_sem, h, he, Er.isNil, b3j, chk, a0v]
    ·have he' := a3d he
     simp (disch := omega) [go_sem, h, he', b3j, chk, dn]
 ·
  simp (disch := omega) [go_sem, a34, h2]
  refine b6j hS.three (op := 19) (ins := ins) (r := if ok = true then b3j d.shape d.wide else bad 6) hn hf (by simp (disch := omega) [go_sem, h2]) (fun e he hm s h => ?_) (fun hm s h => ?_)
  ·rw [hm]
   simp (disch := omega) [go_sem, h, dn]
  ·rw [hm]
   simp (disch := omega) [go_sem, h]
   refine a0m hl (by simp [go_sem, a0r]) (by simp (disch := omega) [go_sem, h]) ?_
   cases ok
   ·simp (disch := omega) [go_sem, h]
    refine a0b ?_
    simp (disch := omega) [go_sem, h, h7]
    refine a0d (by decide) fun s2 hs2 he2 => ?_
    simp (disch := omega) [go_sem, hs2, h, h7, bad, dn, a0v]
   ·simp (disch := omega) [go_sem, h]
    refine a0m (a03 hS.three d.shape d.wide (by simp at hlen; omega)) (a0t _) (by simp (disch := omega) [go_sem, h]) ?_
    by_cases he : a08 d.shape = .nil
    ·simp (disch := omega) [go_sem, h, he, Er.isNil, b3j, chk, a0v]
    ·have he' := a3d he
     simp (disch := omega) [go_sem, h, he', b3j, chk, dn]
 ·
  simp (disch := omega) [go_sem, a34, h2]
  refine b6j hS.three (op := 20) (ins := ins) (r := if ok = true then b3j d.shape d.wide else bad 6) hn hf (by simp (disch := omega) [go_sem, h2]) (fun e he hm s h => ?_) (fun hm s h => ?_)
  ·rw [hm]
   simp (disch := omega) [go_sem, h, dn]
  ·rw [hm]
   simp (disch := omega) [go_sem, h]
   refine a0m hl (by simp [go_sem, a0r]) (by simp (disch := omega) [go_sem, h]) ?_
   cases ok
   ·simp (disch := omega) [go_sem, h]
    refine a0b ?_
    simp (disch := omega) [go_sem, h, h7]
    refine a0d (by decide) fun s2 hs2 he2 => ?_
    simp (disch := omega) [go_sem, hs2, h, h7, bad, dn, a0v]
   ·simp (disch := omega) [go_sem, h]
    refine a0m (a03 hS.three d.shape d.wide (by simp at hlen; omega)) (a0t _) (by simp (disch := omega) [go_sem, h]) ?_
    by_cases he : a08 d.shape = .nil
    ·simp (disch := omega) [go_sem, h, he, Er.isNil, b3j, chk, a0v]
    ·have he' := a3d he
     simp (disch := omega) [go_sem, h, he', b3j, chk, dn]
end
end Go.Ideal.Tryd
end
section
namespace Go.Ideal.Tryd
attribute [local go_sem] eD eT eV
section
variable {G : GG} {bk : Nat -> Nat × Nat} {Q : Exit -> St -> Prop} {st : St}
theorem a7q (hS : Sent3 G bk) {op : Int} {args : List Int} {ins : List Ds} {r : Dr} (hn : ins.length < 2 ^ 40) (hf : ∀ d ∈ ins, d.shape.length < 2 ^ 40)
  (h : st.s 0 = li op /\ st.s 1 = slI args /\ st.s 2 = slD ins /\ st.s 8 = li ins.length /\ st.s 6 = zD /\ st.s 7 = .lit .nilIface /\ st.s 40 = slD ins /\ st.s 41 = li ins.length /\ st.s 42 = li 0)
  (hbad : ∀ e : Er, e ≠ .nil -> b5l ins r = (dn, e) -> ∀ s, s.s 6 = .var [.sl 0 [], lb false] /\ s.s 7 = a0v bk e -> Q .ret s)
  (hex : b5l ins r = r -> ∀ s, s.s 0 = li op /\ s.s 1 = slI args /\ s.s 2 = slD ins /\ s.s 8 = li ins.length /\ s.s 6 = zD /\ s.s 7 = .lit .nilIface -> Q (.exit 0) s) : AW pg G 146 (.loop a4g) Q st := by
 refine a06 Nat (fun i st => i <= ins.length /\ b5l ins r = b5l (ins.drop i) r /\ st.s 0 = li op /\ st.s 1 = slI args /\ st.s 2 = slD ins /\ st.s 8 = li ins.length /\ st.s 6 = zD /\ st.s 7 = .lit .nilIface /\ st.s 40 = slD ins /\ st.s 41 = li ins.length /\ st.s 42 = li i) (fun i => ins.length - i) 0 ⟨by omega, rfl, h⟩ ?_
 clear h
 rintro i st K ⟨hi, hm, h⟩ hK
 by_cases hlt : i < ins.length
 ·rw [List.drop_eq_getElem_cons hlt, b5l] at hm
  have hl := hf _ (List.getElem_mem hlt)
  simp (disch := omega) [go_sem, a4g, h, hlt]
  refine a0m (a03 hS ins[i].shape ins[i].wide (by omega)) (a0t _) (by simp (disch := omega) [go_sem, h]) ?_
  by_cases he : a08 ins[i].shape = .nil
  ·simp (disch := omega) [go_sem, h, he, Er.isNil]
   refine hK (i + 1) _ ⟨by omega, by rw [hm, chk, he]; rfl, by simp (disch := omega) [go_sem, h]⟩ (by omega)
  ·have he' := a3d he
   simp (disch := omega) [go_sem, h, he']
   exact hbad _ he (by rw [hm, chk, he']; rfl) _ (by simp (disch := omega) [go_sem, h])
 ·obtain rfl : i = ins.length := by omega
  rw [List.drop_length, b5l] at hm
  simp (disch := omega) [go_sem, a4g, h]
  exact hex hm _ (by simp (disch := omega) [go_sem, h])
end
end Go.Ideal.Tryd
end
section
namespace Go.Ideal.Tryd
attribute [local go_sem] eD eT eV
section
variable {G : GG} {bk : Nat -> Nat × Nat} {Q : Exit -> St -> Prop} {st : St}
theorem c75 (hS : SentO G bk) (args : List Int) (ins : List Ds) (hf : ∀ d ∈ ins, d.shape.length < 2 ^ 40)  (h1 : ins.length = a2v 4) (h2 : args.length = a17 4) : ACalls pg G a1q [li (4 : Int), slI args, slD ins] (b35 bk (a53 4 args ins)) := by
 have h7 := hS.val 7 (by decide)
 have h3 := hS.val 3 (by decide)
 have hn : ins.length < 2 ^ 40 := by
  rw [h1]; unfold a2v; split <;> (try split) <;> simp
 have e1 : ((a2v 4 : Nat) : Int) = (ins.length : Int) := by rw [h1]
 have e2 : ((a17 4 : Nat) : Int) = (args.length : Int) := by rw [h2]
 unfold a53
 generalize hr : (if (ins.length = 2 /\ ins[0]! ≠ ins[1]!) \/ ((4 : Int) = 10 /\ ins[0]!.wide = false) \/ ((4 : Int) = 11 /\ ins[0]!.wide = true) then bad 6 else if a1u 4 args ins[0]!.wide = true then ((⟨ins[0]!.shape, a1o 4 ins[0]!.wide⟩, .nil) : Dr) else bad 3) = r
 have hc := a4m (G := G) 4 (by omega)
 rw [e1, e2] at hc
 refine a1f rfl ?_
 simp (disch := omega) [go_sem, a1v]
 refine a0j hc rfl rfl ?_
 simp (disch := omega) [go_sem]
 refine a7q hS.three (op := 4) (args := args) (ins := ins) (r := r) hn hf (by simp (disch := omega) [go_sem]) (fun e he hm s h => ?_) (fun hm s h => ?_)
 ·rw [hm]
  simp (disch := omega) [go_sem, h, dn]
 rw [hm]
 clear hm hc e1 e2
 obtain ⟨a, b, rfl⟩ := b9c (h1.trans (by decide))
 have la := hf a (by simp)
 have lb' := hf b (by simp)
 rw [sl2] at h
 by_cases hab : a = b
 ·subst hab
  have hr' : r = (a, .nil) := by rw [<- hr]; simp [a1u, a1o]
  rw [hr']
  simp (disch := omega) [go_sem, h]
  refine a0b ?_
  simp (disch := omega) [go_sem, h]
  refine a02 (a5n a a (by omega) (by omega)) rfl rfl (by simp (disch := omega) [go_sem, a0w, a8b]) [63] (by simp) (by simp (disch := omega) [go_sem, h]) ?_
  simp (disch := omega) [go_sem, h, a0w, a8b]
  refine a0d (by decide) fun s2 hs2 hes2 => ?_
  simp (disch := omega) [go_sem, hs2, h]
  refine a0b ?_
  simp (disch := omega) [go_sem, hs2, h]
  refine a0d (by decide) fun s3 hs3 hes3 => ?_
  simp (disch := omega) [go_sem, hs3, hs2, h]
  refine a0j (a21 a.shape a.wide la) rfl (by simp only [owI, a0x, a04, a2c, Bool.and_true]) ?_
  simp (disch := omega) [go_sem, hs3, hs2, h, a0v]
 ·have hr' : r = bad 6 := by rw [<- hr]; simp [hab]
  rw [hr']
  simp (disch := omega) [go_sem, h]
  refine a0b ?_
  simp (disch := omega) [go_sem, h]
  refine a02 (a5n a b (by omega) (by omega)) rfl rfl (by simp (disch := omega) [go_sem, a0w, a8b]) [63] (by simp) (by simp (disch := omega) [go_sem, h, hab]) ?_
  simp (disch := omega) [go_sem, h, hab, a0w, a8b]
  refine a0d (by decide) fun s2 hs2 hes2 => ?_
  simp (disch := omega) [go_sem, hs2, h, hab]
  refine a0b ?_
  simp (disch := omega) [go_sem, hs2, h, h7, bad, dn, a0v, Er.isNil]
  refine a0d (by decide) fun s4 hs4 hes4 => ?_
  simp (disch := omega) [go_sem, hs4, hs2, h, h7, bad, dn, a0v, Er.isNil]
theorem c76 (hS : SentO G bk) (args : List Int) (ins : List Ds) (hf : ∀ d ∈ ins, d.shape.length < 2 ^ 40)  (h1 : ins.length = a2v 5) (h2 : args.length = a17 5) : ACalls pg G a1q [li (5 : Int), slI args, slD ins] (b35 bk (a53 5 args ins)) := by
 have h7 := hS.val 7 (by decide)
 have h3 := hS.val 3 (by decide)
 have hn : ins.length < 2 ^ 40 := by
  rw [h1]; unfold a2v; split <;> (try split) <;> simp
 have e1 : ((a2v 5 : Nat) : Int) = (ins.length : Int) := by rw [h1]
 have e2 : ((a17 5 : Nat) : Int) = (args.length : Int) := by rw [h2]
 unfold a53
 generalize hr : (if (ins.length = 2 /\ ins[0]! ≠ ins[1]!) \/ ((5 : Int) = 10 /\ ins[0]!.wide = false) \/ ((5 : Int) = 11 /\ ins[0]!.wide = true) then bad 6 else if a1u 5 args ins[0]!.wide = true then ((⟨ins[0]!.shape, a1o 5 ins[0]!.wide⟩, .nil) : Dr) else bad 3) = r
 have hc := a4m (G := G) 5 (by omega)
 rw [e1, e2] at hc
 refine a1f rfl ?_
 simp (disch := omega) [go_sem, a1v]
 refine a0j hc rfl rfl ?_
 simp (disch := omega) [go_sem]
 refine a7q hS.three (op := 5) (args := args) (ins := ins) (r := r) hn hf (by simp (disch := omega) [go_sem]) (fun e he hm s h => ?_) (fun hm s h => ?_)
 ·rw [hm]
  simp (disch := omega) [go_sem, h, dn]
 rw [hm]
 clear hm hc e1 e2
 obtain ⟨a, b, rfl⟩ := b9c (h1.trans (by decide))
 have la := hf a (by simp)
 have lb' := hf b (by simp)
 rw [sl2] at h
 by_cases hab : a = b
 ·subst hab
  have hr' : r = (a, .nil) := by rw [<- hr]; simp [a1u, a1o]
  rw [hr']
  simp (disch := omega) [go_sem, h]
  refine a0b ?_
  simp (disch := omega) [go_sem, h]
  refine a02 (a5n a a (by omega) (by omega)) rfl rfl (by simp (disch := omega) [go_sem, a0w, a8b]) [63] (by simp) (by simp (disch := omega) [go_sem, h]) ?_
  simp (disch := omega) [go_sem, h, a0w, a8b]
  refine a0d (by decide) fun s2 hs2 hes2 => ?_
  simp (disch := omega) [go_sem, hs2, h]
  refine a0b ?_
  simp (disch := omega) [go_sem, hs2, h]
  refine a0d (by decide) fun s3 hs3 hes3 => ?_
  simp (disch := omega) [go_sem, hs3, hs2, h]
  refine a0j (a21 a.shape a.wide la) rfl (by simp only [owI, a0x, a04, a2c, Bool.and_true]) ?_
  simp (disch := omega) [go_sem, hs3, hs2, h, a0v]
 ·have hr' : r = bad 6 := by rw [<- hr]; simp [hab]
  rw [hr']
  simp (disch := omega) [go_sem, h]
  refine a0b ?_
  simp (disch := omega) [go_sem, h]
  refine a02 (a5n a b (by omega) (by omega)) rfl rfl (by simp (disch := omega) [go_sem, a0w, a8b]) [63] (by simp) (by simp (disch := omega) [go_sem, h, hab]) ?_
  simp (disch := omega) [go_sem, h, hab, a0w, a8b]
  refine a0d (by decide) fun s2 hs2 hes2 => ?_
  simp (disch := omega) [go_sem, hs2, h, hab]
  refine a0b ?_
  simp (disch := omega) [go_sem, hs2, h, h7, bad, dn, a0v, Er.isNil]
  refine a0d (by decide) fun s4 hs4 hes4 => ?_
  simp (disch := omega) [go_sem, hs4, hs2, h, h7, bad, dn, a0v, Er.isNil]
end
end Go.Ideal.Tryd
end
section
namespace Go.Ideal.Tryd
attribute [local go_sem] eD eT eV
section
variable {G : GG} {bk : Nat -> Nat × Nat} {Q : Exit -> St -> Prop} {st : St}
theorem c77 (hS : SentO G bk) (args : List Int) (ins : List Ds) (hf : ∀ d ∈ ins, d.shape.length < 2 ^ 40)  (h1 : ins.length = a2v 6) (h2 : args.length = a17 6) : ACalls pg G a1q [li (6 : Int), slI args, slD ins] (b35 bk (a53 6 args ins)) := by
 have h7 := hS.val 7 (by decide)
 have h3 := hS.val 3 (by decide)
 have hn : ins.length < 2 ^ 40 := by
  rw [h1]; unfold a2v; split <;> (try split) <;> simp
 have e1 : ((a2v 6 : Nat) : Int) = (ins.length : Int) := by rw [h1]
 have e2 : ((a17 6 : Nat) : Int) = (args.length : Int) := by rw [h2]
 unfold a53
 generalize hr : (if (ins.length = 2 /\ ins[0]! ≠ ins[1]!) \/ ((6 : Int) = 10 /\ ins[0]!.wide = false) \/ ((6 : Int) = 11 /\ ins[0]!.wide = true) then bad 6 else if a1u 6 args ins[0]!.wide = true then ((⟨ins[0]!.shape, a1o 6 ins[0]!.wide⟩, .nil) : Dr) else bad 3) = r
 have hc := a4m (G := G) 6 (by omega)
 rw [e1, e2] at hc
 refine a1f rfl ?_
 simp (disch := omega) [go_sem, a1v]
 refine a0j hc rfl rfl ?_
 simp (disch := omega) [go_sem]
 refine a7q hS.three (op := 6) (args := args) (ins := ins) (r := r) hn hf (by simp (disch := omega) [go_sem]) (fun e he hm s h => ?_) (fun hm s h => ?_)
 ·rw [hm]
  simp (disch := omega) [go_sem, h, dn]
 rw [hm]
 clear hm hc e1 e2
 obtain ⟨a, b, rfl⟩ := b9c (h1.trans (by decide))
 have la := hf a (by simp)
 have lb' := hf b (by simp)
 rw [sl2] at h
 by_cases hab : a = b
 ·subst hab
  have hr' : r = (a, .nil) := by rw [<- hr]; simp [a1u, a1o]
  rw [hr']
  simp (disch := omega) [go_sem, h]
  refine a0b ?_
  simp (disch := omega) [go_sem, h]
  refine a02 (a5n a a (by omega) (by omega)) rfl rfl (by simp (disch := omega) [go_sem, a0w, a8b]) [63] (by simp) (by simp (disch := omega) [go_sem, h]) ?_
  simp (disch := omega) [go_sem, h, a0w, a8b]
  refine a0d (by decide) fun s2 hs2 hes2 => ?_
  simp (disch := omega) [go_sem, hs2, h]
  refine a0b ?_
  simp (disch := omega) [go_sem, hs2, h]
  refine a0d (by decide) fun s3 hs3 hes3 => ?_
  simp (disch := omega) [go_sem, hs3, hs2, h]
  refine a0j (a21 a.shape a.wide la) rfl (by simp only [owI, a0x, a04, a2c, Bool.and_true]) ?_
  simp (disch := omega) [go_sem, hs3, hs2, h, a0v]
 ·have hr' : r = bad 6 := by rw [<- hr]; simp [hab]
  rw [hr']
  simp (disch := omega) [go_sem, h]
  refine a0b ?_
  simp (disch := omega) [go_sem, h]
  refine a02 (a5n a b (by omega) (by omega)) rfl rfl (by simp (disch := omega) [go_sem, a0w, a8b]) [63] (by simp) (by simp (disch := omega) [go_sem, h, hab]) ?_
  simp (disch := omega) [go_sem, h, hab, a0w, a8b]
  refine a0d (by decide) fun s2 hs2 hes2 => ?_
  simp (disch := omega) [go_sem, hs2, h, hab]
  refine a0b ?_
  simp (disch := omega) [go_sem, hs2, h, h7, bad, dn, a0v, Er.isNil]
  refine a0d (by decide) fun s4 hs4 hes4 => ?_
  simp (disch := omega) [go_sem, hs4, hs2, h, h7, bad, dn, a0v, Er.isNil]
theorem c78 (hS : SentO G bk) (args : List Int) (ins : List Ds) (hf : ∀ d ∈ ins, d.shape.length < 2 ^ 40)  (h1 : ins.length = a2v 7) (h2 : args.length = a17 7) : ACalls pg G a1q [li (7 : Int), slI args, slD ins] (b35 bk (a53 7 args ins)) := by
 have h7 := hS.val 7 (by decide)
 have h3 := hS.val 3 (by decide)
 have hn : ins.length < 2 ^ 40 := by
  rw [h1]; unfold a2v; split <;> (try split) <;> simp
 have e1 : ((a2v 7 : Nat) : Int) = (ins.length : Int) := by rw [h1]
 have e2 : ((a17 7 : Nat) : Int) = (args.length : Int) := by rw [h2]
 unfold a53
 generalize hr : (if (ins.length = 2 /\ ins[0]! ≠ ins[1]!) \/ ((7 : Int) = 10 /\ ins[0]!.wide = false) \/ ((7 : Int) = 11 /\ ins[0]!.wide = true) then bad 6 else if a1u 7 args ins[0]!.wide = true then ((⟨ins[0]!.shape, a1o 7 ins[0]!.wide⟩, .nil) : Dr) else bad 3) = r
 have hc := a4m (G := G) 7 (by omega)
 rw [e1, e2] at hc
 refine a1f rfl ?_
 simp (disch := omega) [go_sem, a1v]
 refine a0j hc rfl rfl ?_
 simp (disch := omega) [go_sem]
 refine a7q hS.three (op := 7) (args := args) (ins := ins) (r := r) hn hf (by simp (disch := omega) [go_sem]) (fun e he hm s h => ?_) (fun hm s h => ?_)
 ·rw [hm]
  simp (disch := omega) [go_sem, h, dn]
 rw [hm]
 clear hm hc e1 e2
 obtain ⟨a, b, rfl⟩ := b9c (h1.trans (by decide))
 have la := hf a (by simp)
 have lb' := hf b (by simp)
 rw [sl2] at h
 by_cases hab : a = b
 ·subst hab
  have hr' : r = (a, .nil) := by rw [<- hr]; simp [a1u, a1o]
  rw [hr']
  simp (disch := omega) [go_sem, h]
  refine a0b ?_
  simp (disch := omega) [go_sem, h]
  refine a02 (a5n a a (by omega) (by omega)) rfl rfl (by simp (disch := omega) [go_sem, a0w, a8b]) [63] (by simp) (by simp (disch := omega) [go_sem, h]) ?_
  simp (disch := omega) [go_sem, h, a0w, a8b]
  refine a0d (by decide) fun s2 hs2 hes2 => ?_
  simp (disch := omega) [go_sem, hs2, h]
  refine a0b ?_
  simp (disch := omega) [go_sem, hs2, h]
  refine a0d (by decide) fun s3 hs3 hes3 => ?_
  simp (disch := omega) [go_sem, hs3, hs2, h]
  refine a0j (a21 a.shape a.wide la) rfl (by simp only [owI, a0x, a04, a2c, Bool.and_true]) ?_
  simp (disch := omega) [go_sem, hs3, hs2, h, a0v]
 ·have hr' : r = bad 6 := by rw [<- hr]; simp [hab]
  rw [hr']
  simp (disch := omega) [go_sem, h]
  refine a0b ?_
  simp (disch := omega) [go_sem, h]
  refine a02 (a5n a b (by omega) (by omega)) rfl rfl (by simp (disch := omega) [go_sem, a0w, a8b]) [63] (by simp) (by simp (disch := omega) [go_sem, h, hab]) ?_
  simp (disch := omega) [go_sem, h, hab, a0w, a8b]
  refine a0d (by decide) fun s2 hs2 hes2 => ?_
  simp (disch := omega) [go_sem, hs2, h, hab]
  refine a0b ?_
  simp (disch := omega) [go_sem, hs2, h, h7, bad, dn, a0v, Er.isNil]
  refine a0d (by decide) fun s4 hs4 hes4 => ?_
  simp (disch := omega) [go_sem, hs4, hs2, h, h7, bad, dn, a0v, Er.isNil]
end
end Go.Ideal.Tryd
end
section
namespace Go.Ideal.Tryd
attribute [local go_sem] eD eT eV
section
variable {G : GG} {bk : Nat -> Nat × Nat} {Q : Exit -> St -> Prop} {st : St}
theorem c79 (hS : SentO G bk) (args : List Int) (ins : List Ds) (hf : ∀ d ∈ ins, d.shape.length < 2 ^ 40)  (h1 : ins.length = a2v 8) (h2 : args.length = a17 8) : ACalls pg G a1q [li (8 : Int), slI args, slD ins] (b35 bk (a53 8 args ins)) := by
 have h7 := hS.val 7 (by decide)
 have h3 := hS.val 3 (by decide)
 have hn : ins.length < 2 ^ 40 := by
  rw [h1]; unfold a2v; split <;> (try split) <;> simp
 have e1 : ((a2v 8 : Nat) : Int) = (ins.length : Int) := by rw [h1]
 have e2 : ((a17 8 : Nat) : Int) = (args.length : Int) := by rw [h2]
 unfold a53
 generalize hr : (if (ins.length = 2 /\ ins[0]! ≠ ins[1]!) \/ ((8 : Int) = 10 /\ ins[0]!.wide = false) \/ ((8 : Int) = 11 /\ ins[0]!.wide = true) then bad 6 else if a1u 8 args ins[0]!.wide = true then ((⟨ins[0]!.shape, a1o 8 ins[0]!.wide⟩, .nil) : Dr) else bad 3) = r
 have hc := a4m (G := G) 8 (by omega)
 rw [e1, e2] at hc
 refine a1f rfl ?_
 simp (disch := omega) [go_sem, a1v]
 refine a0j hc rfl rfl ?_
 simp (disch := omega) [go_sem]
 refine a7q hS.three (op := 8) (args := args) (ins := ins) (r := r) hn hf (by simp (disch := omega) [go_sem]) (fun e he hm s h => ?_) (fun hm s h => ?_)
 ·rw [hm]
  simp (disch := omega) [go_sem, h, dn]
 rw [hm]
 clear hm hc e1 e2
 obtain ⟨a, rfl⟩ := c3z (h1.trans (by decide))
 have la := hf a (by simp)
 rw [sl1] at h
 have hr' : r = (a, .nil) := by rw [<- hr]; simp [a1u, a1o]
 rw [hr']
 simp (disch := omega) [go_sem, h]
 refine a0b ?_
 simp (disch := omega) [go_sem, h]
 refine a0d (by decide) fun s2 hs2 hes2 => ?_
 simp (disch := omega) [go_sem, hs2, h]
 refine a0b ?_
 simp (disch := omega) [go_sem, hs2, h]
 refine a0d (by decide) fun s3 hs3 hes3 => ?_
 simp (disch := omega) [go_sem, hs3, hs2, h]
 refine a0j (a21 a.shape a.wide la) rfl (by simp only [owI, a0x, a04, a2c, Bool.and_true]) ?_
 simp (disch := omega) [go_sem, hs3, hs2, h, a0v]
end
end Go.Ideal.Tryd
end
section
namespace Go.Ideal.Tryd
attribute [local go_sem] eD eT eV
section
variable {G : GG} {bk : Nat -> Nat × Nat} {Q : Exit -> St -> Prop} {st : St}
theorem c8a (hS : SentO G bk) (args : List Int) (ins : List Ds) (hf : ∀ d ∈ ins, d.shape.length < 2 ^ 40)  (h1 : ins.length = a2v 9) (h2 : args.length = a17 9) : ACalls pg G a1q [li (9 : Int), slI args, slD ins] (b35 bk (a53 9 args ins)) := by
 have h7 := hS.val 7 (by decide)
 have h3 := hS.val 3 (by decide)
 have hn : ins.length < 2 ^ 40 := by
  rw [h1]; unfold a2v; split <;> (try split) <;> simp
 have e1 : ((a2v 9 : Nat) : Int) = (ins.length : Int) := by rw [h1]
 have e2 : ((a17 9 : Nat) : Int) = (args.length : Int) := by rw [h2]
 unfold a53
 generalize hr : (if (ins.length = 2 /\ ins[0]! ≠ ins[1]!) \/ ((9 : Int) = 10 /\ ins[0]!.wide = false) \/ ((9 : Int) = 11 /\ ins[0]!.wide = true) then bad 6 else if a1u 9 args ins[0]!.wide = true then ((⟨ins[0]!.shape, a1o 9 ins[0]!.wide⟩, .nil) : Dr) else bad 3) = r
 have hc := a4m (G := G) 9 (by omega)
 rw [e1, e2] at hc
 refine a1f rfl ?_
 simp (disch := omega) [go_sem, a1v]
 refine a0j hc rfl rfl ?_
 simp (disch := omega) [go_sem]
 refine a7q hS.three (op := 9) (args := args) (ins := ins) (r := r) hn hf (by simp (disch := omega) [go_sem]) (fun e he hm s h => ?_) (fun hm s h => ?_)
 ·rw [hm]
  simp (disch := omega) [go_sem, h, dn]
 rw [hm]
 clear hm hc e1 e2
 obtain ⟨a, rfl⟩ := c3z (h1.trans (by decide))
 have la := hf a (by simp)
 rw [sl1] at h
 obtain ⟨x, y, rfl⟩ := b9c (h2.trans (by decide))
 have hr' : r = if (decide (x <= y) && (b6p x a.wide && b6p y a.wide)) = true then (a, .nil) else bad 3 := by rw [<- hr]; simp [a1u, a1o]
 generalize hb : (decide (x <= y) && (b6p x a.wide && b6p y a.wide)) = b at hr'
 rw [hr']
 clear hr hr'
 simp (disch := omega) [go_sem, h]
 refine a0b ?_
 simp (disch := omega) [go_sem, h]
 refine a0d (by decide) fun s2 hs2 hes2 => ?_
 simp (disch := omega) [go_sem, hs2, h]
 refine a0b ?_
 simp (disch := omega) [go_sem, hs2, h]
 refine a0d (by decide) fun s3 hs3 hes3 => ?_
 simp (disch := omega) [go_sem, hs3, hs2, h]
 by_cases c : x <= y
 ·
  refine a0b ?_
  simp (disch := omega) [go_sem, hs3, hs2, h, c]
  refine a02 (c9e x a.wide) rfl rfl (by simp (disch := omega) [go_sem, a0w, a8b]) [103] (by simp) (by simp (disch := omega) [go_sem, hs3, hs2, h, c]) ?_
  simp (disch := omega) [go_sem, hs3, hs2, h, c, a0w, a8b]
  cases f1 : b6p x a.wide
  ·have hb' : b = false := by rw [<- hb]; simp [f1]
   rw [hb', if_neg (by simp)]
   simp (disch := omega) [go_sem, hs3, hs2, h, c, f1]
   refine a0d (by decide) fun s4 hs4 hes4 => ?_
   simp (disch := omega) [go_sem, hs4, hs3, hs2, h, c, f1]
   refine a0b ?_
   simp (disch := omega) [go_sem, hs4, hs3, hs2, h, h3, bad, dn, a0v]
   refine a0d (by decide) fun s9 hs9 hes9 => ?_
   simp (disch := omega) [go_sem, hs9, hs4, hs3, hs2, h, h3, bad, dn, a0v]
  simp (disch := omega) [go_sem, hs3, hs2, h, c, f1, a0w, a8b]
  refine a02 (c9e y a.wide) rfl rfl (by simp (disch := omega) [go_sem, a0w, a8b]) [111] (by simp) (by simp (disch := omega) [go_sem, hs3, hs2, h, c, f1]) ?_
  simp (disch := omega) [go_sem, hs3, hs2, h, c, f1, a0w, a8b]
  cases f2 : b6p y a.wide
  ·have hb' : b = false := by rw [<- hb]; simp [f2]
   rw [hb', if_neg (by simp)]
   refine a0d (by decide) fun s4 hs4 hes4 => ?_
   simp (disch := omega) [go_sem, hs4, hs3, hs2, h, c, f1, f2]
   refine a0b ?_
   simp (disch := omega) [go_sem, hs4, hs3, hs2, h, h3, bad, dn, a0v]
   refine a0d (by decide) fun s9 hs9 hes9 => ?_
   simp (disch := omega) [go_sem, hs9, hs4, hs3, hs2, h, h3, bad, dn, a0v]
  have hb' : b = true := by rw [<- hb]; simp [c, f1, f2]
  rw [hb', if_pos rfl]
  refine a0d (by decide) fun s4 hs4 hes4 => ?_
  simp (disch := omega) [go_sem, hs4, hs3, hs2, h, c, f1, f2]
  refine a0j (a21 a.shape a.wide la) rfl (by simp only [owI, a0x, a04, a2c, Bool.and_true]) ?_
  simp (disch := omega) [go_sem, hs4, hs3, hs2, h, a0v]
 ·have hb' : b = false := by rw [<- hb]; simp [c]
  rw [hb', if_neg (by simp)]
  refine a0b ?_
  simp (disch := omega) [go_sem, hs3, hs2, h, c]
  refine a0d (by decide) fun s4 hs4 hes4 => ?_
  simp (disch := omega) [go_sem, hs4, hs3, hs2, h, c]
  refine a0b ?_
  simp (disch := omega) [go_sem, hs4, hs3, hs2, h, h3, bad, dn, a0v]
  refine a0d (by decide) fun s9 hs9 hes9 => ?_
  simp (disch := omega) [go_sem, hs9, hs4, hs3, hs2, h, h3, bad, dn, a0v]
end
end Go.Ideal.Tryd
end
section
namespace Go.Ideal.Tryd
attribute [local go_sem] eD eT eV
section
variable {G : GG} {bk : Nat -> Nat × Nat} {Q : Exit -> St -> Prop} {st : St}
theorem c4t (hS : SentO G bk) (args : List Int) (ins : List Ds) (hf : ∀ d ∈ ins, d.shape.length < 2 ^ 40)  (h1 : ins.length = a2v 10) (h2 : args.length = a17 10) : ACalls pg G a1q [li (10 : Int), slI args, slD ins] (b35 bk (a53 10 args ins)) := by
 have h7 := hS.val 7 (by decide)
 have h3 := hS.val 3 (by decide)
 have hn : ins.length < 2 ^ 40 := by
  rw [h1]; unfold a2v; split <;> (try split) <;> simp
 have e1 : ((a2v 10 : Nat) : Int) = (ins.length : Int) := by rw [h1]
 have e2 : ((a17 10 : Nat) : Int) = (args.length : Int) := by rw [h2]
 unfold a53
 generalize hr : (if (ins.length = 2 /\ ins[0]! ≠ ins[1]!) \/ ((10 : Int) = 10 /\ ins[0]!.wide = false) \/ ((10 : Int) = 11 /\ ins[0]!.wide = true) then bad 6 else if a1u 10 args ins[0]!.wide = true then ((⟨ins[0]!.shape, a1o 10 ins[0]!.wide⟩, .nil) : Dr) else bad 3) = r
 have hc := a4m (G := G) 10 (by omega)
 rw [e1, e2] at hc
 refine a1f rfl ?_
 simp (disch := omega) [go_sem, a1v]
 refine a0j hc rfl rfl ?_
 simp (disch := omega) [go_sem]
 refine a7q hS.three (op := 10) (args := args) (ins := ins) (r := r) hn hf (by simp (disch := omega) [go_sem]) (fun e he hm s h => ?_) (fun hm s h => ?_)
 ·rw [hm]
  simp (disch := omega) [go_sem, h, dn]
 rw [hm]
 clear hm hc e1 e2
 obtain ⟨a, rfl⟩ := c3z (h1.trans (by decide))
 have la := hf a (by simp)
 rw [sl1] at h
 obtain ⟨x, y, z, rfl⟩ := e65 (h2.trans (by decide))
 obtain ⟨ash, aw⟩ := a
 cases aw
 ·have hr' : r = bad 6 := by rw [<- hr]; simp
  rw [hr']
  simp (disch := omega) [go_sem, h]
  refine a0b ?_
  simp (disch := omega) [go_sem, h]
  refine a0d (by decide) fun s2 hs2 hes2 => ?_
  simp (disch := omega) [go_sem, hs2, h]
  refine a0b ?_
  simp (disch := omega) [go_sem, hs2, h, h7, bad, dn, a0v]
  refine a0d (by decide) fun s9 hs9 hes9 => ?_
  simp (disch := omega) [go_sem, hs9, hs2, h, h7, bad, dn, a0v]
 ·have hr' : r = if ((decide (0 <= x) && decide (x <= 2147483647)) && ((decide (0 <= y) && decide (y <= 62)) && b6p z false)) = true then (⟨ash, false⟩, .nil) else bad 3 := by rw [<- hr]; simp [a1u, a1o, b6p]
  generalize hb : ((decide (0 <= x) && decide (x <= 2147483647)) && ((decide (0 <= y) && decide (y <= 62)) && b6p z false)) = b at hr'
  rw [hr']
  clear hr hr'
  simp (disch := omega) [go_sem, h]
  refine a0b ?_
  simp (disch := omega) [go_sem, h]
  refine a0d (by decide) fun s2 hs2 hes2 => ?_
  simp (disch := omega) [go_sem, hs2, h]
  refine a0b ?_
  simp (disch := omega) [go_sem, hs2, h]
  refine a0d (by decide) fun s3 hs3 hes3 => ?_
  simp (disch := omega) [go_sem, hs3, hs2, h]
  refine a0j (c80 x 0 2147483647) rfl rfl ?_
  cases f1 : (decide (0 <= x) && decide (x <= 2147483647))
  ·have hb' : b = false := by rw [<- hb, f1]; simp
   rw [hb', if_neg (by simp)]
   simp (disch := omega) [go_sem, hs3, hs2, h, f1]
   refine a0b ?_
   simp (disch := omega) [go_sem, hs3, hs2, h, h3, bad, dn, a0v]
   refine a0d (by decide) fun s9 hs9 hes9 => ?_
   simp (disch := omega) [go_sem, hs9, hs3, hs2, h, h3, bad, dn, a0v]
  simp (disch := omega) [go_sem, hs3, hs2, h, f1]
  refine a0j (c80 y 0 62) rfl rfl ?_
  cases f2 : (decide (0 <= y) && decide (y <= 62))
  ·have hb' : b = false := by rw [<- hb, f2]; simp
   rw [hb', if_neg (by simp)]
   simp (disch := omega) [go_sem, hs3, hs2, h, f2]
   refine a0b ?_
   simp (disch := omega) [go_sem, hs3, hs2, h, h3, bad, dn, a0v]
   refine a0d (by decide) fun s9 hs9 hes9 => ?_
   simp (disch := omega) [go_sem, hs9, hs3, hs2, h, h3, bad, dn, a0v]
  simp (disch := omega) [go_sem, hs3, hs2, h, f2]
  refine a0j (c9e z false) rfl rfl ?_
  cases f3 : b6p z false
  ·have hb' : b = false := by rw [<- hb, f3]; simp
   rw [hb', if_neg (by simp)]
   simp (disch := omega) [go_sem, hs3, hs2, h, f3]
   refine a0b ?_
   simp (disch := omega) [go_sem, hs3, hs2, h, h3, bad, dn, a0v]
   refine a0d (by decide) fun s9 hs9 hes9 => ?_
   simp (disch := omega) [go_sem, hs9, hs3, hs2, h, h3, bad, dn, a0v]
  have hb' : b = true := by rw [<- hb, f1, f2, f3]; rfl
  rw [hb', if_pos rfl]
  simp (disch := omega) [go_sem, hs3, hs2, h, f3]
  refine a0j (a21 ash true la) rfl (by simp only [owI, a0x, a04, a2c, Bool.and_true]) ?_
  simp (disch := omega) [go_sem, hs3, hs2, h, a0v]
end
end Go.Ideal.Tryd
end
section
namespace Go.Ideal.Tryd
attribute [local go_sem] eD eT eV
section
variable {G : GG} {bk : Nat -> Nat × Nat} {Q : Exit -> St -> Prop} {st : St}
theorem c4u (hS : SentO G bk) (args : List Int) (ins : List Ds) (hf : ∀ d ∈ ins, d.shape.length < 2 ^ 40)  (h1 : ins.length = a2v 11) (h2 : args.length = a17 11) : ACalls pg G a1q [li (11 : Int), slI args, slD ins] (b35 bk (a53 11 args ins)) := by
 have h7 := hS.val 7 (by decide)
 have h3 := hS.val 3 (by decide)
 have hn : ins.length < 2 ^ 40 := by
  rw [h1]; unfold a2v; split <;> (try split) <;> simp
 have e1 : ((a2v 11 : Nat) : Int) = (ins.length : Int) := by rw [h1]
 have e2 : ((a17 11 : Nat) : Int) = (args.length : Int) := by rw [h2]
 unfold a53
 generalize hr : (if (ins.length = 2 /\ ins[0]! ≠ ins[1]!) \/ ((11 : Int) = 10 /\ ins[0]!.wide = false) \/ ((11 : Int) = 11 /\ ins[0]!.wide = true) then bad 6 else if a1u 11 args ins[0]!.wide = true then ((⟨ins[0]!.shape, a1o 11 ins[0]!.wide⟩, .nil) : Dr) else bad 3) = r
 have hc := a4m (G := G) 11 (by omega)
 rw [e1, e2] at hc
 refine a1f rfl ?_
 simp (disch := omega) [go_sem, a1v]
 refine a0j hc rfl rfl ?_
 simp (disch := omega) [go_sem]
 refine a7q hS.three (op := 11) (args := args) (ins := ins) (r := r) hn hf (by simp (disch := omega) [go_sem]) (fun e he hm s h => ?_) (fun hm s h => ?_)
 ·rw [hm]
  simp (disch := omega) [go_sem, h, dn]
 rw [hm]
 clear hm hc e1 e2
 obtain ⟨a, rfl⟩ := c3z (h1.trans (by decide))
 have la := hf a (by simp)
 rw [sl1] at h
 obtain ⟨x, rfl⟩ := c3z (h2.trans (by decide))
 obtain ⟨ash, aw⟩ := a
 cases aw
 ·have hr' : r = if b6p x false = true then (⟨ash, true⟩, .nil) else bad 3 := by rw [<- hr]; simp [a1u, a1o, b6p]
  rw [hr']
  clear hr hr'
  simp (disch := omega) [go_sem, h]
  refine a0b ?_
  simp (disch := omega) [go_sem, h]
  refine a0d (by decide) fun s2 hs2 hes2 => ?_
  simp (disch := omega) [go_sem, hs2, h]
  refine a0b ?_
  simp (disch := omega) [go_sem, hs2, h]
  refine a0d (by decide) fun s3 hs3 hes3 => ?_
  simp (disch := omega) [go_sem, hs3, hs2, h]
  refine a0j (c9e x false) rfl rfl ?_
  cases f3 : b6p x false
  ·rw [if_neg (by simp)]
   simp (disch := omega) [go_sem, hs3, hs2, h, f3]
   refine a0b ?_
   simp (disch := omega) [go_sem, hs3, hs2, h, h3, bad, dn, a0v]
   refine a0d (by decide) fun s9 hs9 hes9 => ?_
   simp (disch := omega) [go_sem, hs9, hs3, hs2, h, h3, bad, dn, a0v]
  rw [if_pos (by simp)]
  simp (disch := omega) [go_sem, hs3, hs2, h, f3]
  refine a0j (a21 ash false la) rfl (by simp only [owI, a0x, a04, a2c, Bool.and_true]) ?_
  simp (disch := omega) [go_sem, hs3, hs2, h, a0v]
 ·have hr' : r = bad 6 := by rw [<- hr]; simp
  rw [hr']
  simp (disch := omega) [go_sem, h]
  refine a0b ?_
  simp (disch := omega) [go_sem, h]
  refine a0d (by decide) fun s2 hs2 hes2 => ?_
  simp (disch := omega) [go_sem, hs2, h]
  refine a0b ?_
  simp (disch := omega) [go_sem, hs2, h, h7, bad, dn, a0v]
  refine a0d (by decide) fun s9 hs9 hes9 => ?_
  simp (disch := omega) [go_sem, hs9, hs2, h, h7, bad, dn, a0v]
end
end Go.Ideal.Tryd
end
section
namespace Go.Ideal.Tryd
attribute [local go_sem] eD eT eV
section
variable {G : GG} {bk : Nat -> Nat × Nat} {Q : Exit -> St -> Prop} {st : St}
theorem d85 (hS : SentO G bk) (op : Int) (args : List Int) (ins : List Ds) (hf : ∀ d ∈ ins, d.shape.length < 2 ^ 40) (ho : 4 <= op /\ op <= 11) (h1 : ins.length = a2v op) (h2 : args.length = a17 op) : ACalls pg G a1q [li op, slI args, slD ins] (b35 bk (a53 op args ins)) := by
 obtain rfl | rfl | rfl | rfl | rfl | rfl | rfl | rfl : op = 4 \/ op = 5 \/ op = 6 \/ op = 7 \/ op = 8 \/ op = 9 \/ op = 10 \/ op = 11 := by omega
 ·exact c75 hS args ins hf h1 h2
 ·exact c76 hS args ins hf h1 h2
 ·exact c77 hS args ins hf h1 h2
 ·exact c78 hS args ins hf h1 h2
 ·exact c79 hS args ins hf h1 h2
 ·exact c8a hS args ins hf h1 h2
 ·exact c4t hS args ins hf h1 h2
 ·exact c4u hS args ins hf h1 h2
theorem a3j (r : Dr) : a0r (b35 bk r) = true := by simp [go_sem, a0r]
theorem f3g (hS : SentO G bk) (op : Int) (args : List Int) (ins : List Ds) (hf : ∀ d ∈ ins, d.shape.length < 2 ^ 40) (hn : ins.length < 2 ^ 40) (ha : args.length < 2 ^ 40) : ACalls pg G b9h [li op, slI args, slD ins] (b35 bk (opR op args ins)) := by
 have h7 := hS.val 7 (by decide)
 have h4 := hS.val 4 (by decide)
 refine b37 rfl ?_
 simp (disch := omega) [go_sem, b23]
 refine a0j (c0k op) rfl rfl ?_
 cases hk : a2q op
 ·rw [show opR op args ins = bad 5 by simp [opR, hk]]
  simp (disch := omega) [go_sem]
  refine a0b ?_
  simp (disch := omega) [go_sem, h4, bad, dn, a0v]
  refine a0d (by decide) fun s2 hs2 hes2 => ?_
  simp (disch := omega) [go_sem, hs2, h4, bad, dn, a0v]
 simp (disch := omega) [go_sem]
 refine a0j (f15 op) rfl rfl ?_
 by_cases k1 : ins.length = a2v op
 ·have k1' : (ins.length : Int) = (a2v op : Nat) := by omega
  have hop : 4 <= op /\ op <= 21 := by simpa [a2q] using hk
  by_cases k2 : op = 18
  ·subst k2
   obtain ⟨a, rfl⟩ := c3z (k1.trans (by decide))
   have la := hf a (by simp)
   rw [show opR 18 args [a] = a5x args a by rw [opR, if_pos hk, if_pos ⟨k1, .inl rfl⟩]; rfl, sl1]
   simp (disch := omega) [go_sem, <- k1']
   refine a0m (e3j hS args a la ha) (a3j _) (by simp (disch := omega) [go_sem]) ?_
   simp (disch := omega) [go_sem]
  ·simp (disch := omega) [go_sem, k1', k2]
   refine a0j (d7t op) rfl rfl ?_
   by_cases k3 : args.length = a17 op
   ·have k3' : (args.length : Int) = (a17 op : Nat) := by omega
    obtain ho | rfl | rfl | rfl | rfl | rfl | rfl | rfl | rfl | rfl : (4 <= op /\ op <= 11) \/ op = 12 \/ op = 13 \/ op = 14 \/ op = 15 \/ op = 16 \/ op = 17 \/ op = 19 \/ op = 20 \/ op = 21 := by omega
    ·rw [show opR op args ins = a53 op args ins by
      rw [opR, if_pos hk, if_pos ⟨k1, .inr k3⟩]
      simp only [show ¬ op = 12 by omega, show ¬ op = 13 by omega, show ¬ op = 14 by omega, show ¬ op = 15 by omega, show ¬ op = 16 by omega, show ¬ op = 17 by omega, show ¬ op = 19 by omega, show ¬ op = 20 by omega, show ¬ op = 18 by omega, show ¬ op = 21 by omega, or_self, if_false]]
     simp (disch := omega) [go_sem, k1', k2, k3', show ¬ op = 12 by omega, show ¬ op = 13 by omega, show ¬ op = 14 by omega, show ¬ op = 15 by omega, show ¬ op = 16 by omega, show ¬ op = 17 by omega, show ¬ op = 19 by omega, show ¬ op = 20 by omega, show ¬ op = 18 by omega, show ¬ op = 21 by omega]
     refine a0m (d85 hS op args ins hf ho k1 k3) (a3j _) (by simp (disch := omega) [go_sem]) ?_
     simp (disch := omega) [go_sem]
    ·
     obtain ⟨a, b, rfl⟩ := b9c (k1.trans (by decide))
     have la := hf a (by simp)
     have lb' := hf b (by simp)
     obtain ⟨x, y, rfl⟩ := b9c (k3.trans (by decide))
     rw [show opR 12 [x, y] [a, b] = c7f x y a b by rw [opR, if_pos hk, if_pos ⟨k1, .inr k3⟩]; rfl]
     rw [sl2]
     simp (disch := omega) [go_sem, k1', k3']
     refine a0b ?_
     simp (disch := omega) [go_sem]
     refine b2e (e1a hS x y a b (by omega) (by omega)) (a3j _) (by simp (disch := omega) [go_sem]) (by simp (disch := omega) [go_sem, a0w, a8b]) [46] (by simp) (by simp (disch := omega) [go_sem]) ?_
     simp (disch := omega) [go_sem, a0w, a8b]
     refine a0d (by decide) fun s2 hs2 he2 => ?_
     simp (disch := omega) [go_sem, hs2]
    ·
     obtain ⟨a, b, rfl⟩ := b9c (k1.trans (by decide))
     have la := hf a (by simp)
     have lb' := hf b (by simp)
     obtain ⟨x, y, z, rfl⟩ := e65 (k3.trans (by decide))
     rw [show opR 13 [x, y, z] [a, b] = b34 [x, y, z] a b by rw [opR, if_pos hk, if_pos ⟨k1, .inr k3⟩]; rfl]
     rw [sl2]
     simp (disch := omega) [go_sem, k1', k3']
     refine a0b ?_
     simp (disch := omega) [go_sem]
     refine b2e (d1o hS x y z a b (by omega) (by omega)) (a3j _) (by simp (disch := omega) [go_sem]) (by simp (disch := omega) [go_sem, a0w, a8b]) [58] (by simp) (by simp (disch := omega) [go_sem]) ?_
     simp (disch := omega) [go_sem, a0w, a8b]
     refine a0d (by decide) fun s2 hs2 he2 => ?_
     simp (disch := omega) [go_sem, hs2]
    ·
     obtain ⟨a, rfl⟩ := c3z (k1.trans (by decide))
     have la := hf a (by simp)
     obtain ⟨x, y, rfl⟩ := b9c (k3.trans (by decide))
     rw [show opR 14 [x, y] [a] = b8q [x, y] a by rw [opR, if_pos hk, if_pos ⟨k1, .inr k3⟩]; rfl]
     rw [sl1]
     simp (disch := omega) [go_sem, k1', k3']
     refine a0m (d0v hS x y a (by omega)) (a3j _) (by simp (disch := omega) [go_sem]) ?_
     simp (disch := omega) [go_sem]
    ·
     obtain ⟨a, rfl⟩ := c3z (k1.trans (by decide))
     have la := hf a (by simp)
     obtain ⟨x, y, rfl⟩ := b9c (k3.trans (by decide))
     rw [show opR 15 [x, y] [a] = b8q [x, y] a by rw [opR, if_pos hk, if_pos ⟨k1, .inr k3⟩]; rfl]
     rw [sl1]
     simp (disch := omega) [go_sem, k1', k3']
     refine a0m (d0v hS x y a (by omega)) (a3j _) (by simp (disch := omega) [go_sem]) ?_
     simp (disch := omega) [go_sem]
    ·
     rw [show opR 16 args ins = c1a 16 ins by rw [opR, if_pos hk, if_pos ⟨k1, .inr k3⟩]; rfl]
     simp (disch := omega) [go_sem, k1', k3']
     refine a0m (c2f hS 16 ins hf (by rw [k1]; decide)) (a3j _) (by simp (disch := omega) [go_sem]) ?_
     simp (disch := omega) [go_sem]
    ·
     rw [show opR 17 args ins = c1a 17 ins by rw [opR, if_pos hk, if_pos ⟨k1, .inr k3⟩]; rfl]
     simp (disch := omega) [go_sem, k1', k3']
     refine a0m (c2f hS 17 ins hf (by rw [k1]; decide)) (a3j _) (by simp (disch := omega) [go_sem]) ?_
     simp (disch := omega) [go_sem]
    ·
     rw [show opR 19 args ins = c1a 19 ins by rw [opR, if_pos hk, if_pos ⟨k1, .inr k3⟩]; rfl]
     simp (disch := omega) [go_sem, k1', k3']
     refine a0m (c2f hS 19 ins hf (by rw [k1]; decide)) (a3j _) (by simp (disch := omega) [go_sem]) ?_
     simp (disch := omega) [go_sem]
    ·
     rw [show opR 20 args ins = c1a 20 ins by rw [opR, if_pos hk, if_pos ⟨k1, .inr k3⟩]; rfl]
     simp (disch := omega) [go_sem, k1', k3']
     refine a0m (c2f hS 20 ins hf (by rw [k1]; decide)) (a3j _) (by simp (disch := omega) [go_sem]) ?_
     simp (disch := omega) [go_sem]
    ·
     obtain ⟨a, rfl⟩ := c3z (k1.trans (by decide))
     have la := hf a (by simp)
     rw [show opR 21 args [a] = b6l a by rw [opR, if_pos hk, if_pos ⟨k1, .inr k3⟩]; rfl]
     rw [sl1]
     simp (disch := omega) [go_sem, k1', k3']
     refine a0m (e4u hS a (by omega)) (a3j _) (by simp (disch := omega) [go_sem]) ?_
     simp (disch := omega) [go_sem]
   ·have k3' : ¬ (args.length : Int) = (a17 op : Nat) := by omega
    rw [show opR op args ins = bad 6 by rw [opR, if_pos hk, if_neg (fun h => h.2.elim k2 k3)]]
    simp (disch := omega) [go_sem, k1', k2, k3']
    refine a0b ?_
    simp (disch := omega) [go_sem, h7, bad, dn, a0v]
    refine a0d (by decide) fun s2 hs2 hes2 => ?_
    simp (disch := omega) [go_sem, hs2, h7, bad, dn, a0v]
 ·have k1' : ¬ (ins.length : Int) = (a2v op : Nat) := by omega
  rw [show opR op args ins = bad 6 by rw [opR, if_pos hk, if_neg (fun h => k1 h.1)]]
  simp (disch := omega) [go_sem, k1']
  refine a0b ?_
  simp (disch := omega) [go_sem, h7, bad, dn, a0v]
  refine a0d (by decide) fun s2 hs2 hes2 => ?_
  simp (disch := omega) [go_sem, hs2, h7, bad, dn, a0v]
end
end Go.Ideal.Tryd
end
section
namespace Go.Ideal.Tryd
attribute [local go_sem] eD
def lkD (l : Lk) (ks : List Int) : List Ds := ks.map fun k => l.descs[k.toNat]!
@[simp] theorem d2n {l : Lk} {ks : List Int} : (lkD l ks).length = ks.length := by simp [lkD]
def a3c (l : Lk) (n : Nd) : Dr × Lk :=
 if a2q n.op = true then (opR n.op n.args (lkD l n.ins), l)
 else if n.op < 1 \/ 3 < n.op then (bad 5, l)
 else if 0 < n.ins.length then (bad 6, l)
 else if n.op = 1 then inR l n.args
 else if n.op = 3 then wtR l n.args
 else if 0 < n.args.length then (bad 6, l)
 else if (b0e n.shape n.wide n.data).isNil = true then ((⟨n.shape, n.wide⟩, .nil), l)
 else ((dn, b0e n.shape n.wide n.data), l)
structure Lk.fin (l : Lk) : Prop where
 descs : ∀ d ∈ l.descs, d.shape.length < 2 ^ 40
 hin : l.hin.shape.length < 2 ^ 36
 vals : ∀ d ∈ l.vals, d.shape.length < 2 ^ 36
 ws : l.ws.length <= 8
theorem a9s {args : List Int} {a : Nat} (h : args.length < 2 ^ 36) : (a3u args a).1.shape.length < 2 ^ 36 := by
 unfold a3u chk bad dn
 split
 ·simp
 ·split
  ·simp
  ·split
   ·simp; omega
   ·simp
theorem c1v {α : Type} {f : α -> List AV} {k j : Nat} {xs : List α} (hf : ∀ x, (f x).length = k) (h : xs.length = j) : (fm f xs).take (j * k) = fm f xs := by rw [<- h]; exact a4b hf
section
variable {G : GG} {bk : Nat -> Nat × Nat} {Q : Exit -> St -> Prop} {st : St}
theorem d2y {l : Lk} {n : Nd} (hi : ∀ k ∈ n.ins, 0 <= k /\ k < l.descs.length) (hl : n.ins.length < 2 ^ 36)
  (h : st.s 0 = .var (eLk l) /\ st.s 3 = .var (a5u n) /\ st.s 4 = .var [.own 1 0 [], lb false] /\ st.s 5 = .lit .nilIface /\ st.s 6 = .own 2 0 [] /\ st.s 15 = slI n.ins /\ st.s 16 = li n.ins.length /\ st.s 17 = li 0)
  (hex : ∀ s : St, s.s 0 = .var (eLk l) /\ s.s 3 = .var (a5u n) /\ s.s 4 = .var [.own 1 0 [], lb false] /\ s.s 5 = .lit .nilIface /\ s.s 6 = .own 2 n.ins.length (fm eD (lkD l n.ins)) -> Q (.exit 1) s) : AW pg G 95 (.loop a18) Q st := by
 refine a06 Nat (fun j st => j <= n.ins.length /\ st.s 0 = .var (eLk l) /\ st.s 3 = .var (a5u n) /\ st.s 4 = .var [.own 1 0 [], lb false] /\ st.s 5 = .lit .nilIface /\ st.s 6 = .own 2 j (fm eD (lkD l (n.ins.take j))) /\ st.s 15 = slI n.ins /\ st.s 16 = li n.ins.length /\ st.s 17 = li j) (fun j => n.ins.length - j) 0 ⟨by omega, by simpa [fm, lkD] using h⟩ ?_
 clear h
 rintro j st K ⟨hj, h⟩ hK
 by_cases c : j < n.ins.length
 ·have hk := hi _ (List.getElem_mem c)
  obtain ⟨kk, hkk⟩ : ∃ kk : Nat, n.ins[j] = kk := ⟨n.ins[j].toNat, by omega⟩
  rw [hkk] at hk
  have hk2 : kk < l.descs.length := by omega
  simp only [eLk] at h
  have ht : (fm eD (lkD l (n.ins.take j))).take (j * 2) = fm eD (lkD l (n.ins.take j)) := c1v (fun _ => rfl) (by simp; omega)
  simp (disch := omega) [go_sem, a18, h, c, hkk, hk2]
  have e : l.descs[((kk : Int)).toNat]! = l.descs[kk] := by simp [hk2]
  refine hK (j + 1) _ ⟨by omega, ?_⟩ (by omega)
  have e2 : lkD l (n.ins.take (j + 1)) = lkD l (n.ins.take j) ++ [l.descs[kk]] := by
   rw [List.take_succ_eq_append_getElem c, lkD, List.map_append, List.map_cons, List.map_nil, hkk, e]; rfl
  rw [e2, a8s, a7e]
  simp (disch := omega) [go_sem, h, eLk, ht]
 ·have : j = n.ins.length := by omega
  subst this
  simp (disch := omega) [go_sem, a18, h]
  refine hex _ ?_
  simp (disch := omega) [go_sem, h]
theorem e2r (hS : SentO G bk) (l : Lk) (n : Nd) (hf : l.fin) (hn : n.sh) (hi : a2q n.op = true -> ∀ k ∈ n.ins, 0 <= k /\ k < l.descs.length) : ACallsX pg G a80 [.var (eLk l), .agg (a5u n)] (b35 bk (a3c l n).1) [(0, .var (eLk (a3c l n).2))] := by
 have h7 := hS.val 7 (by decide)
 have h4 := hS.val 4 (by decide)
 have hn1 := hn.ins
 have hn2 := hn.args
 have hn3 := hn.shape
 have hn4 := hn.data
 refine a66 (pins := [0]) (by kernel_rfl) rfl rfl (by simp [go_sem]) rfl ?_
 simp (disch := omega) [go_sem, a5l, a5u]
 refine a0j (c0k n.op) rfl rfl ?_
 cases hk : a2q n.op with
 | true =>
  simp (disch := omega) [go_sem, hk]
  refine d2y (l := l) (n := n) (hi hk) hn1 (by simp (disch := omega) [go_sem, a5u]) (fun s h => ?_)
  simp only [a5u] at h
  simp (disch := omega) [go_sem, h]
  have spec := f3g hS n.op n.args (lkD l n.ins) (by
   intro d hd
   simp only [lkD, List.mem_map] at hd
   obtain ⟨k, hk2, rfl⟩ := hd
   obtain ⟨h1, h2⟩ := hi hk k hk2
   have hlt : k.toNat < l.descs.length := by omega
   have := hf.descs _ (List.getElem_mem hlt)
   simp only [hlt, getElem!_pos]
   omega) (by simp; omega) (by omega)
  simp only [slD, d2n] at spec
  have ht : (fm eD (lkD l n.ins)).take (n.ins.length * 2) = fm eD (lkD l n.ins) := c1v (fun _ => rfl) (by simp)
  simp (disch := omega) [go_sem, ht]
  refine a6y spec (a3j _) ?_ ?_ <;>
  simp (disch := omega) [go_sem, h, a0g, a3c, hk, eLk]
 | false =>
  simp (disch := omega) [go_sem, hk]
  by_cases o1 : n.op < 1
  ·simp (disch := omega) [go_sem, o1]
   refine a0b ?_
   simp (disch := omega) [go_sem, h4]
   refine a0d (by decide) fun s3 hs3 hep3 => ?_
   simp (disch := omega) [go_sem, hs3, a3c, hk, o1, bad, dn, a0v, eLk]
  by_cases o3 : 3 < n.op
  ·simp (disch := omega) [go_sem, o1, o3]
   refine a0b ?_
   simp (disch := omega) [go_sem, h4]
   refine a0d (by decide) fun s3 hs3 hep3 => ?_
   simp (disch := omega) [go_sem, hs3, a3c, hk, o1, o3, bad, dn, a0v, eLk]
  by_cases hi0 : 0 < n.ins.length
  ·simp (disch := omega) [go_sem, o1, o3, hi0]
   refine a0b ?_
   simp (disch := omega) [go_sem, h7]
   refine a0d (by decide) fun s3 hs3 hep3 => ?_
   simp (disch := omega) [go_sem, hs3, a3c, hk, o1, o3, hi0, bad, dn, a0v, eLk]
  by_cases p1 : n.op = 1
  ·have spec := g0a hS l n hf.hin (by omega) (a9s (by omega))
   simp only [a5u, p1] at spec
   simp (disch := omega) [go_sem, o1, o3, hi0, p1]
   refine b5m spec rfl rfl rfl (by simp (disch := omega) [go_sem]) ?_
   simp (disch := omega) [go_sem, a0g, a3c, hk, o1, o3, hi0, p1, show a2q 1 = false from rfl]
  by_cases p3 : n.op = 3
  ·have spec := g0w hS l n hf.vals hf.ws (by omega) (a9s (by omega))
   simp only [a5u, p3] at spec
   simp (disch := omega) [go_sem, o1, o3, hi0, p1, p3]
   refine b5m spec rfl rfl rfl (by simp (disch := omega) [go_sem]) ?_
   simp (disch := omega) [go_sem, a0g, a3c, hk, o1, o3, hi0, p1, p3, show a2q 3 = false from rfl]
  by_cases ha0 : 0 < n.args.length
  ·simp (disch := omega) [go_sem, o1, o3, hi0, p1, p3, ha0]
   refine a0b ?_
   simp (disch := omega) [go_sem, h7]
   refine a0d (by decide) fun s3 hs3 hep3 => ?_
   simp (disch := omega) [go_sem, hs3, a3c, hk, o1, o3, hi0, p1, p3, ha0, bad, dn, a0v, eLk]
  simp (disch := omega) [go_sem, o1, o3, hi0, p1, p3, ha0]
  refine a0m (c61 hS.three n.shape n.wide n.data (by omega) (by omega)) (a0t _) (by simp (disch := omega) [go_sem]) ?_
  cases hv : (b0e n.shape n.wide n.data).isNil with
  | false => simp (disch := omega) [go_sem, hv, a0g, a3c, hk, o1, o3, hi0, p1, p3, ha0, dn]
  | true =>
   simp (disch := omega) [go_sem, hv]
   refine a0m ((a21 n.shape n.wide (by omega)).shown (res' := .agg [slI n.shape, lb n.wide]) (by simp (disch := omega) [go_sem])) (by simp (disch := omega) [go_sem]) (by simp (disch := omega) [go_sem]) ?_
   simp (disch := omega) [go_sem, hv, a0g, a3c, hk, o1, o3, hi0, p1, p3, ha0, a0v]
end
end Go.Ideal.Tryd
end
section
namespace Go.Ideal.Tryd
attribute [local go_sem] eD eT eV
section
variable {G : GG} {bk : Nat -> Nat × Nat} {Q : Exit -> St -> Prop} {st : St}
end
end Go.Ideal.Tryd
end
section
namespace Go.Ideal.Tryd
attribute [local go_sem] eD eT eV eI eP
section
variable {G : GG} {bk : Nat -> Nat × Nat} {Q : Exit -> St -> Prop} {st : St}
theorem c2t (sh : List Int) (w : Bool) : 0 <= a38 sh w /\ a38 sh w <= 65536 := by
 have hbr := a8c sh
 unfold a38
 split <;> omega
end
end Go.Ideal.Tryd
end
section
namespace Go.Ideal.Tryd
attribute [local go_sem] eD eT eV eI eP
section
variable {G : GG} {bk : Nat -> Nat × Nat} {Q : Exit -> St -> Prop} {st : St}
end
end Go.Ideal.Tryd
end
