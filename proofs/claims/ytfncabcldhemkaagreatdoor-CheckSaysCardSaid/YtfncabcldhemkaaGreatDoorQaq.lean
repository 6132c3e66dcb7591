/- Part Qaq of the proof: a machine with trees for values, its soundness, and walks on it. -/
import Derived.Test.YtfncabcldhemkaaGreatDoorQan
import Derived.Test.YtfncabcldhemkaaGreatDoorQap
import Derived.Test.YtfncabcldhemkaaGreatDoorQao
import Derived.Test.YtfncabcldhemkaaGreatDoorQam
set_option linter.unusedVariables false
set_option linter.unusedSimpArgs false
set_option maxHeartbeats 8000000
set_option maxRecDepth 200000
section
namespace Go.Ideal.Tryz
attribute [local go_sem] eD eT eV
section
variable {G : GG} {bk : Nat -> Nat × Nat} {Q : Exit -> St -> Prop} {st : St}
theorem d9g (p q za : Int) (a b : Ds) (ha : a.shape.length < 2 ^ 40) (hb : b.shape.length < 2 ^ 40) : ACalls pg G b0o [slI [p, q, za], .agg (eD a), .agg (eD b)] (rAV (a8l [p, q, za] a b)) := by
 have hD := a26 (G := G) [a, b] (by simp) (by intro d hd; simp at hd; rcases hd with rfl | rfl <;> omega)
 rw [show slD [a, b] = .sl 2 [slI a.shape, lb a.wide, slI b.shape, lb b.wide] from rfl] at hD
 refine a8n rfl ?_
 simp (disch := omega) [go_sem, a5p, a7a, a0r]
 refine a0b hD rfl rfl ?_
 by_cases hn : eC (a1o [a, b]) = 0
 rotate_left
 ·have hr : a8l [p, q, za] a b = (dn, a1o [a, b]) := by
   have : (a1o [a, b]).isNil = false := by
    rcases a00 [a, b] with e | e | e <;> rw [e] at hn ⊢
    ·exact absurd rfl hn
    ·rfl
    ·rfl
   show a81 [a, b] _ = _
   rw [a3b, chk, if_neg (by rw [this]; simp)]
  rw [hr]
  simp (disch := omega) [go_sem, hn, dn]
 have hnil : a1o [a, b] = .nil := by
  rcases a00 [a, b] with e | e | e <;> rw [e] at hn ⊢ <;> exact absurd hn (by decide)
 obtain ⟨ea, eb⟩ := e4y hnil
 clear hD
 simp (disch := omega) [go_sem, hn]
 have hbd : ¬ (a.shape.length = 3 /\ b.shape.length = 4 /\ a.shape[2]! = b.shape[2]! /\ a.wide = false /\ b.wide = false) -> a8l [p, q, za] a b = (dn, .s 6) := fun k => by
  simp only [a8l, chk, ea, eb, Er.isNil, if_true, k, if_false]; rfl
 by_cases c1 : a.shape.length = 3
 ·obtain ⟨ash, aw⟩ := a
  obtain ⟨x, y, z, rfl⟩ := d3q c1
  by_cases c2 : b.shape.length = 4
  ·obtain ⟨bsh, bw⟩ := b
   obtain ⟨u, v, w, o, rfl⟩ := e7g c2
   by_cases c3 : z = w
   ·cases aw
    ·cases bw
     ·have hgd : a8l [p, q, za] ⟨[x, y, z], false⟩ ⟨[u, v, w, o], false⟩ = 
       (if 1 <= p /\ p <= 16 /\ 0 <= q /\ q <= 15 /\ a1s za = true then
        (if 0 <= x + 2 * q - u /\ 0 <= y + 2 * q - v then
         a6r [(x + 2 * q - u) / p + 1, (y + 2 * q - v) / p + 1, o] true else bad 6) else bad 3) := by
       simp only [a8l, chk, ea, eb, Er.isNil, if_true]; simp [c3]
      rw [hgd]
      clear hgd hbd
      have hx := a2f ea x (by simp)
      have hy := a2f ea y (by simp)
      have hu := a2f eb u (by simp)
      have hv := a2f eb v (by simp)
      refine a0c ?_
      simp (disch := omega) [go_sem, c3]
      refine a0d (by decide) fun s2 hs2 hes2 => ?_
      simp (disch := omega) [go_sem, hs2, c3]
      by_cases p1 : p < 1
      ·rw [if_neg (by omega)]
       simp (disch := omega) [go_sem, hs2, bad, dn, eC3, p1]
      by_cases p2 : 16 < p
      ·rw [if_neg (by omega)]
       simp (disch := omega) [go_sem, hs2, bad, dn, eC3, p1, p2]
      by_cases p3 : q < 0
      ·rw [if_neg (by omega)]
       simp (disch := omega) [go_sem, hs2, bad, dn, eC3, p1, p2, p3]
      by_cases p4 : 15 < q
      ·rw [if_neg (by omega)]
       simp (disch := omega) [go_sem, hs2, bad, dn, eC3, p1, p2, p3, p4]
      simp (disch := omega) [go_sem, hs2, p1, p2, p3, p4]
      refine a0b (a9m za) rfl rfl ?_
      cases hnz : a1s za
      ·rw [if_neg (by simp)]
       simp (disch := omega) [go_sem, hs2, p1, p2, p3, p4, bad, dn, eC3]
      rw [if_pos ⟨by omega, by omega, by omega, by omega, rfl⟩]
      simp (disch := omega) [go_sem, hs2, p1, p2, p3, p4]
      by_cases p5 : x + 2 * q < u
      ·rw [if_neg (by omega)]
       refine a0c ?_
       simp (disch := omega) [go_sem, hs2, p5]
       refine a0d (by decide) fun s3 hs3 hes3 => ?_
       simp (disch := omega) [go_sem, hs3, hs2, p5, bad, dn, eC6]
      by_cases p6 : y + 2 * q < v
      ·rw [if_neg (by omega)]
       refine a0c ?_
       simp (disch := omega) [go_sem, hs2, p5, p6]
       refine a0d (by decide) fun s3 hs3 hes3 => ?_
       simp (disch := omega) [go_sem, hs3, hs2, p5, p6, bad, dn, eC6]
      rw [if_pos (by omega)]
      refine a0c ?_
      simp (disch := omega) [go_sem, hs2, p5, p6]
      refine a0d (by decide) fun s3 hs3 hes3 => ?_
      simp (disch := omega) [go_sem, hs3, hs2, p5, p6]
      have w1 := wq (x := x + 2 * q - u) (y := p) (by omega)
      have w2 := wq (x := y + 2 * q - v) (y := p) (by omega)
      refine a0c ?_
      simp (disch := omega) [go_sem, hs3, hs2, w1]
      refine a0d (by decide) fun s4 hs4 hes4 => ?_
      simp (disch := omega) [go_sem, hs4, hs3, hs2, w1]
      refine a0c ?_
      simp (disch := omega) [go_sem, hs4, hs3, hs2, w2]
      refine a0d (by decide) fun s5 hs5 hes5 => ?_
      simp (disch := omega) [go_sem, hs5, hs4, hs3, hs2, w2, a7a, a0r]
      refine d0f (b12 [(x + 2 * q - u) / p + 1, (y + 2 * q - v) / p + 1, o] true (by simp)) (by simp [go_sem, a0k]) ?_ ?_
      all_goals simp (disch := omega) [go_sem, hs5, hs4, hs3, hs2]
     ·
      rw [hbd (by simp)]
      refine a0c ?_
      simp (disch := omega) [go_sem, c3]
      refine a0d (by decide) fun s2 hs2 hes2 => ?_
      simp (disch := omega) [go_sem, hs2, c3, dn, eC6]
    ·
     rw [hbd (by simp)]
     refine a0c ?_
     simp (disch := omega) [go_sem, c3]
     refine a0d (by decide) fun s2 hs2 hes2 => ?_
     simp (disch := omega) [go_sem, hs2, c3, dn, eC6]
   ·
    rw [hbd (by simp [c3])]
    cases aw
    all_goals cases bw
    all_goals (
     refine a0c ?_
     simp (disch := omega) [go_sem, c3]
     refine a0d (by decide) fun s2 hs2 hes2 => ?_
     simp (disch := omega) [go_sem, hs2, c3, dn, eC6])
  ·have c2' : ¬ (b.shape.length : Int) = 4 := by omega
   rw [hbd (fun k => c2 k.2.1)]
   refine a0c ?_
   simp (disch := omega) [go_sem, c2']
   refine a0d (by decide) fun s2 hs2 hes2 => ?_
   simp (disch := omega) [go_sem, hs2, c2', dn, eC6]
 ·have c1' : ¬ (a.shape.length : Int) = 3 := by omega
  rw [hbd (fun k => c1 k.1)]
  refine a0c ?_
  simp (disch := omega) [go_sem, c1']
  refine a0d (by decide) fun s2 hs2 hes2 => ?_
  simp (disch := omega) [go_sem, hs2, c1', dn, eC6]
end
end Go.Ideal.Tryz
end
section
namespace Go.Ideal.Tryz
attribute [local go_sem] eD eT eV
section
variable {G : GG} {bk : Nat -> Nat × Nat} {Q : Exit -> St -> Prop} {st : St}
theorem d9d {x y z n s : Int} (e : a03 [x, y, z] = .nil) (hn : 1 <= n) (hs : 1 <= s) (h1 : n <= x) (h2 : n <= y) : a03 [(x - n) / s + 1, (y - n) / s + 1, z] = .nil := by
 have hx := a2f e x (by simp)
 have hy := a2f e y (by simp)
 have hz := a2f e z (by simp)
 have ok := a6a.1 e
 have q1 := Int.ediv_nonneg (show 0 <= x - n by omega) (show 0 <= s by omega)
 have q2 := Int.ediv_nonneg (show 0 <= y - n by omega) (show 0 <= s by omega)
 have q3 := Int.ediv_le_self s (show 0 <= x - n by omega)
 have q4 := Int.ediv_le_self s (show 0 <= y - n by omega)
 generalize (x - n) / s = A at *
 generalize (y - n) / s = B at *
 refine a6a.2 ?_
 simp [c16, a30, a46] at ok ⊢
 have m1 : (A + 1) * (B + 1) <= x * y := Int.mul_le_mul (by omega) (by omega) (by omega) (by omega)
 have m2 : (A + 1) * (B + 1) * z <= x * y * z := Int.mul_le_mul_of_nonneg_right m1 (by omega)
 omega
theorem d2n (n s : Int) (a : Ds) (ha : a.shape.length < 2 ^ 40) : ACalls pg G b0p [slI [n, s], .agg (eD a)] (rAV (a70 [n, s] a)) := by
 have c := a6e (G := G) a.shape a.wide (by omega)
 rw [c3b] at c
 refine a8o rfl ?_
 simp (disch := omega) [go_sem, a5q]
 refine a0b c rfl rfl ?_
 by_cases hn : (a03 a.shape).isNil = true
 rotate_left
 ·have h0 : ¬ eC (a03 a.shape) = 0 := fun k => hn ((b0b a.shape).1 k)
  simp (disch := omega) [go_sem, h0, a70, chk, hn, dn]
 have h0 := (b0b a.shape).2 hn
 have ea := a48.1 hn
 clear c
 simp (disch := omega) [go_sem, h0]
 by_cases c1 : a.shape.length = 3
 rotate_left
 ·have c1' : ¬ (a.shape.length : Int) = 3 := by omega
  simp (disch := omega) [go_sem, c1', a70, chk, ea, Er.isNil, c1, bad, dn, eC6]
 obtain ⟨ash, aw⟩ := a
 obtain ⟨x, y, z, rfl⟩ := d3q c1
 have hx := a2f ea x (by simp)
 have hy := a2f ea y (by simp)
 have hgd : a70 [n, s] ⟨[x, y, z], aw⟩ = if 1 <= n /\ n <= 16 /\ 1 <= s /\ s <= 16 then
   (if 0 <= x - n /\ 0 <= y - n then (⟨[(x - n) / s + 1, (y - n) / s + 1, z], aw⟩, .nil) else bad 6) else bad 3 := by
  simp [a70, chk, ea, Er.isNil]
 rw [hgd]
 clear hgd
 by_cases p1 : n < 1
 ·rw [if_neg (by omega)]
  simp (disch := omega) [go_sem, bad, dn, eC3, p1]
 by_cases p2 : 16 < n
 ·rw [if_neg (by omega)]
  simp (disch := omega) [go_sem, bad, dn, eC3, p1, p2]
 by_cases p3 : s < 1
 ·rw [if_neg (by omega)]
  simp (disch := omega) [go_sem, bad, dn, eC3, p1, p2, p3]
 by_cases p4 : 16 < s
 ·rw [if_neg (by omega)]
  simp (disch := omega) [go_sem, bad, dn, eC3, p1, p2, p3, p4]
 rw [if_pos (by omega)]
 simp (disch := omega) [go_sem, p1, p2, p3, p4]
 by_cases p5 : x < n
 ·rw [if_neg (by omega)]
  simp (disch := omega) [go_sem, p5, bad, dn, eC6]
 by_cases p6 : y < n
 ·rw [if_neg (by omega)]
  simp (disch := omega) [go_sem, p5, p6, bad, dn, eC6]
 rw [if_pos (by omega)]
 have w1 := wq (x := x - n) (y := s) (by omega)
 have w2 := wq (x := y - n) (y := s) (by omega)
 have hok := d9d ea (by omega : 1 <= n) (by omega : 1 <= s) (by omega) (by omega)
 have hse : a6r [(x - n) / s + 1, (y - n) / s + 1, z] aw = (⟨[(x - n) / s + 1, (y - n) / s + 1, z], aw⟩, .nil) := by simp [a6r, chk, hok, Er.isNil]
 rw [<- hse]
 clear hse hok
 simp (disch := omega) [go_sem, p5, p6]
 refine a0c ?_
 simp (disch := omega) [go_sem, a7a, a0r, w1, w2]
 have hse := b12 (G := G) [(x - n) / s + 1, (y - n) / s + 1, z] aw (by simp)
 by_cases he : (a03 [(x - n) / s + 1, (y - n) / s + 1, z]).isNil = true
 ·have e2 : a6r [(x - n) / s + 1, (y - n) / s + 1, z] aw = (⟨[(x - n) / s + 1, (y - n) / s + 1, z], aw⟩, .nil) := by simp [a6r, chk, he]
  rw [e2] at hse ⊢
  refine b2a hse (by simp [go_sem, a0k]) (by simp [go_sem, a09, a1f]) (by simp (disch := omega) [go_sem, a0f, a1a]) [86, 85] (by simp) (by simp (disch := omega) [go_sem, w1, w2]) ?_
  simp (disch := omega) [go_sem, a0f, a1a, w1, w2]
  refine a0d (by decide) fun s3 hs3 hes3 => ?_
  simp (disch := omega) [go_sem, hs3, dn]
 ·have e2 : a6r [(x - n) / s + 1, (y - n) / s + 1, z] aw = (dn, a03 [(x - n) / s + 1, (y - n) / s + 1, z]) := by simp [a6r, chk, he]
  rw [e2] at hse ⊢
  refine a0i hse (by simp [go_sem, a0k]) (by simp [go_sem, a09, a1f, dn]) (by simp (disch := omega) [go_sem, a0f, a1a]) [86, 85] (by simp) (by simp (disch := omega) [go_sem, w1, w2]) ?_
  simp (disch := omega) [go_sem, a0f, a1a, w1, w2]
  refine a0d (by decide) fun s3 hs3 hes3 => ?_
  simp (disch := omega) [go_sem, hs3, dn]
end
end Go.Ideal.Tryz
end
section
namespace Go.Ideal.Tryz
attribute [local go_sem] eD eT eV
section
variable {G : GG} {bk : Nat -> Nat × Nat} {Q : Exit -> St -> Prop} {st : St}
theorem sl1 (a : Ds) : slD [a] = .sl 1 [slI a.shape, lb a.wide] := rfl
theorem sl2 (a b : Ds) : slD [a, b] = .sl 2 [slI a.shape, lb a.wide, slI b.shape, lb b.wide] := rfl
theorem d8v (a b : Ds) (ha : a.shape.length < 2 ^ 40) (hb : b.shape.length < 2 ^ 40) : ACalls pg G a71 [li 16, slD [a, b]] (.tup [.agg (eD (a1m 16 [a, b]).1), lb (a1m 16 [a, b]).2]) := by
 have hr : a1m 16 [a, b] = (a, decide (0 < a.shape.length /\ a.wide = false /\ b = ⟨[256], true⟩)) := rfl
 rw [hr, sl2]
 refine ACalls.shown (res := .tup [.agg [owI a.shape, lb a.wide], lb (decide (0 < a.shape.length /\ a.wide = false /\ b = ⟨[256], true⟩))]) ?_ (by simp [go_sem, frz, a2g, owI])
 refine a2y rfl ?_
 simp (disch := omega) [go_sem, a3k]
 refine a0b (a68 a.shape a.wide ha) rfl (by simp only [owI, a09, a1f, a3g, Bool.and_true]) ?_
 by_cases c1 : 0 < a.shape.length
 ·cases hw : a.wide
  ·simp (disch := omega) [go_sem, c1, hw, a7a, a0r]
   refine a0b (a51 b ⟨[256], true⟩ (by omega) (by simp)) rfl rfl ?_
   simp (disch := omega) [go_sem, c1, hw]
  ·simp (disch := omega) [go_sem, c1, hw]
 ·simp (disch := omega) [go_sem, c1]
theorem d8w (a b : Ds) (ha : a.shape.length < 2 ^ 40) (hb : b.shape.length < 2 ^ 40) : ACalls pg G a71 [li 17, slD [a, b]] (.tup [.agg (eD (a1m 17 [a, b]).1), lb (a1m 17 [a, b]).2]) := by
 have hr : a1m 17 [a, b] = (if a.shape.length = 2 /\ b.shape.length = 1 /\ b.wide = true then (⟨[b.shape[0]!, a.shape[1]!], a.wide⟩, true) else (dn, false)) := rfl
 rw [hr, sl2]
 by_cases c1 : a.shape.length = 2
 ·by_cases c2 : b.shape.length = 1
  ·cases hw : b.wide
   ·rw [if_neg (by simp)]
    have c1' : (a.shape.length : Int) = 2 := by omega
    have c2' : (b.shape.length : Int) = 1 := by omega
    refine a2y rfl ?_
    simp (disch := omega) [go_sem, a3k, c1', c2', hw, dn]
   ·rw [if_pos ⟨c1, c2, rfl⟩]
    obtain ⟨ash, aw⟩ := a
    obtain ⟨x, y, rfl⟩ := a6u c1
    obtain ⟨bsh, bw⟩ := b
    obtain ⟨z, rfl⟩ := a7x c2
    obtain rfl : bw = true := hw
    refine ACalls.shown (res := .tup [.agg [owI [z, y], lb aw], lb true]) ?_ (by simp [go_sem, frz, a2g, owI])
    refine a2y rfl ?_
    simp (disch := omega) [go_sem, a3k]
    refine a0c ?_
    simp (disch := omega) [go_sem, a7a, a0r]
    refine a0d (by decide) fun s2 hs2 hes2 => ?_
    simp (disch := omega) [go_sem, hs2, a7a, a0r]
  ·rw [if_neg (by simp [c2])]
   have c1' : (a.shape.length : Int) = 2 := by omega
   have c2' : ¬ (b.shape.length : Int) = 1 := by omega
   refine a2y rfl ?_
   simp (disch := omega) [go_sem, a3k, c1', c2', dn]
 ·rw [if_neg (by simp [c1])]
  have c1' : ¬ (a.shape.length : Int) = 2 := by omega
  refine a2y rfl ?_
  simp (disch := omega) [go_sem, a3k, c1', dn]
theorem d8x (op : Int) (h1 : ¬ op = 16) (h2 : ¬ op = 17) (a : Ds) (ha : a.shape.length < 2 ^ 40) : ACalls pg G a71 [li op, slD [a]] (.tup [.agg (eD (a1m op [a]).1), lb (a1m op [a]).2]) := by
 have hr : a1m op [a] = (if a.shape.length = 0 then (dn, false) else (⟨a.shape.dropLast, true⟩, true)) := by simp only [a1m, h1, h2, if_false]; rfl
 rw [hr, sl1]
 by_cases c : a.shape.length = 0
 ·rw [if_pos c]
  have c' : (a.shape.length : Int) = 0 := by omega
  refine a2y rfl ?_
  simp (disch := omega) [go_sem, a3k, h1, h2, c', dn]
 ·rw [if_neg c]
  obtain ⟨ash, aw⟩ := a
  obtain rfl | ⟨l, x, rfl⟩ : ash = [] \/ ∃ l x, ash = l ++ [x] := by
   rcases List.eq_nil_or_concat ash with h | ⟨l, x, h⟩
   ·exact .inl h
   ·exact .inr ⟨l, x, by simpa using h⟩
  ·exact absurd rfl c
  simp only [List.length_append, List.length_cons, List.length_nil] at ha c
  rw [show (⟨(⟨l ++ [x], aw⟩ : Ds).shape.dropLast, true⟩ : Ds) = ⟨l, true⟩ by simp]
  refine ACalls.shown (res := .tup [.agg [owI l, lb true], lb true]) ?_ (by simp [go_sem, frz, a2g, owI])
  refine a2y rfl ?_
  have ht : List.take l.length (List.map li l ++ [li x]) = List.map li l := by rw [List.take_append_of_le_length (by simp), List.take_of_length_le (by simp)]
  have hd := c5n (G := G) l (by omega)
  simp (disch := omega) [go_sem, a3k, h1, h2, c, ht]
  refine a0b hd rfl (by simp only [owI, a09, a1f, a3g, Bool.and_true]) ?_
  simp (disch := omega) [go_sem]
end
end Go.Ideal.Tryz
end
section
namespace Go.Ideal.Tryz
attribute [local go_sem] eD eT eV
section
variable {G : GG} {bk : Nat -> Nat × Nat} {Q : Exit -> St -> Prop} {st : St}
theorem d5s (a b : Ds) (ha : a.shape.length < 2 ^ 40) (hb : b.shape.length < 2 ^ 40) : ACalls pg G a2z [li 16, slD [a, b]] (rAV (a3c 16 [a, b])) := by
 have hD := a26 (G := G) [a, b] (by simp) (by intro d hd; simp at hd; rcases hd with rfl | rfl <;> omega)
 rw [show slD [a, b] = .sl 2 [slI a.shape, lb a.wide, slI b.shape, lb b.wide] from rfl] at hD ⊢
 refine a2d rfl ?_
 simp (disch := omega) [go_sem, a18, a7a, a0r]
 refine a0b hD rfl rfl ?_
 by_cases hn : eC (a1o [a, b]) = 0
 rotate_left
 ·have hr : a3c 16 [a, b] = (dn, a1o [a, b]) := by
   have : (a1o [a, b]).isNil = false := by
    rcases a00 [a, b] with e | e | e <;> rw [e] at hn ⊢
    ·exact absurd rfl hn
    ·rfl
    ·rfl
   unfold a3c
   rw [a3b, chk, if_neg (by rw [this]; simp)]
  rw [hr]
  simp (disch := omega) [go_sem, hn, dn]
 have hnil : a1o [a, b] = .nil := by
  rcases a00 [a, b] with e | e | e <;> rw [e] at hn ⊢ <;> exact absurd hn (by decide)
 have hm : a3c 16 [a, b] = (if (a1m 16 [a, b]).2 = true then a6r (a1m 16 [a, b]).1.shape (a1m 16 [a, b]).1.wide else bad 6) := by
  unfold a3c
  rw [a3b, hnil]; rfl
 rw [hm]
 clear hD hm
 simp (disch := omega) [go_sem, hn]
 cases aw : a.wide
 ·by_cases c1 : 0 < a.shape.length
  ·have c1' : ¬ (a.shape.length : Int) < 1 := by omega
   simp (disch := omega) [go_sem, aw, c1', a7a, a0r]
   refine a0b (b11 b ⟨[256], true⟩ (by omega)) rfl rfl ?_
   by_cases c2 : b = ⟨[256], true⟩
   ·simp (disch := omega) [go_sem, aw, c2, a1m, c1]
    refine a0e (b12 a.shape false (by omega)) (by simp [go_sem, a0k]) (by simp (disch := omega) [go_sem, aw]) ?_
    simp (disch := omega) [go_sem, aw]
   ·simp (disch := omega) [go_sem, aw, c2, a1m, c1, bad, dn, eC6]
  ·have c1' : (a.shape.length : Int) < 1 := by omega
   simp (disch := omega) [go_sem, aw, c1', a1m, c1, bad, dn, eC6]
 ·simp (disch := omega) [go_sem, aw, a1m, bad, dn, eC6]
theorem d5t (a b : Ds) (ha : a.shape.length < 2 ^ 40) (hb : b.shape.length < 2 ^ 40) : ACalls pg G a2z [li 17, slD [a, b]] (rAV (a3c 17 [a, b])) := by
 have hD := a26 (G := G) [a, b] (by simp) (by intro d hd; simp at hd; rcases hd with rfl | rfl <;> omega)
 rw [show slD [a, b] = .sl 2 [slI a.shape, lb a.wide, slI b.shape, lb b.wide] from rfl] at hD ⊢
 refine a2d rfl ?_
 simp (disch := omega) [go_sem, a18, a7a, a0r]
 refine a0b hD rfl rfl ?_
 by_cases hn : eC (a1o [a, b]) = 0
 rotate_left
 ·have hr : a3c 17 [a, b] = (dn, a1o [a, b]) := by
   have : (a1o [a, b]).isNil = false := by
    rcases a00 [a, b] with e | e | e <;> rw [e] at hn ⊢
    ·exact absurd rfl hn
    ·rfl
    ·rfl
   unfold a3c
   rw [a3b, chk, if_neg (by rw [this]; simp)]
  rw [hr]
  simp (disch := omega) [go_sem, hn, dn]
 have hnil : a1o [a, b] = .nil := by
  rcases a00 [a, b] with e | e | e <;> rw [e] at hn ⊢ <;> exact absurd hn (by decide)
 have hm : a3c 17 [a, b] = (if (a1m 17 [a, b]).2 = true then a6r (a1m 17 [a, b]).1.shape (a1m 17 [a, b]).1.wide else bad 6) := by
  unfold a3c
  rw [a3b, hnil]; rfl
 rw [hm]
 clear hD hm
 simp (disch := omega) [go_sem, hn]
 by_cases c1 : a.shape.length = 2
 ·obtain ⟨ash, aw⟩ := a
  obtain ⟨x, y, rfl⟩ := a6u c1
  by_cases c2 : b.shape.length = 1
  ·obtain ⟨bsh, bw⟩ := b
   obtain ⟨u, rfl⟩ := a7x c2
   cases bw
   ·simp (disch := omega) [go_sem, a1m, bad, dn, eC6]
   ·simp (disch := omega) [go_sem, a1m]
    refine a0c ?_
    simp (disch := omega) [go_sem, a7a, a0r]
    have hse := b12 (G := G) [u, y] aw (by simp)
    by_cases he : (a03 [u, y]).isNil = true
    ·have e2 : a6r [u, y] aw = (⟨[u, y], aw⟩, .nil) := by simp [a6r, chk, he]
     rw [e2] at hse ⊢
     refine b2a hse (by simp [go_sem, a0k]) (by simp [go_sem, a09, a1f]) (by simp (disch := omega) [go_sem, a0f, a1a]) [92, 91] (by simp) (by simp (disch := omega) [go_sem]) ?_
     simp (disch := omega) [go_sem, a0f, a1a]
     refine a0d (by decide) fun s3 hs3 hes3 => ?_
     simp (disch := omega) [go_sem, hs3, dn]
    ·have e2 : a6r [u, y] aw = (dn, a03 [u, y]) := by simp [a6r, chk, he]
     rw [e2] at hse ⊢
     refine a0i hse (by simp [go_sem, a0k]) (by simp [go_sem, a09, a1f, dn]) (by simp (disch := omega) [go_sem, a0f, a1a]) [92, 91] (by simp) (by simp (disch := omega) [go_sem]) ?_
     simp (disch := omega) [go_sem, a0f, a1a]
     refine a0d (by decide) fun s3 hs3 hes3 => ?_
     simp (disch := omega) [go_sem, hs3, dn]
  ·have c2' : ¬ (b.shape.length : Int) = 1 := by omega
   simp (disch := omega) [go_sem, c2', a1m, c2, bad, dn, eC6]
 ·have c1' : ¬ (a.shape.length : Int) = 2 := by omega
  simp (disch := omega) [go_sem, c1', a1m, c1, bad, dn, eC6]
theorem d5u (a : Ds) (ha : a.shape.length < 2 ^ 40) : ACalls pg G a2z [li 19, slD [a]] (rAV (a3c 19 [a])) := by
 have hD := a26 (G := G) [a] (by simp) (by intro d hd; simp at hd; subst hd; omega)
 rw [show slD [a] = .sl 1 [slI a.shape, lb a.wide] from rfl] at hD ⊢
 refine a2d rfl ?_
 simp (disch := omega) [go_sem, a18, a7a, a0r]
 refine a0b hD rfl rfl ?_
 by_cases hn : eC (a1o [a]) = 0
 rotate_left
 ·have hr : a3c 19 [a] = (dn, a1o [a]) := by
   have : (a1o [a]).isNil = false := by
    rcases a00 [a] with e | e | e <;> rw [e] at hn ⊢
    ·exact absurd rfl hn
    ·rfl
    ·rfl
   unfold a3c
   rw [a3b, chk, if_neg (by rw [this]; simp)]
  rw [hr]
  simp (disch := omega) [go_sem, hn, dn]
 have hnil : a1o [a] = .nil := by
  rcases a00 [a] with e | e | e <;> rw [e] at hn ⊢ <;> exact absurd hn (by decide)
 have hm : a3c 19 [a] = (if (a1m 19 [a]).2 = true then a6r (a1m 19 [a]).1.shape (a1m 19 [a]).1.wide else bad 6) := by
  unfold a3c
  rw [a3b, hnil]; rfl
 rw [hm]
 clear hD hm
 simp (disch := omega) [go_sem, hn]
 by_cases c1 : a.shape.length = 0
 ·have c1' : (a.shape.length : Int) < 1 := by omega
  simp (disch := omega) [go_sem, c1', a1m, c1, bad, dn, eC6]
 ·have c1' : ¬ (a.shape.length : Int) < 1 := by omega
  have hdl : List.take (a.shape.length - 1) (a.shape.map li) = a.shape.dropLast.map li := by rw [<- List.map_take, List.dropLast_eq_take]
  have hse := b12 (G := G) a.shape.dropLast true (by simp; omega)
  rw [show slI a.shape.dropLast = .sl (a.shape.length - 1) ((a.shape.map li).dropLast) by simp [List.map_dropLast]] at hse
  simp (disch := omega) [go_sem, c1', a1m, c1, a7a, a0r, hdl]
  refine a0e hse (by simp [go_sem, a0k]) (by simp (disch := omega) [go_sem]) ?_
  simp (disch := omega) [go_sem]
theorem d5v (a : Ds) (ha : a.shape.length < 2 ^ 40) : ACalls pg G a2z [li 20, slD [a]] (rAV (a3c 20 [a])) := by
 have hD := a26 (G := G) [a] (by simp) (by intro d hd; simp at hd; subst hd; omega)
 rw [show slD [a] = .sl 1 [slI a.shape, lb a.wide] from rfl] at hD ⊢
 refine a2d rfl ?_
 simp (disch := omega) [go_sem, a18, a7a, a0r]
 refine a0b hD rfl rfl ?_
 by_cases hn : eC (a1o [a]) = 0
 rotate_left
 ·have hr : a3c 20 [a] = (dn, a1o [a]) := by
   have : (a1o [a]).isNil = false := by
    rcases a00 [a] with e | e | e <;> rw [e] at hn ⊢
    ·exact absurd rfl hn
    ·rfl
    ·rfl
   unfold a3c
   rw [a3b, chk, if_neg (by rw [this]; simp)]
  rw [hr]
  simp (disch := omega) [go_sem, hn, dn]
 have hnil : a1o [a] = .nil := by
  rcases a00 [a] with e | e | e <;> rw [e] at hn ⊢ <;> exact absurd hn (by decide)
 have hm : a3c 20 [a] = (if (a1m 20 [a]).2 = true then a6r (a1m 20 [a]).1.shape (a1m 20 [a]).1.wide else bad 6) := by
  unfold a3c
  rw [a3b, hnil]; rfl
 rw [hm]
 clear hD hm
 simp (disch := omega) [go_sem, hn]
 by_cases c1 : a.shape.length = 0
 ·have c1' : (a.shape.length : Int) < 1 := by omega
  simp (disch := omega) [go_sem, c1', a1m, c1, bad, dn, eC6]
 ·have c1' : ¬ (a.shape.length : Int) < 1 := by omega
  have hdl : List.take (a.shape.length - 1) (a.shape.map li) = a.shape.dropLast.map li := by rw [<- List.map_take, List.dropLast_eq_take]
  have hse := b12 (G := G) a.shape.dropLast true (by simp; omega)
  rw [show slI a.shape.dropLast = .sl (a.shape.length - 1) ((a.shape.map li).dropLast) by simp [List.map_dropLast]] at hse
  simp (disch := omega) [go_sem, c1', a1m, c1, a7a, a0r, hdl]
  refine a0e hse (by simp [go_sem, a0k]) (by simp (disch := omega) [go_sem]) ?_
  simp (disch := omega) [go_sem]
end
end Go.Ideal.Tryz
end
section
namespace Go.Ideal.Tryz
attribute [local go_sem] eD eT eV f2y f2z
section
variable {G : GG} {bk : Nat -> Nat × Nat} {Q : Exit -> St -> Prop} {st : St}
theorem d2e (args : List Int) (ins : List Ds) (hl : ins.length < 2 ^ 40) (hal : args.length < 2 ^ 40) (hi : ∀ d ∈ ins, d.shape.length < 2 ^ 40) : ACalls pg G a1d [li 4, slI args, slD ins] (rAV (if ins.length = 2 /\ args.length = 0 then a13 4 args ins else bad 6)) := by
 generalize hr0 : (if ins.length = 2 /\ args.length = 0 then a13 4 args ins else bad 6) = r0
 refine a05 rfl ?_
 simp (disch := omega) [go_sem, a07]
 by_cases a0 : args.length = 0
 rotate_left
 ·have a0' : ¬ (args.length : Int) = 0 := by omega
  rw [if_neg (fun k => a0 k.2)] at hr0
  subst hr0
  have a0n : args ≠ [] := by rintro rfl; exact a0 rfl
  simp (disch := omega) [go_sem, a0, a0', a0n, bad, dn, eC6]
 obtain rfl := List.eq_nil_of_length_eq_zero a0
 by_cases i0 : ins.length = 2
 rotate_left
 ·have i0' : ¬ (ins.length : Int) = 2 := by omega
  rw [if_neg (fun k => i0 k.1)] at hr0
  subst hr0
  simp (disch := omega) [go_sem, i0, i0', bad, dn, eC6]
 obtain ⟨a, b, rfl⟩ := a6u i0
 have ha := hi a (by simp)
 have hb := hi b (by simp)
 have hD := a26 (G := G) [a, b] (by simp) (by intro d hd; simp at hd; rcases hd with rfl | rfl <;> omega)
 rw [if_pos ⟨rfl, rfl⟩] at hr0
 subst hr0
 simp (disch := omega) [go_sem]
 refine a0b hD rfl rfl ?_
 by_cases hn : eC (a1o [a, b]) = 0
 rotate_left
 ·have hr : ∀ r, a81 [a, b] r = (dn, a1o [a, b]) := fun r => by
   have : (a1o [a, b]).isNil = false := by
    rcases a00 [a, b] with e | e | e <;> rw [e] at hn ⊢
    ·exact absurd rfl hn
    ·rfl
    ·rfl
   rw [a3b, chk, if_neg (by rw [this]; simp)]
  unfold a13
  rw [hr]
  simp (disch := omega) [go_sem, hn, dn]
 have hnil : a1o [a, b] = .nil := by
  rcases a00 [a, b] with e | e | e <;> rw [e] at hn ⊢ <;> exact absurd hn (by decide)
 have hm : ∀ r, a81 [a, b] r = r := fun r => by rw [a3b, hnil]; rfl
 unfold a13
 rw [hm]
 clear hD hm
 simp (disch := omega) [go_sem, hn]
 refine a0c ?_
 simp (disch := omega) [go_sem]
 refine a0i (b11 a b (by omega)) rfl rfl (by simp (disch := omega) [go_sem, a0f, a1a]) [81] (by simp) (by simp (disch := omega) [go_sem]) ?_
 by_cases c : a = b
 ·simp (disch := omega) [go_sem, a0f, a1a, c]
  refine a0d (by decide) fun s2 hs2 he2 => ?_
  simp (disch := omega) [go_sem, hs2, c]
  refine a0e (b08 b.shape b.wide (by omega)) (by simp [go_sem, a0k]) (by simp (disch := omega) [go_sem, hs2, c]) ?_
  simp (disch := omega) [go_sem, hs2, c, a1q, a1u, a3e]
 ·simp (disch := omega) [go_sem, a0f, a1a, c]
  refine a0d (by decide) fun s2 hs2 he2 => ?_
  simp (disch := omega) [go_sem, hs2, c, bad, dn, eC6]
theorem d2f (args : List Int) (ins : List Ds) (hl : ins.length < 2 ^ 40) (hal : args.length < 2 ^ 40) (hi : ∀ d ∈ ins, d.shape.length < 2 ^ 40) : ACalls pg G a1d [li 5, slI args, slD ins] (rAV (if ins.length = 2 /\ args.length = 0 then a13 5 args ins else bad 6)) := by
 generalize hr0 : (if ins.length = 2 /\ args.length = 0 then a13 5 args ins else bad 6) = r0
 refine a05 rfl ?_
 simp (disch := omega) [go_sem, a07]
 by_cases a0 : args.length = 0
 rotate_left
 ·have a0' : ¬ (args.length : Int) = 0 := by omega
  rw [if_neg (fun k => a0 k.2)] at hr0
  subst hr0
  have a0n : args ≠ [] := by rintro rfl; exact a0 rfl
  simp (disch := omega) [go_sem, a0, a0', a0n, bad, dn, eC6]
 obtain rfl := List.eq_nil_of_length_eq_zero a0
 by_cases i0 : ins.length = 2
 rotate_left
 ·have i0' : ¬ (ins.length : Int) = 2 := by omega
  rw [if_neg (fun k => i0 k.1)] at hr0
  subst hr0
  simp (disch := omega) [go_sem, i0, i0', bad, dn, eC6]
 obtain ⟨a, b, rfl⟩ := a6u i0
 have ha := hi a (by simp)
 have hb := hi b (by simp)
 have hD := a26 (G := G) [a, b] (by simp) (by intro d hd; simp at hd; rcases hd with rfl | rfl <;> omega)
 rw [if_pos ⟨rfl, rfl⟩] at hr0
 subst hr0
 simp (disch := omega) [go_sem]
 refine a0b hD rfl rfl ?_
 by_cases hn : eC (a1o [a, b]) = 0
 rotate_left
 ·have hr : ∀ r, a81 [a, b] r = (dn, a1o [a, b]) := fun r => by
   have : (a1o [a, b]).isNil = false := by
    rcases a00 [a, b] with e | e | e <;> rw [e] at hn ⊢
    ·exact absurd rfl hn
    ·rfl
    ·rfl
   rw [a3b, chk, if_neg (by rw [this]; simp)]
  unfold a13
  rw [hr]
  simp (disch := omega) [go_sem, hn, dn]
 have hnil : a1o [a, b] = .nil := by
  rcases a00 [a, b] with e | e | e <;> rw [e] at hn ⊢ <;> exact absurd hn (by decide)
 have hm : ∀ r, a81 [a, b] r = r := fun r => by rw [a3b, hnil]; rfl
 unfold a13
 rw [hm]
 clear hD hm
 simp (disch := omega) [go_sem, hn]
 refine a0c ?_
 simp (disch := omega) [go_sem]
 refine a0i (b11 a b (by omega)) rfl rfl (by simp (disch := omega) [go_sem, a0f, a1a]) [81] (by simp) (by simp (disch := omega) [go_sem]) ?_
 by_cases c : a = b
 ·simp (disch := omega) [go_sem, a0f, a1a, c]
  refine a0d (by decide) fun s2 hs2 he2 => ?_
  simp (disch := omega) [go_sem, hs2, c]
  refine a0e (b08 b.shape b.wide (by omega)) (by simp [go_sem, a0k]) (by simp (disch := omega) [go_sem, hs2, c]) ?_
  simp (disch := omega) [go_sem, hs2, c, a1q, a1u, a3e]
 ·simp (disch := omega) [go_sem, a0f, a1a, c]
  refine a0d (by decide) fun s2 hs2 he2 => ?_
  simp (disch := omega) [go_sem, hs2, c, bad, dn, eC6]
theorem d2g (args : List Int) (ins : List Ds) (hl : ins.length < 2 ^ 40) (hal : args.length < 2 ^ 40) (hi : ∀ d ∈ ins, d.shape.length < 2 ^ 40) : ACalls pg G a1d [li 6, slI args, slD ins] (rAV (if ins.length = 2 /\ args.length = 0 then a13 6 args ins else bad 6)) := by
 generalize hr0 : (if ins.length = 2 /\ args.length = 0 then a13 6 args ins else bad 6) = r0
 refine a05 rfl ?_
 simp (disch := omega) [go_sem, a07]
 by_cases a0 : args.length = 0
 rotate_left
 ·have a0' : ¬ (args.length : Int) = 0 := by omega
  rw [if_neg (fun k => a0 k.2)] at hr0
  subst hr0
  have a0n : args ≠ [] := by rintro rfl; exact a0 rfl
  simp (disch := omega) [go_sem, a0, a0', a0n, bad, dn, eC6]
 obtain rfl := List.eq_nil_of_length_eq_zero a0
 by_cases i0 : ins.length = 2
 rotate_left
 ·have i0' : ¬ (ins.length : Int) = 2 := by omega
  rw [if_neg (fun k => i0 k.1)] at hr0
  subst hr0
  simp (disch := omega) [go_sem, i0, i0', bad, dn, eC6]
 obtain ⟨a, b, rfl⟩ := a6u i0
 have ha := hi a (by simp)
 have hb := hi b (by simp)
 have hD := a26 (G := G) [a, b] (by simp) (by intro d hd; simp at hd; rcases hd with rfl | rfl <;> omega)
 rw [if_pos ⟨rfl, rfl⟩] at hr0
 subst hr0
 simp (disch := omega) [go_sem]
 refine a0b hD rfl rfl ?_
 by_cases hn : eC (a1o [a, b]) = 0
 rotate_left
 ·have hr : ∀ r, a81 [a, b] r = (dn, a1o [a, b]) := fun r => by
   have : (a1o [a, b]).isNil = false := by
    rcases a00 [a, b] with e | e | e <;> rw [e] at hn ⊢
    ·exact absurd rfl hn
    ·rfl
    ·rfl
   rw [a3b, chk, if_neg (by rw [this]; simp)]
  unfold a13
  rw [hr]
  simp (disch := omega) [go_sem, hn, dn]
 have hnil : a1o [a, b] = .nil := by
  rcases a00 [a, b] with e | e | e <;> rw [e] at hn ⊢ <;> exact absurd hn (by decide)
 have hm : ∀ r, a81 [a, b] r = r := fun r => by rw [a3b, hnil]; rfl
 unfold a13
 rw [hm]
 clear hD hm
 simp (disch := omega) [go_sem, hn]
 refine a0c ?_
 simp (disch := omega) [go_sem]
 refine a0i (b11 a b (by omega)) rfl rfl (by simp (disch := omega) [go_sem, a0f, a1a]) [81] (by simp) (by simp (disch := omega) [go_sem]) ?_
 by_cases c : a = b
 ·simp (disch := omega) [go_sem, a0f, a1a, c]
  refine a0d (by decide) fun s2 hs2 he2 => ?_
  simp (disch := omega) [go_sem, hs2, c]
  refine a0e (b08 b.shape b.wide (by omega)) (by simp [go_sem, a0k]) (by simp (disch := omega) [go_sem, hs2, c]) ?_
  simp (disch := omega) [go_sem, hs2, c, a1q, a1u, a3e]
 ·simp (disch := omega) [go_sem, a0f, a1a, c]
  refine a0d (by decide) fun s2 hs2 he2 => ?_
  simp (disch := omega) [go_sem, hs2, c, bad, dn, eC6]
theorem d2h (args : List Int) (ins : List Ds) (hl : ins.length < 2 ^ 40) (hal : args.length < 2 ^ 40) (hi : ∀ d ∈ ins, d.shape.length < 2 ^ 40) : ACalls pg G a1d [li 7, slI args, slD ins] (rAV (if ins.length = 2 /\ args.length = 0 then a13 7 args ins else bad 6)) := by
 generalize hr0 : (if ins.length = 2 /\ args.length = 0 then a13 7 args ins else bad 6) = r0
 refine a05 rfl ?_
 simp (disch := omega) [go_sem, a07]
 by_cases a0 : args.length = 0
 rotate_left
 ·have a0' : ¬ (args.length : Int) = 0 := by omega
  rw [if_neg (fun k => a0 k.2)] at hr0
  subst hr0
  have a0n : args ≠ [] := by rintro rfl; exact a0 rfl
  simp (disch := omega) [go_sem, a0, a0', a0n, bad, dn, eC6]
 obtain rfl := List.eq_nil_of_length_eq_zero a0
 by_cases i0 : ins.length = 2
 rotate_left
 ·have i0' : ¬ (ins.length : Int) = 2 := by omega
  rw [if_neg (fun k => i0 k.1)] at hr0
  subst hr0
  simp (disch := omega) [go_sem, i0, i0', bad, dn, eC6]
 obtain ⟨a, b, rfl⟩ := a6u i0
 have ha := hi a (by simp)
 have hb := hi b (by simp)
 have hD := a26 (G := G) [a, b] (by simp) (by intro d hd; simp at hd; rcases hd with rfl | rfl <;> omega)
 rw [if_pos ⟨rfl, rfl⟩] at hr0
 subst hr0
 simp (disch := omega) [go_sem]
 refine a0b hD rfl rfl ?_
 by_cases hn : eC (a1o [a, b]) = 0
 rotate_left
 ·have hr : ∀ r, a81 [a, b] r = (dn, a1o [a, b]) := fun r => by
   have : (a1o [a, b]).isNil = false := by
    rcases a00 [a, b] with e | e | e <;> rw [e] at hn ⊢
    ·exact absurd rfl hn
    ·rfl
    ·rfl
   rw [a3b, chk, if_neg (by rw [this]; simp)]
  unfold a13
  rw [hr]
  simp (disch := omega) [go_sem, hn, dn]
 have hnil : a1o [a, b] = .nil := by
  rcases a00 [a, b] with e | e | e <;> rw [e] at hn ⊢ <;> exact absurd hn (by decide)
 have hm : ∀ r, a81 [a, b] r = r := fun r => by rw [a3b, hnil]; rfl
 unfold a13
 rw [hm]
 clear hD hm
 simp (disch := omega) [go_sem, hn]
 refine a0c ?_
 simp (disch := omega) [go_sem]
 refine a0i (b11 a b (by omega)) rfl rfl (by simp (disch := omega) [go_sem, a0f, a1a]) [81] (by simp) (by simp (disch := omega) [go_sem]) ?_
 by_cases c : a = b
 ·simp (disch := omega) [go_sem, a0f, a1a, c]
  refine a0d (by decide) fun s2 hs2 he2 => ?_
  simp (disch := omega) [go_sem, hs2, c]
  refine a0e (b08 b.shape b.wide (by omega)) (by simp [go_sem, a0k]) (by simp (disch := omega) [go_sem, hs2, c]) ?_
  simp (disch := omega) [go_sem, hs2, c, a1q, a1u, a3e]
 ·simp (disch := omega) [go_sem, a0f, a1a, c]
  refine a0d (by decide) fun s2 hs2 he2 => ?_
  simp (disch := omega) [go_sem, hs2, c, bad, dn, eC6]
end
end Go.Ideal.Tryz
end
section
namespace Go.Ideal.Tryz
attribute [local go_sem] eD eT eV f2y f2z
section
variable {G : GG} {bk : Nat -> Nat × Nat} {Q : Exit -> St -> Prop} {st : St}
theorem d2i (args : List Int) (ins : List Ds) (hl : ins.length < 2 ^ 40) (hal : args.length < 2 ^ 40) (hi : ∀ d ∈ ins, d.shape.length < 2 ^ 40) : ACalls pg G a1d [li 8, slI args, slD ins] (rAV (if ins.length = 1 /\ args.length = 0 then a13 8 args ins else bad 6)) := by
 generalize hr0 : (if ins.length = 1 /\ args.length = 0 then a13 8 args ins else bad 6) = r0
 refine a05 rfl ?_
 simp (disch := omega) [go_sem, a07]
 by_cases a0 : args.length = 0
 rotate_left
 ·have a0' : ¬ (args.length : Int) = 0 := by omega
  rw [if_neg (fun k => a0 k.2)] at hr0
  subst hr0
  have a0n : args ≠ [] := by rintro rfl; exact a0 rfl
  simp (disch := omega) [go_sem, a0, a0', a0n, bad, dn, eC6]
 obtain rfl := List.eq_nil_of_length_eq_zero a0
 by_cases i0 : ins.length = 1
 rotate_left
 ·have i0' : ¬ (ins.length : Int) = 1 := by omega
  rw [if_neg (fun k => i0 k.1)] at hr0
  subst hr0
  simp (disch := omega) [go_sem, i0, i0', bad, dn, eC6]
 obtain ⟨a, rfl⟩ := a7x i0
 have ha := hi a (by simp)
 have hD := a26 (G := G) [a] (by simp) (by intro d hd; simp at hd; subst hd; omega)
 rw [if_pos ⟨rfl, rfl⟩] at hr0
 subst hr0
 simp (disch := omega) [go_sem]
 refine a0b hD rfl rfl ?_
 by_cases hn : eC (a1o [a]) = 0
 rotate_left
 ·have hr : ∀ r, a81 [a] r = (dn, a1o [a]) := fun r => by
   have : (a1o [a]).isNil = false := by
    rcases a00 [a] with e | e | e <;> rw [e] at hn ⊢
    ·exact absurd rfl hn
    ·rfl
    ·rfl
   rw [a3b, chk, if_neg (by rw [this]; simp)]
  unfold a13
  rw [hr]
  simp (disch := omega) [go_sem, hn, dn]
 have hnil : a1o [a] = .nil := by
  rcases a00 [a] with e | e | e <;> rw [e] at hn ⊢ <;> exact absurd hn (by decide)
 have hm : ∀ r, a81 [a] r = r := fun r => by rw [a3b, hnil]; rfl
 unfold a13
 rw [hm]
 clear hD hm
 simp (disch := omega) [go_sem, hn]
 cases aw : a.wide
 all_goals (
  refine a0c ?_
  simp (disch := omega) [go_sem, aw]
  refine a0d (by decide) fun s2 hs2 he2 => ?_
  simp (disch := omega) [go_sem, hs2, aw]
  refine a0e (b08 a.shape _ (by omega)) (by simp [go_sem, a0k]) (by simp (disch := omega) [go_sem, hs2, aw]) ?_
  simp (disch := omega) [go_sem, hs2, aw, a1q, a1u, a3e])
theorem d2j (args : List Int) (ins : List Ds) (hl : ins.length < 2 ^ 40) (hal : args.length < 2 ^ 40) (hi : ∀ d ∈ ins, d.shape.length < 2 ^ 40) : ACalls pg G a1d [li 9, slI args, slD ins] (rAV (if ins.length = 1 /\ args.length = 2 then a13 9 args ins else bad 6)) := by
 generalize hr0 : (if ins.length = 1 /\ args.length = 2 then a13 9 args ins else bad 6) = r0
 refine a05 rfl ?_
 simp (disch := omega) [go_sem, a07]
 by_cases a0 : args.length = 2
 rotate_left
 ·have a0' : ¬ (args.length : Int) = 2 := by omega
  rw [if_neg (fun k => a0 k.2)] at hr0
  subst hr0
  simp (disch := omega) [go_sem, a0, a0', bad, dn, eC6]
 obtain ⟨p, q, rfl⟩ := a6u a0
 by_cases i0 : ins.length = 1
 rotate_left
 ·have i0' : ¬ (ins.length : Int) = 1 := by omega
  rw [if_neg (fun k => i0 k.1)] at hr0
  subst hr0
  simp (disch := omega) [go_sem, i0, i0', bad, dn, eC6]
 obtain ⟨a, rfl⟩ := a7x i0
 have ha := hi a (by simp)
 have hD := a26 (G := G) [a] (by simp) (by intro d hd; simp at hd; subst hd; omega)
 rw [if_pos ⟨rfl, rfl⟩] at hr0
 subst hr0
 simp (disch := omega) [go_sem]
 refine a0b hD rfl rfl ?_
 by_cases hn : eC (a1o [a]) = 0
 rotate_left
 ·have hr : ∀ r, a81 [a] r = (dn, a1o [a]) := fun r => by
   have : (a1o [a]).isNil = false := by
    rcases a00 [a] with e | e | e <;> rw [e] at hn ⊢
    ·exact absurd rfl hn
    ·rfl
    ·rfl
   rw [a3b, chk, if_neg (by rw [this]; simp)]
  unfold a13
  rw [hr]
  simp (disch := omega) [go_sem, hn, dn]
 have hnil : a1o [a] = .nil := by
  rcases a00 [a] with e | e | e <;> rw [e] at hn ⊢ <;> exact absurd hn (by decide)
 have hm : ∀ r, a81 [a] r = r := fun r => by rw [a3b, hnil]; rfl
 unfold a13
 rw [hm]
 clear hD hm
 simp (disch := omega) [go_sem, hn]
 have hp := d43 (G := G) p a.wide
 have hq := d43 (G := G) q a.wide
 rw [d4k] at hp hq
 cases aw : a.wide
 all_goals (
  rw [aw] at hp hq
  refine a0c ?_
  simp (disch := omega) [go_sem, aw]
  refine a0d (by decide) fun s2 hs2 he2 => ?_
  simp (disch := omega) [go_sem, hs2, aw]
  refine a0e (b08 a.shape _ (by omega)) (by simp [go_sem, a0k]) (by simp (disch := omega) [go_sem, hs2, aw]) ?_
  simp (disch := omega) [go_sem, hs2, aw]
  refine a0c ?_
  simp (disch := omega) [go_sem, hs2, aw]
  refine a0i hp rfl rfl (by simp (disch := omega) [go_sem, a0f, a1a]) [112] (by simp) (by simp (disch := omega) [go_sem, hs2, aw]) ?_
  cases fp : b9h p _
  ·simp (disch := omega) [go_sem, a0f, a1a, hs2, aw]
   refine a0d (by decide) fun s3 hs3 he3 => ?_
   simp (disch := omega) [go_sem, hs3, hs2, aw, a1q, fp, bad, dn, eC3]
  simp (disch := omega) [go_sem, a0f, a1a, hs2, aw]
  refine a0i hq rfl rfl (by simp (disch := omega) [go_sem, a0f, a1a]) [120] (by simp) (by simp (disch := omega) [go_sem, hs2, aw]) ?_
  cases fq : b9h q _
  ·simp (disch := omega) [go_sem, a0f, a1a, hs2, aw]
   refine a0d (by decide) fun s3 hs3 he3 => ?_
   simp (disch := omega) [go_sem, hs3, hs2, aw, a1q, fp, fq, bad, dn, eC3]
  by_cases pq : p <= q
  ·have pq' : ¬ q < p := by omega
   simp (disch := omega) [go_sem, a0f, a1a, hs2, aw, pq']
   refine a0d (by decide) fun s3 hs3 he3 => ?_
   simp (disch := omega) [go_sem, hs3, hs2, aw, a1q, a1u, fp, fq, pq, pq', a3e]
  ·have pq' : q < p := by omega
   simp (disch := omega) [go_sem, a0f, a1a, hs2, aw, pq']
   refine a0d (by decide) fun s3 hs3 he3 => ?_
   simp (disch := omega) [go_sem, hs3, hs2, aw, a1q, fp, fq, pq, pq', bad, dn, eC3])
end
end Go.Ideal.Tryz
end
section
namespace Go.Ideal.Tryz
attribute [local go_sem] eD eT eV f2y f2z
section
variable {G : GG} {bk : Nat -> Nat × Nat} {Q : Exit -> St -> Prop} {st : St}
theorem c9l (args : List Int) (ins : List Ds) (hl : ins.length < 2 ^ 40) (hal : args.length < 2 ^ 40) (hi : ∀ d ∈ ins, d.shape.length < 2 ^ 40) : ACalls pg G a1d [li 10, slI args, slD ins] (rAV (if ins.length = 1 /\ args.length = 3 then a13 10 args ins else bad 6)) := by
 generalize hr0 : (if ins.length = 1 /\ args.length = 3 then a13 10 args ins else bad 6) = r0
 refine a05 rfl ?_
 simp (disch := omega) [go_sem, a07]
 by_cases a0 : args.length = 3
 rotate_left
 ·have a0' : ¬ (args.length : Int) = 3 := by omega
  rw [if_neg (fun k => a0 k.2)] at hr0
  subst hr0
  simp (disch := omega) [go_sem, a0, a0', bad, dn, eC6]
 obtain ⟨p, q, z, rfl⟩ := d3q a0
 by_cases i0 : ins.length = 1
 rotate_left
 ·have i0' : ¬ (ins.length : Int) = 1 := by omega
  rw [if_neg (fun k => i0 k.1)] at hr0
  subst hr0
  simp (disch := omega) [go_sem, i0, i0', bad, dn, eC6]
 obtain ⟨a, rfl⟩ := a7x i0
 have ha := hi a (by simp)
 have hD := a26 (G := G) [a] (by simp) (by intro d hd; simp at hd; subst hd; omega)
 rw [if_pos ⟨rfl, rfl⟩] at hr0
 subst hr0
 simp (disch := omega) [go_sem]
 refine a0b hD rfl rfl ?_
 by_cases hn : eC (a1o [a]) = 0
 rotate_left
 ·have hr : ∀ r, a81 [a] r = (dn, a1o [a]) := fun r => by
   have : (a1o [a]).isNil = false := by
    rcases a00 [a] with e | e | e <;> rw [e] at hn ⊢
    ·exact absurd rfl hn
    ·rfl
    ·rfl
   rw [a3b, chk, if_neg (by rw [this]; simp)]
  unfold a13
  rw [hr]
  simp (disch := omega) [go_sem, hn, dn]
 have hnil : a1o [a] = .nil := by
  rcases a00 [a] with e | e | e <;> rw [e] at hn ⊢ <;> exact absurd hn (by decide)
 have hm : ∀ r, a81 [a] r = r := fun r => by rw [a3b, hnil]; rfl
 unfold a13
 rw [hm]
 clear hD hm
 simp (disch := omega) [go_sem, hn]
 cases aw : a.wide
 ·refine a0c ?_
  simp (disch := omega) [go_sem, aw]
  refine a0d (by decide) fun s2 hs2 he2 => ?_
  simp (disch := omega) [go_sem, hs2, aw, bad, dn, eC6]
 refine a0c ?_
 simp (disch := omega) [go_sem, aw]
 refine a0d (by decide) fun s2 hs2 he2 => ?_
 simp (disch := omega) [go_sem, hs2, aw]
 refine a0e (b08 a.shape _ (by omega)) (by simp [go_sem, a0k]) (by simp (disch := omega) [go_sem, hs2, aw]) ?_
 have hfr : a1q 10 [p, q, z] true = ((decide (0 <= p) && decide (p <= 2147483647)) && ((decide (0 <= q) && decide (q <= 62)) && a1s z)) := rfl
 by_cases p1 : p < 0
 ·simp (disch := omega) [go_sem, hs2, aw, p1, hfr, bad, dn, eC3]
  first | done | (intros; omega) | simp (disch := omega) [go_sem, hs2, aw, bad, dn, eC3]
 by_cases p2 : 2147483647 < p
 ·simp (disch := omega) [go_sem, hs2, aw, p1, p2, hfr, bad, dn, eC3]
  first | done | (intros; omega) | simp (disch := omega) [go_sem, hs2, aw, bad, dn, eC3]
 by_cases p3 : q < 0
 ·simp (disch := omega) [go_sem, hs2, aw, p1, p2, p3, hfr, bad, dn, eC3]
  first | done | (intros; omega) | simp (disch := omega) [go_sem, hs2, aw, bad, dn, eC3]
 by_cases p4 : 62 < q
 ·simp (disch := omega) [go_sem, hs2, aw, p1, p2, p3, p4, hfr, bad, dn, eC3]
  first | done | (intros; omega) | simp (disch := omega) [go_sem, hs2, aw, bad, dn, eC3]
 simp (disch := omega) [go_sem, hs2, aw, p1, p2, p3, p4]
 refine a0b (a9m z) rfl rfl ?_
 have e1 : decide (0 <= p) = true := by simp; omega
 have e2 : decide (p <= 2147483647) = true := by simp; omega
 have e3 : decide (0 <= q) = true := by simp; omega
 have e4 : decide (q <= 62) = true := by simp; omega
 rw [hfr, e1, e2, e3, e4]
 cases a1s z
 ·simp (disch := omega) [go_sem, hs2, aw, bad, dn, eC3]
 ·simp (disch := omega) [go_sem, hs2, aw, a1u, a3e]
theorem c9m (args : List Int) (ins : List Ds) (hl : ins.length < 2 ^ 40) (hal : args.length < 2 ^ 40) (hi : ∀ d ∈ ins, d.shape.length < 2 ^ 40) : ACalls pg G a1d [li 11, slI args, slD ins] (rAV (if ins.length = 1 /\ args.length = 1 then a13 11 args ins else bad 6)) := by
 generalize hr0 : (if ins.length = 1 /\ args.length = 1 then a13 11 args ins else bad 6) = r0
 refine a05 rfl ?_
 simp (disch := omega) [go_sem, a07]
 by_cases a0 : args.length = 1
 rotate_left
 ·have a0' : ¬ (args.length : Int) = 1 := by omega
  rw [if_neg (fun k => a0 k.2)] at hr0
  subst hr0
  simp (disch := omega) [go_sem, a0, a0', bad, dn, eC6]
 obtain ⟨p, rfl⟩ := a7x a0
 by_cases i0 : ins.length = 1
 rotate_left
 ·have i0' : ¬ (ins.length : Int) = 1 := by omega
  rw [if_neg (fun k => i0 k.1)] at hr0
  subst hr0
  simp (disch := omega) [go_sem, i0, i0', bad, dn, eC6]
 obtain ⟨a, rfl⟩ := a7x i0
 have ha := hi a (by simp)
 have hD := a26 (G := G) [a] (by simp) (by intro d hd; simp at hd; subst hd; omega)
 rw [if_pos ⟨rfl, rfl⟩] at hr0
 subst hr0
 simp (disch := omega) [go_sem]
 refine a0b hD rfl rfl ?_
 by_cases hn : eC (a1o [a]) = 0
 rotate_left
 ·have hr : ∀ r, a81 [a] r = (dn, a1o [a]) := fun r => by
   have : (a1o [a]).isNil = false := by
    rcases a00 [a] with e | e | e <;> rw [e] at hn ⊢
    ·exact absurd rfl hn
    ·rfl
    ·rfl
   rw [a3b, chk, if_neg (by rw [this]; simp)]
  unfold a13
  rw [hr]
  simp (disch := omega) [go_sem, hn, dn]
 have hnil : a1o [a] = .nil := by
  rcases a00 [a] with e | e | e <;> rw [e] at hn ⊢ <;> exact absurd hn (by decide)
 have hm : ∀ r, a81 [a] r = r := fun r => by rw [a3b, hnil]; rfl
 unfold a13
 rw [hm]
 clear hD hm
 simp (disch := omega) [go_sem, hn]
 cases aw : a.wide
 rotate_left
 ·refine a0c ?_
  simp (disch := omega) [go_sem, aw]
  refine a0d (by decide) fun s2 hs2 he2 => ?_
  simp (disch := omega) [go_sem, hs2, aw, bad, dn, eC6]
 refine a0c ?_
 simp (disch := omega) [go_sem, aw]
 refine a0d (by decide) fun s2 hs2 he2 => ?_
 simp (disch := omega) [go_sem, hs2, aw]
 refine a0e (b08 a.shape _ (by omega)) (by simp [go_sem, a0k]) (by simp (disch := omega) [go_sem, hs2, aw]) ?_
 have hfr : a1q 11 [p] false = a1s p := rfl
 rw [hfr]
 simp (disch := omega) [go_sem, hs2, aw]
 refine a0b (a9m p) rfl rfl ?_
 cases a1s p
 ·simp (disch := omega) [go_sem, hs2, aw, bad, dn, eC3]
 ·simp (disch := omega) [go_sem, hs2, aw, a1u, a3e]
end
end Go.Ideal.Tryz
end
section
namespace Go.Ideal.Tryz
attribute [local go_sem] eD eT eV f2y f2z
section
variable {G : GG} {bk : Nat -> Nat × Nat} {Q : Exit -> St -> Prop} {st : St}
theorem d8n (xs : List Int) (h : xs.length < 2 ^ 40) : ACalls pg G b01 [slI xs] (slI xs) := ACalls.shown (d1j G xs h) (by simp [go_sem, frz, a2g])
theorem e0c {x y : Int} (e : a03 [x, y] = .nil) : a03 [y, x] = .nil := by
 have ok := a6a.1 e
 refine a6a.2 ?_
 simp [c16, a30, a46] at ok ⊢
 rw [Int.mul_comm y x]
 omega
theorem d9o (args : List Int) (ins : List Ds) (hl : ins.length < 2 ^ 40) (hal : args.length < 2 ^ 40) (hi : ∀ d ∈ ins, d.shape.length < 2 ^ 40) : ACalls pg G a1b [li 12, slI args, slD ins] (rAV (opR 12 args ins)) := by
 have hK := a17 (G := G) 12
 rw [show a0x 12 = true from rfl] at hK
 have hI := b25 (G := G) 12
 rw [show a1x 12 = 2 from rfl] at hI
 have hA := a8t (G := G) 12
 rw [show a1c 12 = 2 from rfl] at hA
 have hr : opR 12 args ins = if ins.length = 2 /\ args.length = 2 then c0h args[0]! args[1]! ins[0]! ins[1]! else bad 6 := by simp [opR, a0x, a1x, a1c]
 generalize opR 12 args ins = r0 at *
 refine a0j rfl ?_
 simp (disch := omega) [go_sem, a0q]
 refine a0b hK rfl rfl ?_
 simp (disch := omega) [go_sem]
 refine a0b hI rfl rfl ?_
 by_cases i0 : ins.length = 2
 rotate_left
 ·have i0' : ¬ (ins.length : Int) = 2 := by omega
  rw [if_neg (fun k => i0 k.1)] at hr
  subst hr
  simp (disch := omega) [go_sem, i0, i0', bad, dn, eC6]
 obtain ⟨a, b, rfl⟩ := a6u i0
 have ha := hi a (by simp)
 have hb := hi b (by simp)
 simp (disch := omega) [go_sem]
 refine a0b hA rfl rfl ?_
 by_cases a0 : args.length = 2
 rotate_left
 ·have a0' : ¬ (args.length : Int) = 2 := by omega
  rw [if_neg (fun k => a0 k.2)] at hr
  subst hr
  simp (disch := omega) [go_sem, a0, a0', bad, dn, eC6]
 obtain ⟨p, q, rfl⟩ := a6u a0
 rw [if_pos ⟨rfl, rfl⟩] at hr
 subst hr
 simp (disch := omega) [go_sem]
 refine a0c ?_
 simp (disch := omega) [go_sem]
 refine a1j (e9m p q a b ha hb) (by simp [go_sem, a0k]) (by simp (disch := omega) [go_sem]) (by simp (disch := omega) [go_sem, a0f, a1a]) [55] (by simp) (by simp (disch := omega) [go_sem]) ?_
 simp (disch := omega) [go_sem, a0f, a1a]
 refine a0d (by decide) fun s2 hs2 he2 => ?_
 simp (disch := omega) [go_sem, hs2]
theorem d9p (args : List Int) (ins : List Ds) (hl : ins.length < 2 ^ 40) (hal : args.length < 2 ^ 40) (hi : ∀ d ∈ ins, d.shape.length < 2 ^ 40) : ACalls pg G a1b [li 13, slI args, slD ins] (rAV (opR 13 args ins)) := by
 have hK := a17 (G := G) 13
 rw [show a0x 13 = true from rfl] at hK
 have hI := b25 (G := G) 13
 rw [show a1x 13 = 2 from rfl] at hI
 have hA := a8t (G := G) 13
 rw [show a1c 13 = 3 from rfl] at hA
 have hr : opR 13 args ins = if ins.length = 2 /\ args.length = 3 then a8l args ins[0]! ins[1]! else bad 6 := by simp [opR, a0x, a1x, a1c]
 generalize opR 13 args ins = r0 at *
 refine a0j rfl ?_
 simp (disch := omega) [go_sem, a0q]
 refine a0b hK rfl rfl ?_
 simp (disch := omega) [go_sem]
 refine a0b hI rfl rfl ?_
 by_cases i0 : ins.length = 2
 rotate_left
 ·have i0' : ¬ (ins.length : Int) = 2 := by omega
  rw [if_neg (fun k => i0 k.1)] at hr
  subst hr
  simp (disch := omega) [go_sem, i0, i0', bad, dn, eC6]
 obtain ⟨a, b, rfl⟩ := a6u i0
 have ha := hi a (by simp)
 have hb := hi b (by simp)
 simp (disch := omega) [go_sem]
 refine a0b hA rfl rfl ?_
 by_cases a0 : args.length = 3
 rotate_left
 ·have a0' : ¬ (args.length : Int) = 3 := by omega
  rw [if_neg (fun k => a0 k.2)] at hr
  subst hr
  simp (disch := omega) [go_sem, a0, a0', bad, dn, eC6]
 obtain ⟨p, q, z, rfl⟩ := d3q a0
 rw [if_pos ⟨rfl, rfl⟩] at hr
 subst hr
 simp (disch := omega) [go_sem]
 refine a0c ?_
 simp (disch := omega) [go_sem]
 refine a1j (d9g p q z a b ha hb) (by simp [go_sem, a0k]) (by simp (disch := omega) [go_sem]) (by simp (disch := omega) [go_sem, a0f, a1a]) [67] (by simp) (by simp (disch := omega) [go_sem]) ?_
 simp (disch := omega) [go_sem, a0f, a1a]
 refine a0d (by decide) fun s2 hs2 he2 => ?_
 simp (disch := omega) [go_sem, hs2]
theorem d9q (args : List Int) (ins : List Ds) (hl : ins.length < 2 ^ 40) (hal : args.length < 2 ^ 40) (hi : ∀ d ∈ ins, d.shape.length < 2 ^ 40) : ACalls pg G a1b [li 14, slI args, slD ins] (rAV (opR 14 args ins)) := by
 have hK := a17 (G := G) 14
 rw [show a0x 14 = true from rfl] at hK
 have hI := b25 (G := G) 14
 rw [show a1x 14 = 1 from rfl] at hI
 have hA := a8t (G := G) 14
 rw [show a1c 14 = 2 from rfl] at hA
 have hr : opR 14 args ins = if ins.length = 1 /\ args.length = 2 then a70 args ins[0]! else bad 6 := by simp [opR, a0x, a1x, a1c]
 generalize opR 14 args ins = r0 at *
 refine a0j rfl ?_
 simp (disch := omega) [go_sem, a0q]
 refine a0b hK rfl rfl ?_
 simp (disch := omega) [go_sem]
 refine a0b hI rfl rfl ?_
 by_cases i0 : ins.length = 1
 rotate_left
 ·have i0' : ¬ (ins.length : Int) = 1 := by omega
  rw [if_neg (fun k => i0 k.1)] at hr
  subst hr
  simp (disch := omega) [go_sem, i0, i0', bad, dn, eC6]
 obtain ⟨a, rfl⟩ := a7x i0
 have ha := hi a (by simp)
 simp (disch := omega) [go_sem]
 refine a0b hA rfl rfl ?_
 by_cases a0 : args.length = 2
 rotate_left
 ·have a0' : ¬ (args.length : Int) = 2 := by omega
  rw [if_neg (fun k => a0 k.2)] at hr
  subst hr
  simp (disch := omega) [go_sem, a0, a0', bad, dn, eC6]
 obtain ⟨p, q, rfl⟩ := a6u a0
 rw [if_pos ⟨rfl, rfl⟩] at hr
 subst hr
 simp (disch := omega) [go_sem]
 refine a0e (d2n p q a ha) (by simp [go_sem, a0k]) (by simp (disch := omega) [go_sem]) ?_
 simp (disch := omega) [go_sem]
theorem d9r (args : List Int) (ins : List Ds) (hl : ins.length < 2 ^ 40) (hal : args.length < 2 ^ 40) (hi : ∀ d ∈ ins, d.shape.length < 2 ^ 40) : ACalls pg G a1b [li 15, slI args, slD ins] (rAV (opR 15 args ins)) := by
 have hK := a17 (G := G) 15
 rw [show a0x 15 = true from rfl] at hK
 have hI := b25 (G := G) 15
 rw [show a1x 15 = 1 from rfl] at hI
 have hA := a8t (G := G) 15
 rw [show a1c 15 = 2 from rfl] at hA
 have hr : opR 15 args ins = if ins.length = 1 /\ args.length = 2 then a70 args ins[0]! else bad 6 := by simp [opR, a0x, a1x, a1c]
 generalize opR 15 args ins = r0 at *
 refine a0j rfl ?_
 simp (disch := omega) [go_sem, a0q]
 refine a0b hK rfl rfl ?_
 simp (disch := omega) [go_sem]
 refine a0b hI rfl rfl ?_
 by_cases i0 : ins.length = 1
 rotate_left
 ·have i0' : ¬ (ins.length : Int) = 1 := by omega
  rw [if_neg (fun k => i0 k.1)] at hr
  subst hr
  simp (disch := omega) [go_sem, i0, i0', bad, dn, eC6]
 obtain ⟨a, rfl⟩ := a7x i0
 have ha := hi a (by simp)
 simp (disch := omega) [go_sem]
 refine a0b hA rfl rfl ?_
 by_cases a0 : args.length = 2
 rotate_left
 ·have a0' : ¬ (args.length : Int) = 2 := by omega
  rw [if_neg (fun k => a0 k.2)] at hr
  subst hr
  simp (disch := omega) [go_sem, a0, a0', bad, dn, eC6]
 obtain ⟨p, q, rfl⟩ := a6u a0
 rw [if_pos ⟨rfl, rfl⟩] at hr
 subst hr
 simp (disch := omega) [go_sem]
 refine a0e (d2n p q a ha) (by simp [go_sem, a0k]) (by simp (disch := omega) [go_sem]) ?_
 simp (disch := omega) [go_sem]
theorem d9s (args : List Int) (ins : List Ds) (hl : ins.length < 2 ^ 40) (hal : args.length < 2 ^ 40) (hi : ∀ d ∈ ins, d.shape.length < 2 ^ 40) : ACalls pg G a1b [li 16, slI args, slD ins] (rAV (opR 16 args ins)) := by
 have hK := a17 (G := G) 16
 rw [show a0x 16 = true from rfl] at hK
 have hI := b25 (G := G) 16
 rw [show a1x 16 = 2 from rfl] at hI
 have hA := a8t (G := G) 16
 rw [show a1c 16 = 0 from rfl] at hA
 have hr : opR 16 args ins = if ins.length = 2 /\ args.length = 0 then a3c 16 ins else bad 6 := by simp [opR, a0x, a1x, a1c]
 generalize opR 16 args ins = r0 at *
 refine a0j rfl ?_
 simp (disch := omega) [go_sem, a0q]
 refine a0b hK rfl rfl ?_
 simp (disch := omega) [go_sem]
 refine a0b hI rfl rfl ?_
 by_cases i0 : ins.length = 2
 rotate_left
 ·have i0' : ¬ (ins.length : Int) = 2 := by omega
  rw [if_neg (fun k => i0 k.1)] at hr
  subst hr
  simp (disch := omega) [go_sem, i0, i0', bad, dn, eC6]
 obtain ⟨a, b, rfl⟩ := a6u i0
 have ha := hi a (by simp)
 have hb := hi b (by simp)
 simp (disch := omega) [go_sem]
 refine a0b hA rfl rfl ?_
 by_cases a0 : args.length = 0
 rotate_left
 ·have a0' : ¬ (args.length : Int) = 0 := by omega
  rw [if_neg (fun k => a0 k.2)] at hr
  subst hr
  have a0n : args ≠ [] := by rintro rfl; exact a0 rfl
  simp (disch := omega) [go_sem, a0, a0', a0n, bad, dn, eC6]
 obtain rfl := List.eq_nil_of_length_eq_zero a0
 rw [if_pos ⟨rfl, rfl⟩] at hr
 subst hr
 simp (disch := omega) [go_sem]
 refine a0e (d5s a b ha hb) (by simp [go_sem, a0k]) (by simp (disch := omega) [go_sem]) ?_
 simp (disch := omega) [go_sem]
theorem d9t (args : List Int) (ins : List Ds) (hl : ins.length < 2 ^ 40) (hal : args.length < 2 ^ 40) (hi : ∀ d ∈ ins, d.shape.length < 2 ^ 40) : ACalls pg G a1b [li 17, slI args, slD ins] (rAV (opR 17 args ins)) := by
 have hK := a17 (G := G) 17
 rw [show a0x 17 = true from rfl] at hK
 have hI := b25 (G := G) 17
 rw [show a1x 17 = 2 from rfl] at hI
 have hA := a8t (G := G) 17
 rw [show a1c 17 = 0 from rfl] at hA
 have hr : opR 17 args ins = if ins.length = 2 /\ args.length = 0 then a3c 17 ins else bad 6 := by simp [opR, a0x, a1x, a1c]
 generalize opR 17 args ins = r0 at *
 refine a0j rfl ?_
 simp (disch := omega) [go_sem, a0q]
 refine a0b hK rfl rfl ?_
 simp (disch := omega) [go_sem]
 refine a0b hI rfl rfl ?_
 by_cases i0 : ins.length = 2
 rotate_left
 ·have i0' : ¬ (ins.length : Int) = 2 := by omega
  rw [if_neg (fun k => i0 k.1)] at hr
  subst hr
  simp (disch := omega) [go_sem, i0, i0', bad, dn, eC6]
 obtain ⟨a, b, rfl⟩ := a6u i0
 have ha := hi a (by simp)
 have hb := hi b (by simp)
 simp (disch := omega) [go_sem]
 refine a0b hA rfl rfl ?_
 by_cases a0 : args.length = 0
 rotate_left
 ·have a0' : ¬ (args.length : Int) = 0 := by omega
  rw [if_neg (fun k => a0 k.2)] at hr
  subst hr
  have a0n : args ≠ [] := by rintro rfl; exact a0 rfl
  simp (disch := omega) [go_sem, a0, a0', a0n, bad, dn, eC6]
 obtain rfl := List.eq_nil_of_length_eq_zero a0
 rw [if_pos ⟨rfl, rfl⟩] at hr
 subst hr
 simp (disch := omega) [go_sem]
 refine a0e (d5t a b ha hb) (by simp [go_sem, a0k]) (by simp (disch := omega) [go_sem]) ?_
 simp (disch := omega) [go_sem]
theorem d9v (args : List Int) (ins : List Ds) (hl : ins.length < 2 ^ 40) (hal : args.length < 2 ^ 40) (hi : ∀ d ∈ ins, d.shape.length < 2 ^ 40) : ACalls pg G a1b [li 19, slI args, slD ins] (rAV (opR 19 args ins)) := by
 have hK := a17 (G := G) 19
 rw [show a0x 19 = true from rfl] at hK
 have hI := b25 (G := G) 19
 rw [show a1x 19 = 1 from rfl] at hI
 have hA := a8t (G := G) 19
 rw [show a1c 19 = 0 from rfl] at hA
 have hr : opR 19 args ins = if ins.length = 1 /\ args.length = 0 then a3c 19 ins else bad 6 := by simp [opR, a0x, a1x, a1c]
 generalize opR 19 args ins = r0 at *
 refine a0j rfl ?_
 simp (disch := omega) [go_sem, a0q]
 refine a0b hK rfl rfl ?_
 simp (disch := omega) [go_sem]
 refine a0b hI rfl rfl ?_
 by_cases i0 : ins.length = 1
 rotate_left
 ·have i0' : ¬ (ins.length : Int) = 1 := by omega
  rw [if_neg (fun k => i0 k.1)] at hr
  subst hr
  simp (disch := omega) [go_sem, i0, i0', bad, dn, eC6]
 obtain ⟨a, rfl⟩ := a7x i0
 have ha := hi a (by simp)
 simp (disch := omega) [go_sem]
 refine a0b hA rfl rfl ?_
 by_cases a0 : args.length = 0
 rotate_left
 ·have a0' : ¬ (args.length : Int) = 0 := by omega
  rw [if_neg (fun k => a0 k.2)] at hr
  subst hr
  have a0n : args ≠ [] := by rintro rfl; exact a0 rfl
  simp (disch := omega) [go_sem, a0, a0', a0n, bad, dn, eC6]
 obtain rfl := List.eq_nil_of_length_eq_zero a0
 rw [if_pos ⟨rfl, rfl⟩] at hr
 subst hr
 simp (disch := omega) [go_sem]
 refine a0e (d5u a ha) (by simp [go_sem, a0k]) (by simp (disch := omega) [go_sem]) ?_
 simp (disch := omega) [go_sem]
theorem d9w (args : List Int) (ins : List Ds) (hl : ins.length < 2 ^ 40) (hal : args.length < 2 ^ 40) (hi : ∀ d ∈ ins, d.shape.length < 2 ^ 40) : ACalls pg G a1b [li 20, slI args, slD ins] (rAV (opR 20 args ins)) := by
 have hK := a17 (G := G) 20
 rw [show a0x 20 = true from rfl] at hK
 have hI := b25 (G := G) 20
 rw [show a1x 20 = 1 from rfl] at hI
 have hA := a8t (G := G) 20
 rw [show a1c 20 = 0 from rfl] at hA
 have hr : opR 20 args ins = if ins.length = 1 /\ args.length = 0 then a3c 20 ins else bad 6 := by simp [opR, a0x, a1x, a1c]
 generalize opR 20 args ins = r0 at *
 refine a0j rfl ?_
 simp (disch := omega) [go_sem, a0q]
 refine a0b hK rfl rfl ?_
 simp (disch := omega) [go_sem]
 refine a0b hI rfl rfl ?_
 by_cases i0 : ins.length = 1
 rotate_left
 ·have i0' : ¬ (ins.length : Int) = 1 := by omega
  rw [if_neg (fun k => i0 k.1)] at hr
  subst hr
  simp (disch := omega) [go_sem, i0, i0', bad, dn, eC6]
 obtain ⟨a, rfl⟩ := a7x i0
 have ha := hi a (by simp)
 simp (disch := omega) [go_sem]
 refine a0b hA rfl rfl ?_
 by_cases a0 : args.length = 0
 rotate_left
 ·have a0' : ¬ (args.length : Int) = 0 := by omega
  rw [if_neg (fun k => a0 k.2)] at hr
  subst hr
  have a0n : args ≠ [] := by rintro rfl; exact a0 rfl
  simp (disch := omega) [go_sem, a0, a0', a0n, bad, dn, eC6]
 obtain rfl := List.eq_nil_of_length_eq_zero a0
 rw [if_pos ⟨rfl, rfl⟩] at hr
 subst hr
 simp (disch := omega) [go_sem]
 refine a0e (d5v a ha) (by simp [go_sem, a0k]) (by simp (disch := omega) [go_sem]) ?_
 simp (disch := omega) [go_sem]
theorem d9u (args : List Int) (ins : List Ds) (hl : ins.length < 2 ^ 40) (hal : args.length < 2 ^ 40) (hi : ∀ d ∈ ins, d.shape.length < 2 ^ 40) : ACalls pg G a1b [li 18, slI args, slD ins] (rAV (opR 18 args ins)) := by
 have hK := a17 (G := G) 18
 rw [show a0x 18 = true from rfl] at hK
 have hI := b25 (G := G) 18
 rw [show a1x 18 = 1 from rfl] at hI
 have hA := a8t (G := G) 18
 rw [show a1c 18 = 0 from rfl] at hA
 have hr : opR 18 args ins = if ins.length = 1 then a4s args ins[0]! else bad 6 := by simp [opR, a0x, a1x, a1c]
 generalize opR 18 args ins = r0 at *
 refine a0j rfl ?_
 simp (disch := omega) [go_sem, a0q]
 refine a0b hK rfl rfl ?_
 simp (disch := omega) [go_sem]
 refine a0b hI rfl rfl ?_
 by_cases i0 : ins.length = 1
 rotate_left
 ·have i0' : ¬ (ins.length : Int) = 1 := by omega
  rw [if_neg (fun k => i0 k)] at hr
  subst hr
  simp (disch := omega) [go_sem, i0, i0', bad, dn, eC6]
 obtain ⟨a, rfl⟩ := a7x i0
 have ha := hi a (by simp)
 rw [if_pos (by rfl)] at hr
 subst hr
 simp (disch := omega) [go_sem]
 have c := a6e (G := G) a.shape a.wide (by omega)
 rw [c3b] at c
 refine a0b c rfl rfl ?_
 by_cases hn : (a03 a.shape).isNil = true
 rotate_left
 ·have h0 : ¬ eC (a03 a.shape) = 0 := fun k => hn ((b0b a.shape).1 k)
  simp (disch := omega) [go_sem, h0, a4s, chk, hn, dn]
 have h0 := (b0b a.shape).2 hn
 have ea := a48.1 hn
 clear c
 simp (disch := omega) [go_sem, h0]
 have hre : a4s args a = chk (a03 args) (if a22 a.shape = a22 args then (⟨args, a.wide⟩, .nil) else bad 6) := by
  unfold a4s
  rw [chk, if_pos hn]
 rw [hre]
 clear hre
 refine a0c ?_
 simp (disch := omega) [go_sem]
 refine a1j (d8n args hal) (by simp [go_sem, a0k]) (by simp (disch := omega) [go_sem]) (by simp (disch := omega) [go_sem, a0f, a1a]) [122] (by simp) (by simp (disch := omega) [go_sem]) ?_
 simp (disch := omega) [go_sem, a0f, a1a]
 refine a0d (by decide) fun s2 hs2 hes2 => ?_
 simp (disch := omega) [go_sem, hs2]
 have c2 := a6e (G := G) args a.wide (by omega)
 rw [c3b] at c2
 refine a0b c2 rfl rfl ?_
 by_cases hn2 : (a03 args).isNil = true
 rotate_left
 ·have h2 : ¬ eC (a03 args) = 0 := fun k => hn2 ((b0b args).1 k)
  rw [chk, if_neg hn2]
  simp (disch := omega) [go_sem, hs2, h2, dn]
 have h2 := (b0b args).2 hn2
 have ea2 := a48.1 hn2
 clear c2
 rw [chk, if_pos hn2]
 simp (disch := omega) [go_sem, hs2, h2]
 refine a0c ?_
 simp (disch := omega) [go_sem, hs2]
 refine a0i (a7v args (by omega)) rfl rfl (by simp (disch := omega) [go_sem, a0f, a1a]) [134] (by simp) (by simp (disch := omega) [go_sem, hs2]) ?_
 simp (disch := omega) [go_sem, hs2, a0f, a1a]
 refine a0i (a7v a.shape (by omega)) rfl rfl (by simp (disch := omega) [go_sem, a0f, a1a]) [137] (by simp) (by simp (disch := omega) [go_sem, hs2]) ?_
 simp (disch := omega) [go_sem, hs2, a0f, a1a]
 refine a0d (by decide) fun s3 hs3 hes3 => ?_
 by_cases ce : a22 args = a22 a.shape
 ·rw [if_pos ce.symm]
  simp (disch := omega) [go_sem, hs3, hs2, ce, a3e]
 ·have ce' : ¬ a22 a.shape = a22 args := fun k => ce k.symm
  rw [if_neg ce']
  simp (disch := omega) [go_sem, hs3, hs2, ce, bad, dn, eC6]
theorem d9x (args : List Int) (ins : List Ds) (hl : ins.length < 2 ^ 40) (hal : args.length < 2 ^ 40) (hi : ∀ d ∈ ins, d.shape.length < 2 ^ 40) : ACalls pg G a1b [li 21, slI args, slD ins] (rAV (opR 21 args ins)) := by
 have hK := a17 (G := G) 21
 rw [show a0x 21 = true from rfl] at hK
 have hI := b25 (G := G) 21
 rw [show a1x 21 = 1 from rfl] at hI
 have hA := a8t (G := G) 21
 rw [show a1c 21 = 0 from rfl] at hA
 have hr : opR 21 args ins = if ins.length = 1 /\ args.length = 0 then b5l ins[0]! else bad 6 := by simp [opR, a0x, a1x, a1c]
 generalize opR 21 args ins = r0 at *
 refine a0j rfl ?_
 simp (disch := omega) [go_sem, a0q]
 refine a0b hK rfl rfl ?_
 simp (disch := omega) [go_sem]
 refine a0b hI rfl rfl ?_
 by_cases i0 : ins.length = 1
 rotate_left
 ·have i0' : ¬ (ins.length : Int) = 1 := by omega
  rw [if_neg (fun k => i0 k.1)] at hr
  subst hr
  simp (disch := omega) [go_sem, i0, i0', bad, dn, eC6]
 obtain ⟨a, rfl⟩ := a7x i0
 have ha := hi a (by simp)
 simp (disch := omega) [go_sem]
 refine a0b hA rfl rfl ?_
 by_cases a0 : args.length = 0
 rotate_left
 ·have a0' : ¬ (args.length : Int) = 0 := by omega
  rw [if_neg (fun k => a0 k.2)] at hr
  subst hr
  have a0n : args ≠ [] := by rintro rfl; exact a0 rfl
  simp (disch := omega) [go_sem, a0, a0', a0n, bad, dn, eC6]
 obtain rfl := List.eq_nil_of_length_eq_zero a0
 rw [if_pos ⟨rfl, rfl⟩] at hr
 subst hr
 simp (disch := omega) [go_sem]
 have c := a6e (G := G) a.shape a.wide (by omega)
 rw [c3b] at c
 refine a0b c rfl rfl ?_
 by_cases hn : (a03 a.shape).isNil = true
 rotate_left
 ·have h0 : ¬ eC (a03 a.shape) = 0 := fun k => hn ((b0b a.shape).1 k)
  simp (disch := omega) [go_sem, h0, b5l, chk, hn, dn]
 have h0 := (b0b a.shape).2 hn
 have ea := a48.1 hn
 clear c
 simp (disch := omega) [go_sem, h0]
 by_cases c1 : a.shape.length = 2
 rotate_left
 ·have c1' : ¬ (a.shape.length : Int) = 2 := by omega
  simp (disch := omega) [go_sem, c1', b5l, chk, ea, Er.isNil, c1, bad, dn, eC6]
 obtain ⟨ash, aw⟩ := a
 obtain ⟨x, y, rfl⟩ := a6u c1
 have hse : b5l ⟨[x, y], aw⟩ = a6r [y, x] aw := by simp [b5l, a6r, chk, ea, e0c ea, Er.isNil]
 rw [hse]
 simp (disch := omega) [go_sem]
 refine a0c ?_
 simp (disch := omega) [go_sem, a7a, a0r]
 have hse := b12 (G := G) [y, x] aw (by simp)
 by_cases he : (a03 [y, x]).isNil = true
 ·have e2 : a6r [y, x] aw = (⟨[y, x], aw⟩, .nil) := by simp [a6r, chk, he]
  rw [e2] at hse ⊢
  refine b2a hse (by simp [go_sem, a0k]) (by simp [go_sem, a09, a1f]) (by simp (disch := omega) [go_sem, a0f, a1a]) [118, 117] (by simp) (by simp (disch := omega) [go_sem]) ?_
  simp (disch := omega) [go_sem, a0f, a1a]
  refine a0d (by decide) fun s3 hs3 hes3 => ?_
  simp (disch := omega) [go_sem, hs3, dn]
 ·have e2 : a6r [y, x] aw = (dn, a03 [y, x]) := by simp [a6r, chk, he]
  rw [e2] at hse ⊢
  refine a0i hse (by simp [go_sem, a0k]) (by simp [go_sem, a09, a1f, dn]) (by simp (disch := omega) [go_sem, a0f, a1a]) [118, 117] (by simp) (by simp (disch := omega) [go_sem]) ?_
  simp (disch := omega) [go_sem, a0f, a1a]
  refine a0d (by decide) fun s3 hs3 hes3 => ?_
  simp (disch := omega) [go_sem, hs3, dn]
theorem c39 (op : Int) (args : List Int) (ins : List Ds) (hl : ins.length < 2 ^ 40) (hal : args.length < 2 ^ 40) (hi : ∀ d ∈ ins, d.shape.length < 2 ^ 40) : ACalls pg G a1b [li op, slI args, slD ins] (rAV (opR op args ins)) := by
 by_cases k : a0x op = true
 rotate_left
 ·have kf : a0x op = false := by simpa using k
  have hK := a17 (G := G) op
  rw [kf] at hK
  have hr : opR op args ins = bad 5 := by simp [opR, kf]
  rw [hr]
  refine a0j rfl ?_
  simp (disch := omega) [go_sem, a0q]
  refine a0b hK rfl rfl ?_
  simp (disch := omega) [go_sem, bad, dn, eC5]
 have k2 := k
 simp only [a0x, Bool.and_eq_true, decide_eq_true_eq] at k2
 obtain rfl | rfl | rfl | rfl | rfl | rfl | rfl | rfl | rfl | rfl | rfl | rfl | rfl | rfl | rfl | rfl | rfl | rfl : op = 4 \/ op = 5 \/ op = 6 \/ op = 7 \/ op = 8 \/ op = 9 \/ op = 10 \/ op = 11 \/ op = 12 \/ op = 13 \/ op = 14 \/ op = 15 \/ op = 16 \/ op = 17 \/ op = 18 \/ op = 19 \/ op = 20 \/ op = 21 := by omega
 ·have hr : opR 4 args ins = if ins.length = 2 /\ args.length = 0 then a13 4 args ins else bad 6 := by simp [opR, a0x, a1x, a1c]
  rw [hr]
  clear hr
  refine a0j rfl ?_
  simp (disch := omega) [go_sem, a0q]
  refine a0b (show ACalls pg G a1r [li 4] (lb true) from a17 4) rfl rfl ?_
  simp (disch := omega) [go_sem]
  refine a0e (d2e args ins hl hal hi) (by simp [go_sem, a0k]) (by simp (disch := omega) [go_sem]) ?_
  simp (disch := omega) [go_sem]
 ·have hr : opR 5 args ins = if ins.length = 2 /\ args.length = 0 then a13 5 args ins else bad 6 := by simp [opR, a0x, a1x, a1c]
  rw [hr]
  clear hr
  refine a0j rfl ?_
  simp (disch := omega) [go_sem, a0q]
  refine a0b (show ACalls pg G a1r [li 5] (lb true) from a17 5) rfl rfl ?_
  simp (disch := omega) [go_sem]
  refine a0e (d2f args ins hl hal hi) (by simp [go_sem, a0k]) (by simp (disch := omega) [go_sem]) ?_
  simp (disch := omega) [go_sem]
 ·have hr : opR 6 args ins = if ins.length = 2 /\ args.length = 0 then a13 6 args ins else bad 6 := by simp [opR, a0x, a1x, a1c]
  rw [hr]
  clear hr
  refine a0j rfl ?_
  simp (disch := omega) [go_sem, a0q]
  refine a0b (show ACalls pg G a1r [li 6] (lb true) from a17 6) rfl rfl ?_
  simp (disch := omega) [go_sem]
  refine a0e (d2g args ins hl hal hi) (by simp [go_sem, a0k]) (by simp (disch := omega) [go_sem]) ?_
  simp (disch := omega) [go_sem]
 ·have hr : opR 7 args ins = if ins.length = 2 /\ args.length = 0 then a13 7 args ins else bad 6 := by simp [opR, a0x, a1x, a1c]
  rw [hr]
  clear hr
  refine a0j rfl ?_
  simp (disch := omega) [go_sem, a0q]
  refine a0b (show ACalls pg G a1r [li 7] (lb true) from a17 7) rfl rfl ?_
  simp (disch := omega) [go_sem]
  refine a0e (d2h args ins hl hal hi) (by simp [go_sem, a0k]) (by simp (disch := omega) [go_sem]) ?_
  simp (disch := omega) [go_sem]
 ·have hr : opR 8 args ins = if ins.length = 1 /\ args.length = 0 then a13 8 args ins else bad 6 := by simp [opR, a0x, a1x, a1c]
  rw [hr]
  clear hr
  refine a0j rfl ?_
  simp (disch := omega) [go_sem, a0q]
  refine a0b (show ACalls pg G a1r [li 8] (lb true) from a17 8) rfl rfl ?_
  simp (disch := omega) [go_sem]
  refine a0e (d2i args ins hl hal hi) (by simp [go_sem, a0k]) (by simp (disch := omega) [go_sem]) ?_
  simp (disch := omega) [go_sem]
 ·have hr : opR 9 args ins = if ins.length = 1 /\ args.length = 2 then a13 9 args ins else bad 6 := by simp [opR, a0x, a1x, a1c]
  rw [hr]
  clear hr
  refine a0j rfl ?_
  simp (disch := omega) [go_sem, a0q]
  refine a0b (show ACalls pg G a1r [li 9] (lb true) from a17 9) rfl rfl ?_
  simp (disch := omega) [go_sem]
  refine a0e (d2j args ins hl hal hi) (by simp [go_sem, a0k]) (by simp (disch := omega) [go_sem]) ?_
  simp (disch := omega) [go_sem]
 ·have hr : opR 10 args ins = if ins.length = 1 /\ args.length = 3 then a13 10 args ins else bad 6 := by simp [opR, a0x, a1x, a1c]
  rw [hr]
  clear hr
  refine a0j rfl ?_
  simp (disch := omega) [go_sem, a0q]
  refine a0b (show ACalls pg G a1r [li 10] (lb true) from a17 10) rfl rfl ?_
  simp (disch := omega) [go_sem]
  refine a0e (c9l args ins hl hal hi) (by simp [go_sem, a0k]) (by simp (disch := omega) [go_sem]) ?_
  simp (disch := omega) [go_sem]
 ·have hr : opR 11 args ins = if ins.length = 1 /\ args.length = 1 then a13 11 args ins else bad 6 := by simp [opR, a0x, a1x, a1c]
  rw [hr]
  clear hr
  refine a0j rfl ?_
  simp (disch := omega) [go_sem, a0q]
  refine a0b (show ACalls pg G a1r [li 11] (lb true) from a17 11) rfl rfl ?_
  simp (disch := omega) [go_sem]
  refine a0e (c9m args ins hl hal hi) (by simp [go_sem, a0k]) (by simp (disch := omega) [go_sem]) ?_
  simp (disch := omega) [go_sem]
 ·exact d9o args ins hl hal hi
 ·exact d9p args ins hl hal hi
 ·exact d9q args ins hl hal hi
 ·exact d9r args ins hl hal hi
 ·exact d9s args ins hl hal hi
 ·exact d9t args ins hl hal hi
 ·exact d9u args ins hl hal hi
 ·exact d9v args ins hl hal hi
 ·exact d9w args ins hl hal hi
 ·exact d9x args ins hl hal hi
end
end Go.Ideal.Tryz
end
section
namespace Go.Ideal.Tryz
attribute [local go_sem] eD eT eV
section
variable {G : GG} {bk : Nat -> Nat × Nat} {Q : Exit -> St -> Prop} {st : St}
theorem f0x (hS : Sent G bk) (a : Ds) (ha : a.shape.length < 2 ^ 62) : ACalls pg G c91 [.agg (eD a)] (c2c bk (b5l a)) := by
 have h7 := hS.val 6 (by decide)
 by_cases he : a03 a.shape = .nil
 ·by_cases c1 : a.shape.length = 2
  ·obtain ⟨ash, aw⟩ := a
   obtain ⟨x, y, rfl⟩ := a6u c1
   have hr : b5l ⟨[x, y], aw⟩ = (⟨[y, x], aw⟩, .nil) := by simp [b5l, chk, he, Er.isNil]
   rw [hr]
   refine ACalls.shown (res := .tup [.agg [owI [y, x], lb aw], .lit .nilIface]) ?_ rfl
   refine b1x rfl ?_
   simp (disch := omega) [go_sem, b45]
   refine a0e (a1l hS.five.three [x, y] aw (by simp)) (a0m _) (by simp (disch := omega) [go_sem]) ?_
   simp (disch := omega) [go_sem, he, Er.isNil]
   refine a0c ?_
   simp (disch := omega) [go_sem]
   refine a0d (by decide) fun s2 hs2 hes2 => ?_
   simp (disch := omega) [go_sem, hs2]
  ·have c1' : ¬ (a.shape.length : Int) = 2 := by omega
   have hr : b5l a = (dn, .s 6) := by simp only [b5l, chk, he, Er.isNil, if_true, c1, if_false]; rfl
   rw [hr]
   refine b1x rfl ?_
   simp (disch := omega) [go_sem, b45]
   refine a0e (a1l hS.five.three a.shape a.wide ha) (a0m _) (by simp (disch := omega) [go_sem]) ?_
   simp (disch := omega) [go_sem, he, Er.isNil, c1']
   refine a0c ?_
   simp (disch := omega) [go_sem, h7, dn, a0s]
   refine a0d (by decide) fun s2 hs2 hes2 => ?_
   simp (disch := omega) [go_sem, hs2, h7, dn, a0s]
 ·have he' := a4i he
  have hr : b5l a = (dn, a03 a.shape) := by simp only [b5l, chk, he']; rfl
  rw [hr]
  refine b1x rfl ?_
  simp (disch := omega) [go_sem, b45]
  refine a0e (a1l hS.five.three a.shape a.wide ha) (a0m _) (by simp (disch := omega) [go_sem]) ?_
  simp (disch := omega) [go_sem, he', dn]
end
end Go.Ideal.Tryz
end
section
namespace Go.Ideal.Tryz
attribute [local go_sem] eD eT eV
section
variable {G : GG} {bk : Nat -> Nat × Nat} {Q : Exit -> St -> Prop} {st : St}
theorem d9k (hS : Sent3 G bk) {args : List Int} {a : Ds} (ha : (a.shape).length < 2 ^ 62) (hb : (args).length < 2 ^ 62)
  (h : st.s 0 = slI args /\ st.s 3 = .var (eD a) /\ st.s 6 = .var [slI args, lb a.wide] /\ st.s 4 = zD /\ st.s 5 = .lit .nilIface /\ st.s 17 = .own 2 2 [slI a.shape, lb a.wide, slI args, lb a.wide] /\ st.s 18 = li 2 /\ st.s 19 = li 0)
  (hbad : ∀ e : Er, e ≠ .nil -> a4s args a = (dn, e) -> ∀ s, s.s 4 = .var [.sl 0 [], lb false] /\ s.s 5 = a0s bk e -> Q .ret s)
  (hex : a03 (a.shape) = .nil -> a03 (args) = .nil -> ∀ s, s.s 0 = slI args /\ s.s 3 = .var (eD a) /\ s.s 6 = .var [slI args, lb a.wide] /\ s.s 4 = zD /\ s.s 5 = .lit .nilIface -> Q (.exit 0) s) : AW pg G 39 (.loop a5g) Q st := by
 refine a08 Nat (fun i st => i <= 2 /\ (1 <= i -> a03 (a.shape) = .nil) /\ (2 <= i -> a03 (args) = .nil) /\ st.s 0 = slI args /\ st.s 3 = .var (eD a) /\ st.s 6 = .var [slI args, lb a.wide] /\ st.s 4 = zD /\ st.s 5 = .lit .nilIface /\ st.s 17 = .own 2 2 [slI a.shape, lb a.wide, slI args, lb a.wide] /\ st.s 18 = li 2 /\ st.s 19 = li i) (fun i => 2 - i) 0 ⟨by omega, by omega, by omega, h⟩ ?_
 clear h
 rintro i st K ⟨hi, h1, h2, h⟩ hK
 obtain rfl | rfl | rfl : i = 0 \/ i = 1 \/ i = 2 := by omega
 ·simp (disch := omega) [go_sem, a5g, h]
  refine a0e (a1l hS (a.shape) a.wide ha) (a0m _) (by simp (disch := omega) [go_sem, h]) ?_
  by_cases he : a03 (a.shape) = .nil
  ·simp (disch := omega) [go_sem, h, he, Er.isNil]
   refine hK 1 _ ⟨by omega, fun _ => he, by omega, by simp (disch := omega) [go_sem, h]⟩ (by omega)
  ·have he' := a4i he
   simp (disch := omega) [go_sem, h, he']
   exact hbad _ he (by simp only [a4s, chk, he']; rfl) _ (by simp (disch := omega) [go_sem, h])
 ·simp (disch := omega) [go_sem, a5g, h]
  have ea := h1 (by omega)
  refine a0e (a1l hS (args) a.wide hb) (a0m _) (by simp (disch := omega) [go_sem, h]) ?_
  by_cases he : a03 (args) = .nil
  ·simp (disch := omega) [go_sem, h, he, Er.isNil]
   refine hK 2 _ ⟨by omega, fun _ => ea, fun _ => he, by simp (disch := omega) [go_sem, h]⟩ (by omega)
  ·have he' := a4i he
   simp (disch := omega) [go_sem, h, he']
   exact hbad _ he (by simp only [a4s, chk, he', ea, Er.isNil]; rfl) _ (by simp (disch := omega) [go_sem, h])
 ·simp (disch := omega) [go_sem, a5g, h]
  exact hex (h1 (by omega)) (h2 (by omega)) _ (by simp (disch := omega) [go_sem, h])
theorem e9l (hS : Sent G bk) (args : List Int) (a : Ds) (ha : a.shape.length < 2 ^ 40) (hb : args.length < 2 ^ 40) : ACalls pg G c2q [slI args, .agg (eD a)] (c2c bk (a4s args a)) := by
 have h7 := hS.val 6 (by decide)
 refine b8w rfl ?_
 simp (disch := omega) [go_sem, b6s]
 refine a0c ?_
 simp (disch := omega) [go_sem]
 refine a0i (c5n args hb) rfl (by simp only [a09, a1f, a3g, Bool.and_true]) (by simp) [11] (by simp) (by simp (disch := omega) [go_sem]) ?_
 simp (disch := omega) [go_sem]
 refine a0d (by decide) fun s2 hs2 he2 => ?_
 simp (disch := omega) [go_sem, hs2, a7a, a0r]
 refine d9k hS.five.three (args := args) (a := a) (by omega) (by omega) (by simp (disch := omega) [go_sem, hs2]) (fun e he hm s h => ?_) (fun ea eb s h => ?_)
 ·rw [hm]
  simp (disch := omega) [go_sem, h, dn]
 simp (disch := omega) [go_sem, h]
 refine a0b (b4o hS.five.three a.shape (by omega)) rfl rfl ?_
 simp (disch := omega) [go_sem, h]
 refine a0b (b4o hS.five.three args (by omega)) rfl rfl ?_
 by_cases hq : a22 a.shape = a22 args
 ·simp (disch := omega) [go_sem, h, hq, a4s, chk, ea, eb, Er.isNil, a0s]
 ·simp (disch := omega) [go_sem, h, hq]
  refine a0c ?_
  simp (disch := omega) [go_sem, h, h7]
  refine a0d (by decide) fun s3 hs3 he3 => ?_
  simp (disch := omega) [go_sem, hs3, h, h7, hq, a4s, chk, ea, eb, Er.isNil, a0s, bad, dn]
end
end Go.Ideal.Tryz
end
section
namespace Go.Ideal.Tryz
attribute [local go_sem] eD eT eV
section
variable {G : GG} {bk : Nat -> Nat × Nat} {Q : Exit -> St -> Prop} {st : St}
theorem c17 (hS : Sent3 G bk) {op : Int} {ins : List Ds} {r : Dr} (hn : ins.length < 2 ^ 40) (hf : ∀ d ∈ ins, d.shape.length < 2 ^ 40)
  (h : st.s 0 = li op /\ st.s 1 = slD ins /\ st.s 4 = zD /\ st.s 5 = .lit .nilIface /\ st.s 28 = slD ins /\ st.s 29 = li ins.length /\ st.s 30 = li 0)
  (hbad : ∀ e : Er, e ≠ .nil -> a81 ins r = (dn, e) -> ∀ s, s.s 4 = .var [.sl 0 [], lb false] /\ s.s 5 = a0s bk e -> Q .ret s)
  (hex : a81 ins r = r -> ∀ s, s.s 0 = li op /\ s.s 1 = slD ins /\ s.s 4 = zD /\ s.s 5 = .lit .nilIface -> Q (.exit 1) s) : AW pg G 58 (.loop a6g) Q st := by
 refine a08 Nat (fun i st => i <= ins.length /\ a81 ins r = a81 (ins.drop i) r /\ st.s 0 = li op /\ st.s 1 = slD ins /\ st.s 4 = zD /\ st.s 5 = .lit .nilIface /\ st.s 28 = slD ins /\ st.s 29 = li ins.length /\ st.s 30 = li i) (fun i => ins.length - i) 0 ⟨by omega, rfl, h⟩ ?_
 clear h
 rintro i st K ⟨hi, hm, h⟩ hK
 by_cases hlt : i < ins.length
 ·rw [List.drop_eq_getElem_cons hlt, a81] at hm
  have hl := hf _ (List.getElem_mem hlt)
  simp (disch := omega) [go_sem, a6g, h, hlt]
  refine a0e (a1l hS ins[i].shape ins[i].wide (by omega)) (a0m _) (by simp (disch := omega) [go_sem, h]) ?_
  by_cases he : a03 ins[i].shape = .nil
  ·simp (disch := omega) [go_sem, h, he, Er.isNil]
   refine hK (i + 1) _ ⟨by omega, by rw [hm, chk, he]; rfl, by simp (disch := omega) [go_sem, h]⟩ (by omega)
  ·have he' := a4i he
   simp (disch := omega) [go_sem, h, he']
   exact hbad _ he (by rw [hm, chk, he']; rfl) _ (by simp (disch := omega) [go_sem, h])
 ·obtain rfl : i = ins.length := by omega
  rw [List.drop_length, a81] at hm
  simp (disch := omega) [go_sem, a6g, h]
  exact hex hm _ (by simp (disch := omega) [go_sem, h])
theorem c77 (hS : Sent G bk) (op : Int) (ins : List Ds) (hf : ∀ d ∈ ins, d.shape.length < 2 ^ 40) (ho : (op = 16 \/ op = 17) /\ ins.length = 2 \/ (op = 19 \/ op = 20) /\ ins.length = 1) : ACalls pg G c05 [li op, slD ins] (c2c bk (a3c op ins)) := by
 have h7 := hS.val 6 (by decide)
 have hl : ACalls pg G a71 [li op, slD ins] (.tup [.agg (eD (a1m op ins).1), lb (a1m op ins).2]) := by
  rcases ho with ⟨h, h2⟩ | ⟨h, h2⟩
  ·obtain ⟨a, b, rfl⟩ := a6u h2
   rcases h with rfl | rfl
   ·exact d8v a b (hf a (by simp)) (hf b (by simp))
   ·exact d8w a b (hf a (by simp)) (hf b (by simp))
  ·obtain ⟨a, rfl⟩ := a7x h2
   exact d8x op (by omega) (by omega) a (hf a (by simp))
 have hn : ins.length < 2 ^ 40 := by omega
 have hlen : (a1m op ins).1.shape.length < 2 ^ 40 := by
  rcases ho with ⟨h, h2⟩ | ⟨h, h2⟩
  ·obtain ⟨a, b, rfl⟩ := a6u h2
   have := hf a (by simp)
   rcases h with rfl | rfl
   ·exact this
   ·rw [show a1m 17 [a, b] = (if a.shape.length = 2 /\ b.shape.length = 1 /\ b.wide = true then (⟨[b.shape[0]!, a.shape[1]!], a.wide⟩, true) else (dn, false)) from rfl]
    split <;> simp [dn]
  ·obtain ⟨a, rfl⟩ := a7x h2
   have := hf a (by simp)
   have hr : a1m op [a] = (if a.shape.length = 0 then (dn, false) else (⟨a.shape.dropLast, true⟩, true)) := by simp only [a1m, show ¬ op = 16 by omega, show ¬ op = 17 by omega, if_false]; rfl
   rw [hr]
   split <;> simp [dn]; omega
 unfold a3c
 generalize a1m op ins = d at *
 obtain ⟨d, ok⟩ := d
 refine b7r rfl ?_
 obtain ⟨rfl, h2⟩ | ⟨rfl, h2⟩ | ⟨rfl, h2⟩ | ⟨rfl, h2⟩ : (op = 16 /\ ins.length = 2) \/ (op = 17 /\ ins.length = 2) \/ (op = 19 /\ ins.length = 1) \/ (op = 20 /\ ins.length = 1) := by omega
 ·
  simp (disch := omega) [go_sem, a5j, h2]
  refine c17 hS.five.three (op := 16) (ins := ins) (r := if ok = true then a6r d.shape d.wide else bad 6) hn hf (by simp (disch := omega) [go_sem, h2]) (fun e he hm s h => ?_) (fun hm s h => ?_)
  ·rw [hm]
   simp (disch := omega) [go_sem, h, dn]
  ·rw [hm]
   simp (disch := omega) [go_sem, h]
   refine a0e hl (by simp [go_sem, a0k]) (by simp (disch := omega) [go_sem, h]) ?_
   cases ok
   ·simp (disch := omega) [go_sem, h]
    refine a0c ?_
    simp (disch := omega) [go_sem, h, h7]
    refine a0d (by decide) fun s2 hs2 he2 => ?_
    simp (disch := omega) [go_sem, hs2, h, h7, bad, dn, a0s]
   ·simp (disch := omega) [go_sem, h]
    refine a0e (a1l hS.five.three d.shape d.wide (by simp at hlen; omega)) (a0m _) (by simp (disch := omega) [go_sem, h]) ?_
    by_cases he : a03 d.shape = .nil
    ·simp (disch := omega) [go_sem, h, he, Er.isNil, a6r, chk, a0s]
    ·have he' := a4i he
     simp (disch := omega) [go_sem, h, he', a6r, chk, dn]
 ·
  simp (disch := omega) [go_sem, a5j, h2]
  refine c17 hS.five.three (op := 17) (ins := ins) (r := if ok = true then a6r d.shape d.wide else bad 6) hn hf (by simp (disch := omega) [go_sem, h2]) (fun e he hm s h => ?_) (fun hm s h => ?_)
  ·rw [hm]
   simp (disch := omega) [go_sem, h, dn]
  ·rw [hm]
   simp (disch := omega) [go_sem, h]
   refine a0e hl (by simp [go_sem, a0k]) (by simp (disch := omega) [go_sem, h]) ?_
   cases ok
   ·simp (disch := omega) [go_sem, h]
    refine a0c ?_
    simp (disch := omega) [go_sem, h, h7]
    refine a0d (by decide) fun s2 hs2 he2 => ?_
    simp (disch := omega) [go_sem, hs2, h, h7, bad, dn, a0s]
   ·simp (disch := omega) [go_sem, h]
    refine a0e (a1l hS.five.three d.shape d.wide (by simp at hlen; omega)) (a0m _) (by simp (disch := omega) [go_sem, h]) ?_
    by_cases he : a03 d.shape = .nil
    ·simp (disch := omega) [go_sem, h, he, Er.isNil, a6r, chk, a0s]
    ·have he' := a4i he
     simp (disch := omega) [go_sem, h, he', a6r, chk, dn]
 ·
  simp (disch := omega) [go_sem, a5j, h2]
  refine c17 hS.five.three (op := 19) (ins := ins) (r := if ok = true then a6r d.shape d.wide else bad 6) hn hf (by simp (disch := omega) [go_sem, h2]) (fun e he hm s h => ?_) (fun hm s h => ?_)
  ·rw [hm]
   simp (disch := omega) [go_sem, h, dn]
  ·rw [hm]
   simp (disch := omega) [go_sem, h]
   refine a0e hl (by simp [go_sem, a0k]) (by simp (disch := omega) [go_sem, h]) ?_
   cases ok
   ·simp (disch := omega) [go_sem, h]
    refine a0c ?_
    simp (disch := omega) [go_sem, h, h7]
    refine a0d (by decide) fun s2 hs2 he2 => ?_
    simp (disch := omega) [go_sem, hs2, h, h7, bad, dn, a0s]
   ·simp (disch := omega) [go_sem, h]
    refine a0e (a1l hS.five.three d.shape d.wide (by simp at hlen; omega)) (a0m _) (by simp (disch := omega) [go_sem, h]) ?_
    by_cases he : a03 d.shape = .nil
    ·simp (disch := omega) [go_sem, h, he, Er.isNil, a6r, chk, a0s]
    ·have he' := a4i he
     simp (disch := omega) [go_sem, h, he', a6r, chk, dn]
 ·
  simp (disch := omega) [go_sem, a5j, h2]
  refine c17 hS.five.three (op := 20) (ins := ins) (r := if ok = true then a6r d.shape d.wide else bad 6) hn hf (by simp (disch := omega) [go_sem, h2]) (fun e he hm s h => ?_) (fun hm s h => ?_)
  ·rw [hm]
   simp (disch := omega) [go_sem, h, dn]
  ·rw [hm]
   simp (disch := omega) [go_sem, h]
   refine a0e hl (by simp [go_sem, a0k]) (by simp (disch := omega) [go_sem, h]) ?_
   cases ok
   ·simp (disch := omega) [go_sem, h]
    refine a0c ?_
    simp (disch := omega) [go_sem, h, h7]
    refine a0d (by decide) fun s2 hs2 he2 => ?_
    simp (disch := omega) [go_sem, hs2, h, h7, bad, dn, a0s]
   ·simp (disch := omega) [go_sem, h]
    refine a0e (a1l hS.five.three d.shape d.wide (by simp at hlen; omega)) (a0m _) (by simp (disch := omega) [go_sem, h]) ?_
    by_cases he : a03 d.shape = .nil
    ·simp (disch := omega) [go_sem, h, he, Er.isNil, a6r, chk, a0s]
    ·have he' := a4i he
     simp (disch := omega) [go_sem, h, he', a6r, chk, dn]
end
end Go.Ideal.Tryz
end
section
namespace Go.Ideal.Tryz
attribute [local go_sem] eD eT eV
section
variable {G : GG} {bk : Nat -> Nat × Nat} {Q : Exit -> St -> Prop} {st : St}
theorem b1c (hS : Sent3 G bk) {op : Int} {args : List Int} {ins : List Ds} {r : Dr} (hn : ins.length < 2 ^ 40) (hf : ∀ d ∈ ins, d.shape.length < 2 ^ 40)
  (h : st.s 0 = li op /\ st.s 1 = slI args /\ st.s 2 = slD ins /\ st.s 8 = li ins.length /\ st.s 6 = zD /\ st.s 7 = .lit .nilIface /\ st.s 40 = slD ins /\ st.s 41 = li ins.length /\ st.s 42 = li 0)
  (hbad : ∀ e : Er, e ≠ .nil -> a81 ins r = (dn, e) -> ∀ s, s.s 6 = .var [.sl 0 [], lb false] /\ s.s 7 = a0s bk e -> Q .ret s)
  (hex : a81 ins r = r -> ∀ s, s.s 0 = li op /\ s.s 1 = slI args /\ s.s 2 = slD ins /\ s.s 8 = li ins.length /\ s.s 6 = zD /\ s.s 7 = .lit .nilIface -> Q (.exit 0) s) : AW pg G 146 (.loop a6b) Q st := by
 refine a08 Nat (fun i st => i <= ins.length /\ a81 ins r = a81 (ins.drop i) r /\ st.s 0 = li op /\ st.s 1 = slI args /\ st.s 2 = slD ins /\ st.s 8 = li ins.length /\ st.s 6 = zD /\ st.s 7 = .lit .nilIface /\ st.s 40 = slD ins /\ st.s 41 = li ins.length /\ st.s 42 = li i) (fun i => ins.length - i) 0 ⟨by omega, rfl, h⟩ ?_
 clear h
 rintro i st K ⟨hi, hm, h⟩ hK
 by_cases hlt : i < ins.length
 ·rw [List.drop_eq_getElem_cons hlt, a81] at hm
  have hl := hf _ (List.getElem_mem hlt)
  simp (disch := omega) [go_sem, a6b, h, hlt]
  refine a0e (a1l hS ins[i].shape ins[i].wide (by omega)) (a0m _) (by simp (disch := omega) [go_sem, h]) ?_
  by_cases he : a03 ins[i].shape = .nil
  ·simp (disch := omega) [go_sem, h, he, Er.isNil]
   refine hK (i + 1) _ ⟨by omega, by rw [hm, chk, he]; rfl, by simp (disch := omega) [go_sem, h]⟩ (by omega)
  ·have he' := a4i he
   simp (disch := omega) [go_sem, h, he']
   exact hbad _ he (by rw [hm, chk, he']; rfl) _ (by simp (disch := omega) [go_sem, h])
 ·obtain rfl : i = ins.length := by omega
  rw [List.drop_length, a81] at hm
  simp (disch := omega) [go_sem, a6b, h]
  exact hex hm _ (by simp (disch := omega) [go_sem, h])
end
end Go.Ideal.Tryz
end
