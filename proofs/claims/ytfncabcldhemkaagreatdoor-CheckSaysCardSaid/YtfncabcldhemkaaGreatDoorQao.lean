/- Part Qao of the proof: a machine with trees for values, its soundness, and walks on it. -/
import Derived.Test.YtfncabcldhemkaaGreatDoorQam
set_option linter.unusedVariables false
set_option linter.unusedSimpArgs false
set_option maxHeartbeats 4000000
set_option maxRecDepth 10000
section
namespace Go.Ideal.Tryz
attribute [local go_sem] eD eT eV
section
variable {G : GG} {bk : Nat -> Nat × Nat} {Q : Exit -> St -> Prop} {st : St}
theorem wq {x y : Int} (h : 0 <= x /\ 1 <= y /\ x < 4611686018427387904) : IntKind.i64.wrap (IntKind.i64.wrap (x.tdiv y) + 1) = x / y + 1 := by
 have h1 := Int.ediv_nonneg h.1 (by omega : 0 <= y)
 have h2 := Int.ediv_le_self y h.1
 rw [Int.tdiv_eq_ediv_of_nonneg h.1, b5n (n := x / y) (by omega), b5n (by omega)]
theorem a2f {sh : List Int} (h : a03 sh = .nil) : ∀ x ∈ sh, 1 <= x /\ x <= 256 := by
 have := a6a.1 h
 simp only [c16, Bool.and_eq_true, List.all_eq_true, a30, decide_eq_true_eq] at this
 intro x hx
 exact this.1.2 x hx
theorem d61 (hS : Sent G bk) (p q : Int) (a : Ds) (ha : a.shape.length < 2 ^ 62) : ACalls pg G c00 [slI [p, q], .agg (eD a)] (c2c bk (a70 [p, q] a)) := by
 have h7 := hS.val 6 (by decide)
 have h3 := hS.val 3 (by decide)
 by_cases he : a03 a.shape = .nil
 ·have hr : a70 [p, q] a = (if a.shape.length = 3 then
   (if 1 <= p /\ p <= 16 /\ 1 <= q /\ q <= 16 then
    (if 0 <= a.shape[0]! - p /\ 0 <= a.shape[1]! - p then
     (⟨[(a.shape[0]! - p) / q + 1, (a.shape[1]! - p) / q + 1, a.shape[2]!], a.wide⟩, .nil) else bad 6) else bad 3) else bad 6) := by simp [a70, chk, he, Er.isNil]
  rw [hr]
  clear hr
  by_cases c1 : a.shape.length = 3
  ·obtain ⟨ash, aw⟩ := a
   obtain ⟨x, y, z, rfl⟩ := d3q c1
   have hd : a03 [x, y, z] = .nil := he
   have hx := a2f hd x (by simp)
   have hy := a2f hd y (by simp)
   by_cases p1 : p < 1
   ·rw [if_pos (by simp), if_neg (by omega)]
    refine a11 rfl ?_
    simp (disch := omega) [go_sem, a2e]
    refine a0e (a1l hS.five.three [x, y, z] aw (by simp)) (a0m _) (by simp (disch := omega) [go_sem]) ?_
    simp (disch := omega) [go_sem, hd, Er.isNil]
    refine a0c ?_
    simp (disch := omega) [go_sem]
    refine a0d (by decide) fun s2 hs2 hes2 => ?_
    simp (disch := omega) [go_sem, hs2, p1]
    refine a0c ?_
    simp (disch := omega) [go_sem, hs2, h3, bad, dn, a0s]
    refine a0d (by decide) fun s4 hs4 hes4 => ?_
    simp (disch := omega) [go_sem, hs4, hs2, h3, bad, dn, a0s]
   by_cases p2 : 16 < p
   ·rw [if_pos (by simp), if_neg (by omega)]
    refine a11 rfl ?_
    simp (disch := omega) [go_sem, a2e]
    refine a0e (a1l hS.five.three [x, y, z] aw (by simp)) (a0m _) (by simp (disch := omega) [go_sem]) ?_
    simp (disch := omega) [go_sem, hd, Er.isNil]
    refine a0c ?_
    simp (disch := omega) [go_sem]
    refine a0d (by decide) fun s2 hs2 hes2 => ?_
    simp (disch := omega) [go_sem, hs2, p1, p2]
    refine a0c ?_
    simp (disch := omega) [go_sem, hs2, h3, bad, dn, a0s]
    refine a0d (by decide) fun s4 hs4 hes4 => ?_
    simp (disch := omega) [go_sem, hs4, hs2, h3, bad, dn, a0s]
   by_cases p3 : q < 1
   ·rw [if_pos (by simp), if_neg (by omega)]
    refine a11 rfl ?_
    simp (disch := omega) [go_sem, a2e]
    refine a0e (a1l hS.five.three [x, y, z] aw (by simp)) (a0m _) (by simp (disch := omega) [go_sem]) ?_
    simp (disch := omega) [go_sem, hd, Er.isNil]
    refine a0c ?_
    simp (disch := omega) [go_sem]
    refine a0d (by decide) fun s2 hs2 hes2 => ?_
    simp (disch := omega) [go_sem, hs2, p1, p2, p3]
    refine a0c ?_
    simp (disch := omega) [go_sem, hs2, h3, bad, dn, a0s]
    refine a0d (by decide) fun s4 hs4 hes4 => ?_
    simp (disch := omega) [go_sem, hs4, hs2, h3, bad, dn, a0s]
   by_cases p4 : 16 < q
   ·rw [if_pos (by simp), if_neg (by omega)]
    refine a11 rfl ?_
    simp (disch := omega) [go_sem, a2e]
    refine a0e (a1l hS.five.three [x, y, z] aw (by simp)) (a0m _) (by simp (disch := omega) [go_sem]) ?_
    simp (disch := omega) [go_sem, hd, Er.isNil]
    refine a0c ?_
    simp (disch := omega) [go_sem]
    refine a0d (by decide) fun s2 hs2 hes2 => ?_
    simp (disch := omega) [go_sem, hs2, p1, p2, p3, p4]
    refine a0c ?_
    simp (disch := omega) [go_sem, hs2, h3, bad, dn, a0s]
    refine a0d (by decide) fun s4 hs4 hes4 => ?_
    simp (disch := omega) [go_sem, hs4, hs2, h3, bad, dn, a0s]
   by_cases p5 : x - p < 0
   ·rw [if_pos (by simp), if_pos (by omega), if_neg (by simp; omega)]
    refine a11 rfl ?_
    simp (disch := omega) [go_sem, a2e]
    refine a0e (a1l hS.five.three [x, y, z] aw (by simp)) (a0m _) (by simp (disch := omega) [go_sem]) ?_
    simp (disch := omega) [go_sem, hd, Er.isNil]
    refine a0c ?_
    simp (disch := omega) [go_sem]
    refine a0d (by decide) fun s2 hs2 hes2 => ?_
    simp (disch := omega) [go_sem, hs2, p1, p2, p3, p4]
    refine a0c ?_
    simp (disch := omega) [go_sem, hs2]
    refine a0d (by decide) fun s4 hs4 hes4 => ?_
    simp (disch := omega) [go_sem, hs4, hs2, p5]
    refine a0c ?_
    simp (disch := omega) [go_sem, hs4, hs2, h7, bad, dn, a0s]
    refine a0d (by decide) fun s6 hs6 hes6 => ?_
    simp (disch := omega) [go_sem, hs6, hs4, hs2, h7, bad, dn, a0s]
   by_cases p6 : y - p < 0
   ·rw [if_pos (by simp), if_pos (by omega), if_neg (by simp; omega)]
    refine a11 rfl ?_
    simp (disch := omega) [go_sem, a2e]
    refine a0e (a1l hS.five.three [x, y, z] aw (by simp)) (a0m _) (by simp (disch := omega) [go_sem]) ?_
    simp (disch := omega) [go_sem, hd, Er.isNil]
    refine a0c ?_
    simp (disch := omega) [go_sem]
    refine a0d (by decide) fun s2 hs2 hes2 => ?_
    simp (disch := omega) [go_sem, hs2, p1, p2, p3, p4]
    refine a0c ?_
    simp (disch := omega) [go_sem, hs2]
    refine a0d (by decide) fun s4 hs4 hes4 => ?_
    simp (disch := omega) [go_sem, hs4, hs2, p5, p6]
    refine a0c ?_
    simp (disch := omega) [go_sem, hs4, hs2, h7, bad, dn, a0s]
    refine a0d (by decide) fun s6 hs6 hes6 => ?_
    simp (disch := omega) [go_sem, hs6, hs4, hs2, h7, bad, dn, a0s]
   rw [if_pos (by simp), if_pos (by omega), if_pos (by simp; omega)]
   refine ACalls.shown (res := .tup [.agg [owI [(x - p) / q + 1, (y - p) / q + 1, z], lb aw], .lit .nilIface]) ?_ (by simp [go_sem, frz, a2g, owI]; rfl)
   refine a11 rfl ?_
   simp (disch := omega) [go_sem, a2e]
   refine a0e (a1l hS.five.three [x, y, z] aw (by simp)) (a0m _) (by simp (disch := omega) [go_sem]) ?_
   simp (disch := omega) [go_sem, hd, Er.isNil]
   refine a0c ?_
   simp (disch := omega) [go_sem]
   refine a0d (by decide) fun s2 hs2 hes2 => ?_
   simp (disch := omega) [go_sem, hs2, p1, p2, p3, p4]
   refine a0c ?_
   simp (disch := omega) [go_sem, hs2]
   refine a0d (by decide) fun s4 hs4 hes4 => ?_
   simp (disch := omega) [go_sem, hs4, hs2, p5, p6]
   refine a0c ?_
   simp (disch := omega) [go_sem, hs4, hs2, a7a]
   refine a0d (by decide) fun s6 hs6 hes6 => ?_
   simp (disch := omega) [go_sem, hs6, hs4, hs2, a7a, wq (x := x - p) (y := q) (by omega), wq (x := y - p) (y := q) (by omega)]
  ·have c1' : ¬ (a.shape.length : Int) = 3 := by omega
   rw [if_neg c1]
   refine a11 rfl ?_
   simp (disch := omega) [go_sem, a2e]
   refine a0e (a1l hS.five.three a.shape a.wide ha) (a0m _) (by simp (disch := omega) [go_sem]) ?_
   simp (disch := omega) [go_sem, he, Er.isNil, c1']
   refine a0c ?_
   simp (disch := omega) [go_sem, h7, bad, dn, a0s]
   refine a0d (by decide) fun s2 hs2 hes2 => ?_
   simp (disch := omega) [go_sem, hs2, h7, bad, dn, a0s]
 ·have he' := a4i he
  have hr : a70 [p, q] a = (dn, a03 a.shape) := by simp only [a70, chk, he']; rfl
  rw [hr]
  refine a11 rfl ?_
  simp (disch := omega) [go_sem, a2e]
  refine a0e (a1l hS.five.three a.shape a.wide ha) (a0m _) (by simp (disch := omega) [go_sem]) ?_
  simp (disch := omega) [go_sem, he', dn]
end
end Go.Ideal.Tryz
end
