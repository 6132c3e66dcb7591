/- Part Qau of the proof: a machine with trees for values, its soundness, and walks on it. -/
import Derived.Test.YtfncabcldhemkaaGreatDoorQaq
import Derived.Test.YtfncabcldhemkaaGreatDoorQan
set_option linter.unusedVariables false
set_option linter.unusedSimpArgs false
set_option maxHeartbeats 8000000
set_option maxRecDepth 200000
section
namespace Go.Ideal.Tryz
attribute [local go_sem] eD eT eV
section
variable {G : GG} {bk : Nat -> Nat × Nat} {Q : Exit -> St -> Prop} {st : St}
theorem d4g (hS : Sent G bk) (args : List Int) (ins : List Ds) (hf : ∀ d ∈ ins, d.shape.length < 2 ^ 40)  (h1 : ins.length = a1x 9) (h2 : args.length = a1c 9) : ACalls pg G a2p [li (9 : Int), slI args, slD ins] (c2c bk (a13 9 args ins)) := by
 have h7 := hS.val 6 (by decide)
 have h3 := hS.val 3 (by decide)
 have hn : ins.length < 2 ^ 40 := by
  rw [h1]; unfold a1x; split <;> (try split) <;> simp
 have e1 : ((a1x 9 : Nat) : Int) = (ins.length : Int) := by rw [h1]
 have e2 : ((a1c 9 : Nat) : Int) = (args.length : Int) := by rw [h2]
 unfold a13
 generalize hr : (if (ins.length = 2 /\ ins[0]! ≠ ins[1]!) \/ ((9 : Int) = 10 /\ ins[0]!.wide = false) \/ ((9 : Int) = 11 /\ ins[0]!.wide = true) then bad 6 else if a1q 9 args ins[0]!.wide = true then ((⟨ins[0]!.shape, a1u 9 ins[0]!.wide⟩, .nil) : Dr) else bad 3) = r
 have hc := a6l (G := G) 9 (by omega)
 rw [e1, e2] at hc
 refine a16 rfl ?_
 simp (disch := omega) [go_sem, a2t]
 refine a0b hc rfl rfl ?_
 simp (disch := omega) [go_sem]
 refine b1c hS.five.three (op := 9) (args := args) (ins := ins) (r := r) hn hf (by simp (disch := omega) [go_sem]) (fun e he hm s h => ?_) (fun hm s h => ?_)
 ·rw [hm]
  simp (disch := omega) [go_sem, h, dn]
 rw [hm]
 clear hm hc e1 e2
 obtain ⟨a, rfl⟩ := a7x (h1.trans (by decide))
 have la := hf a (by simp)
 rw [sl1] at h
 obtain ⟨x, y, rfl⟩ := a6u (h2.trans (by decide))
 have hr' : r = if (decide (x <= y) && (b9h x a.wide && b9h y a.wide)) = true then (a, .nil) else bad 3 := by rw [<- hr]; simp [a1q, a1u]
 generalize hb : (decide (x <= y) && (b9h x a.wide && b9h y a.wide)) = b at hr'
 rw [hr']
 clear hr hr'
 simp (disch := omega) [go_sem, h]
 refine a0c ?_
 simp (disch := omega) [go_sem, h]
 refine a0d (by decide) fun s2 hs2 hes2 => ?_
 simp (disch := omega) [go_sem, hs2, h]
 refine a0c ?_
 simp (disch := omega) [go_sem, hs2, h]
 refine a0d (by decide) fun s3 hs3 hes3 => ?_
 simp (disch := omega) [go_sem, hs3, hs2, h]
 by_cases c : x <= y
 ·
  refine a0c ?_
  simp (disch := omega) [go_sem, hs3, hs2, h, c]
  refine a0i (d5e x a.wide) rfl rfl (by simp (disch := omega) [go_sem, a0f, a1a]) [103] (by simp) (by simp (disch := omega) [go_sem, hs3, hs2, h, c]) ?_
  simp (disch := omega) [go_sem, hs3, hs2, h, c, a0f, a1a]
  cases f1 : b9h x a.wide
  ·have hb' : b = false := by rw [<- hb]; simp [f1]
   rw [hb', if_neg (by simp)]
   simp (disch := omega) [go_sem, hs3, hs2, h, c, f1]
   refine a0d (by decide) fun s4 hs4 hes4 => ?_
   simp (disch := omega) [go_sem, hs4, hs3, hs2, h, c, f1]
   refine a0c ?_
   simp (disch := omega) [go_sem, hs4, hs3, hs2, h, h3, bad, dn, a0s]
   refine a0d (by decide) fun s9 hs9 hes9 => ?_
   simp (disch := omega) [go_sem, hs9, hs4, hs3, hs2, h, h3, bad, dn, a0s]
  simp (disch := omega) [go_sem, hs3, hs2, h, c, f1, a0f, a1a]
  refine a0i (d5e y a.wide) rfl rfl (by simp (disch := omega) [go_sem, a0f, a1a]) [111] (by simp) (by simp (disch := omega) [go_sem, hs3, hs2, h, c, f1]) ?_
  simp (disch := omega) [go_sem, hs3, hs2, h, c, f1, a0f, a1a]
  cases f2 : b9h y a.wide
  ·have hb' : b = false := by rw [<- hb]; simp [f2]
   rw [hb', if_neg (by simp)]
   refine a0d (by decide) fun s4 hs4 hes4 => ?_
   simp (disch := omega) [go_sem, hs4, hs3, hs2, h, c, f1, f2]
   refine a0c ?_
   simp (disch := omega) [go_sem, hs4, hs3, hs2, h, h3, bad, dn, a0s]
   refine a0d (by decide) fun s9 hs9 hes9 => ?_
   simp (disch := omega) [go_sem, hs9, hs4, hs3, hs2, h, h3, bad, dn, a0s]
  have hb' : b = true := by rw [<- hb]; simp [c, f1, f2]
  rw [hb', if_pos rfl]
  refine a0d (by decide) fun s4 hs4 hes4 => ?_
  simp (disch := omega) [go_sem, hs4, hs3, hs2, h, c, f1, f2]
  refine a0b (a68 a.shape a.wide la) rfl (by simp only [owI, a09, a1f, a3g, Bool.and_true]) ?_
  simp (disch := omega) [go_sem, hs4, hs3, hs2, h, a0s]
 ·have hb' : b = false := by rw [<- hb]; simp [c]
  rw [hb', if_neg (by simp)]
  refine a0c ?_
  simp (disch := omega) [go_sem, hs3, hs2, h, c]
  refine a0d (by decide) fun s4 hs4 hes4 => ?_
  simp (disch := omega) [go_sem, hs4, hs3, hs2, h, c]
  refine a0c ?_
  simp (disch := omega) [go_sem, hs4, hs3, hs2, h, h3, bad, dn, a0s]
  refine a0d (by decide) fun s9 hs9 hes9 => ?_
  simp (disch := omega) [go_sem, hs9, hs4, hs3, hs2, h, h3, bad, dn, a0s]
end
end Go.Ideal.Tryz
end
