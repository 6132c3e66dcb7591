/- Part Qaw of the proof: a machine with trees for values, its soundness, and walks on it. -/
import Derived.Test.YtfncabcldhemkaaGreatDoorQaq
import Derived.Test.YtfncabcldhemkaaGreatDoorQan
set_option linter.unusedVariables false
set_option linter.unusedSimpArgs false
set_option maxHeartbeats 8000000
set_option maxRecDepth 200000
section
namespace Go.Ideal.Tryz
attribute [local go_sem] eD eT eV
section
variable {G : GG} {bk : Nat -> Nat × Nat} {Q : Exit -> St -> Prop} {st : St}
theorem d01 (hS : Sent G bk) (args : List Int) (ins : List Ds) (hf : ∀ d ∈ ins, d.shape.length < 2 ^ 40)  (h1 : ins.length = a1x 11) (h2 : args.length = a1c 11) : ACalls pg G a2p [li (11 : Int), slI args, slD ins] (c2c bk (a13 11 args ins)) := by
 have h7 := hS.val 6 (by decide)
 have h3 := hS.val 3 (by decide)
 have hn : ins.length < 2 ^ 40 := by
  rw [h1]; unfold a1x; split <;> (try split) <;> simp
 have e1 : ((a1x 11 : Nat) : Int) = (ins.length : Int) := by rw [h1]
 have e2 : ((a1c 11 : Nat) : Int) = (args.length : Int) := by rw [h2]
 unfold a13
 generalize hr : (if (ins.length = 2 /\ ins[0]! ≠ ins[1]!) \/ ((11 : Int) = 10 /\ ins[0]!.wide = false) \/ ((11 : Int) = 11 /\ ins[0]!.wide = true) then bad 6 else if a1q 11 args ins[0]!.wide = true then ((⟨ins[0]!.shape, a1u 11 ins[0]!.wide⟩, .nil) : Dr) else bad 3) = r
 have hc := a6l (G := G) 11 (by omega)
 rw [e1, e2] at hc
 refine a16 rfl ?_
 simp (disch := omega) [go_sem, a2t]
 refine a0b hc rfl rfl ?_
 simp (disch := omega) [go_sem]
 refine b1c hS.five.three (op := 11) (args := args) (ins := ins) (r := r) hn hf (by simp (disch := omega) [go_sem]) (fun e he hm s h => ?_) (fun hm s h => ?_)
 ·rw [hm]
  simp (disch := omega) [go_sem, h, dn]
 rw [hm]
 clear hm hc e1 e2
 obtain ⟨a, rfl⟩ := a7x (h1.trans (by decide))
 have la := hf a (by simp)
 rw [sl1] at h
 obtain ⟨x, rfl⟩ := a7x (h2.trans (by decide))
 obtain ⟨ash, aw⟩ := a
 cases aw
 ·have hr' : r = if b9h x false = true then (⟨ash, true⟩, .nil) else bad 3 := by rw [<- hr]; simp [a1q, a1u, b9h]
  rw [hr']
  clear hr hr'
  simp (disch := omega) [go_sem, h]
  refine a0c ?_
  simp (disch := omega) [go_sem, h]
  refine a0d (by decide) fun s2 hs2 hes2 => ?_
  simp (disch := omega) [go_sem, hs2, h]
  refine a0c ?_
  simp (disch := omega) [go_sem, hs2, h]
  refine a0d (by decide) fun s3 hs3 hes3 => ?_
  simp (disch := omega) [go_sem, hs3, hs2, h]
  refine a0b (d5e x false) rfl rfl ?_
  cases f3 : b9h x false
  ·rw [if_neg (by simp)]
   simp (disch := omega) [go_sem, hs3, hs2, h, f3]
   refine a0c ?_
   simp (disch := omega) [go_sem, hs3, hs2, h, h3, bad, dn, a0s]
   refine a0d (by decide) fun s9 hs9 hes9 => ?_
   simp (disch := omega) [go_sem, hs9, hs3, hs2, h, h3, bad, dn, a0s]
  rw [if_pos (by simp)]
  simp (disch := omega) [go_sem, hs3, hs2, h, f3]
  refine a0b (a68 ash false la) rfl (by simp only [owI, a09, a1f, a3g, Bool.and_true]) ?_
  simp (disch := omega) [go_sem, hs3, hs2, h, a0s]
 ·have hr' : r = bad 6 := by rw [<- hr]; simp
  rw [hr']
  simp (disch := omega) [go_sem, h]
  refine a0c ?_
  simp (disch := omega) [go_sem, h]
  refine a0d (by decide) fun s2 hs2 hes2 => ?_
  simp (disch := omega) [go_sem, hs2, h]
  refine a0c ?_
  simp (disch := omega) [go_sem, hs2, h, h7, bad, dn, a0s]
  refine a0d (by decide) fun s9 hs9 hes9 => ?_
  simp (disch := omega) [go_sem, hs9, hs2, h, h7, bad, dn, a0s]
end
end Go.Ideal.Tryz
end
