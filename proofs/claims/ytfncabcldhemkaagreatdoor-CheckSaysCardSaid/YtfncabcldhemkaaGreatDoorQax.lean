/- Part Qax of the proof: a machine with trees for values, its soundness, and walks on it. -/
import Derived.Test.YtfncabcldhemkaaGreatDoorQaq
import Derived.Test.YtfncabcldhemkaaGreatDoorQao
import Derived.Test.YtfncabcldhemkaaGreatDoorQap
import Derived.Test.YtfncabcldhemkaaGreatDoorQar
import Derived.Test.YtfncabcldhemkaaGreatDoorQas
import Derived.Test.YtfncabcldhemkaaGreatDoorQat
import Derived.Test.YtfncabcldhemkaaGreatDoorQau
import Derived.Test.YtfncabcldhemkaaGreatDoorQav
import Derived.Test.YtfncabcldhemkaaGreatDoorQaw
import Derived.Test.YtfncabcldhemkaaGreatDoorQan
set_option linter.unusedVariables false
set_option linter.unusedSimpArgs false
set_option maxHeartbeats 8000000
set_option maxRecDepth 200000
section
namespace Go.Ideal.Tryz
attribute [local go_sem] eD eT eV
section
variable {G : GG} {bk : Nat -> Nat × Nat} {Q : Exit -> St -> Prop} {st : St}
theorem e5j (hS : Sent G bk) (op : Int) (args : List Int) (ins : List Ds) (hf : ∀ d ∈ ins, d.shape.length < 2 ^ 40) (ho : 4 <= op /\ op <= 11) (h1 : ins.length = a1x op) (h2 : args.length = a1c op) : ACalls pg G a2p [li op, slI args, slD ins] (c2c bk (a13 op args ins)) := by
 obtain rfl | rfl | rfl | rfl | rfl | rfl | rfl | rfl : op = 4 \/ op = 5 \/ op = 6 \/ op = 7 \/ op = 8 \/ op = 9 \/ op = 10 \/ op = 11 := by omega
 ·exact d4b hS args ins hf h1 h2
 ·exact d4c hS args ins hf h1 h2
 ·exact d4d hS args ins hf h1 h2
 ·exact d4e hS args ins hf h1 h2
 ·exact d4f hS args ins hf h1 h2
 ·exact d4g hS args ins hf h1 h2
 ·exact d00 hS args ins hf h1 h2
 ·exact d01 hS args ins hf h1 h2
theorem a3x (r : Dr) : a0k (c2c bk r) = true := by simp [go_sem, a0k]
theorem e80 (hS : Sent G bk) (op : Int) (args : List Int) (ins : List Ds) (hf : ∀ d ∈ ins, d.shape.length < 2 ^ 40) (hn : ins.length < 2 ^ 40) (ha : args.length < 2 ^ 40) : ACalls pg G c41 [li op, slI args, slD ins] (c2c bk (opR op args ins)) := by
 have h7 := hS.val 6 (by decide)
 have h4 := hS.val 2 (by decide)
 refine b9r rfl ?_
 simp (disch := omega) [go_sem, b8v]
 refine a0b (b54 op) rfl rfl ?_
 cases hk : a0x op
 ·rw [show opR op args ins = bad 5 by simp [opR, hk]]
  simp (disch := omega) [go_sem]
  refine a0c ?_
  simp (disch := omega) [go_sem, h4, bad, dn, a0s]
  refine a0d (by decide) fun s2 hs2 hes2 => ?_
  simp (disch := omega) [go_sem, hs2, h4, bad, dn, a0s]
 simp (disch := omega) [go_sem]
 refine a0b (f81 op) rfl rfl ?_
 by_cases k1 : ins.length = a1x op
 ·have k1' : (ins.length : Int) = (a1x op : Nat) := by omega
  have hop : 4 <= op /\ op <= 21 := by simpa [a0x] using hk
  by_cases k2 : op = 18
  ·subst k2
   obtain ⟨a, rfl⟩ := a7x (k1.trans (by decide))
   have la := hf a (by simp)
   rw [show opR 18 args [a] = a4s args a by rw [opR, if_pos hk, if_pos ⟨k1, .inl rfl⟩]; rfl, sl1]
   simp (disch := omega) [go_sem, <- k1']
   refine a0e (e9l hS args a la ha) (a3x _) (by simp (disch := omega) [go_sem]) ?_
   simp (disch := omega) [go_sem]
  ·simp (disch := omega) [go_sem, k1', k2]
   refine a0b (e32 op) rfl rfl ?_
   by_cases k3 : args.length = a1c op
   ·have k3' : (args.length : Int) = (a1c op : Nat) := by omega
    obtain ho | rfl | rfl | rfl | rfl | rfl | rfl | rfl | rfl | rfl : (4 <= op /\ op <= 11) \/ op = 12 \/ op = 13 \/ op = 14 \/ op = 15 \/ op = 16 \/ op = 17 \/ op = 19 \/ op = 20 \/ op = 21 := by omega
    ·rw [show opR op args ins = a13 op args ins by
      rw [opR, if_pos hk, if_pos ⟨k1, .inr k3⟩]
      simp only [show ¬ op = 12 by omega, show ¬ op = 13 by omega, show ¬ op = 14 by omega, show ¬ op = 15 by omega, show ¬ op = 16 by omega, show ¬ op = 17 by omega, show ¬ op = 19 by omega, show ¬ op = 20 by omega, show ¬ op = 18 by omega, show ¬ op = 21 by omega, or_self, if_false]]
     simp (disch := omega) [go_sem, k1', k2, k3', show ¬ op = 12 by omega, show ¬ op = 13 by omega, show ¬ op = 14 by omega, show ¬ op = 15 by omega, show ¬ op = 16 by omega, show ¬ op = 17 by omega, show ¬ op = 19 by omega, show ¬ op = 20 by omega, show ¬ op = 18 by omega, show ¬ op = 21 by omega]
     refine a0e (e5j hS op args ins hf ho k1 k3) (a3x _) (by simp (disch := omega) [go_sem]) ?_
     simp (disch := omega) [go_sem]
    ·
     obtain ⟨a, b, rfl⟩ := a6u (k1.trans (by decide))
     have la := hf a (by simp)
     have lb' := hf b (by simp)
     obtain ⟨x, y, rfl⟩ := a6u (k3.trans (by decide))
     rw [show opR 12 [x, y] [a, b] = c0h x y a b by rw [opR, if_pos hk, if_pos ⟨k1, .inr k3⟩]; rfl]
     rw [sl2]
     simp (disch := omega) [go_sem, k1', k3']
     refine a0c ?_
     simp (disch := omega) [go_sem]
     refine a1j (e7p hS x y a b (by omega) (by omega)) (a3x _) (by simp (disch := omega) [go_sem]) (by simp (disch := omega) [go_sem, a0f, a1a]) [46] (by simp) (by simp (disch := omega) [go_sem]) ?_
     simp (disch := omega) [go_sem, a0f, a1a]
     refine a0d (by decide) fun s2 hs2 he2 => ?_
     simp (disch := omega) [go_sem, hs2]
    ·
     obtain ⟨a, b, rfl⟩ := a6u (k1.trans (by decide))
     have la := hf a (by simp)
     have lb' := hf b (by simp)
     obtain ⟨x, y, z, rfl⟩ := d3q (k3.trans (by decide))
     rw [show opR 13 [x, y, z] [a, b] = a8l [x, y, z] a b by rw [opR, if_pos hk, if_pos ⟨k1, .inr k3⟩]; rfl]
     rw [sl2]
     simp (disch := omega) [go_sem, k1', k3']
     refine a0c ?_
     simp (disch := omega) [go_sem]
     refine a1j (d7x hS x y z a b (by omega) (by omega)) (a3x _) (by simp (disch := omega) [go_sem]) (by simp (disch := omega) [go_sem, a0f, a1a]) [58] (by simp) (by simp (disch := omega) [go_sem]) ?_
     simp (disch := omega) [go_sem, a0f, a1a]
     refine a0d (by decide) fun s2 hs2 he2 => ?_
     simp (disch := omega) [go_sem, hs2]
    ·
     obtain ⟨a, rfl⟩ := a7x (k1.trans (by decide))
     have la := hf a (by simp)
     obtain ⟨x, y, rfl⟩ := a6u (k3.trans (by decide))
     rw [show opR 14 [x, y] [a] = a70 [x, y] a by rw [opR, if_pos hk, if_pos ⟨k1, .inr k3⟩]; rfl]
     rw [sl1]
     simp (disch := omega) [go_sem, k1', k3']
     refine a0e (d61 hS x y a (by omega)) (a3x _) (by simp (disch := omega) [go_sem]) ?_
     simp (disch := omega) [go_sem]
    ·
     obtain ⟨a, rfl⟩ := a7x (k1.trans (by decide))
     have la := hf a (by simp)
     obtain ⟨x, y, rfl⟩ := a6u (k3.trans (by decide))
     rw [show opR 15 [x, y] [a] = a70 [x, y] a by rw [opR, if_pos hk, if_pos ⟨k1, .inr k3⟩]; rfl]
     rw [sl1]
     simp (disch := omega) [go_sem, k1', k3']
     refine a0e (d61 hS x y a (by omega)) (a3x _) (by simp (disch := omega) [go_sem]) ?_
     simp (disch := omega) [go_sem]
    ·
     rw [show opR 16 args ins = a3c 16 ins by rw [opR, if_pos hk, if_pos ⟨k1, .inr k3⟩]; rfl]
     simp (disch := omega) [go_sem, k1', k3']
     refine a0e (c77 hS 16 ins hf (by rw [k1]; decide)) (a3x _) (by simp (disch := omega) [go_sem]) ?_
     simp (disch := omega) [go_sem]
    ·
     rw [show opR 17 args ins = a3c 17 ins by rw [opR, if_pos hk, if_pos ⟨k1, .inr k3⟩]; rfl]
     simp (disch := omega) [go_sem, k1', k3']
     refine a0e (c77 hS 17 ins hf (by rw [k1]; decide)) (a3x _) (by simp (disch := omega) [go_sem]) ?_
     simp (disch := omega) [go_sem]
    ·
     rw [show opR 19 args ins = a3c 19 ins by rw [opR, if_pos hk, if_pos ⟨k1, .inr k3⟩]; rfl]
     simp (disch := omega) [go_sem, k1', k3']
     refine a0e (c77 hS 19 ins hf (by rw [k1]; decide)) (a3x _) (by simp (disch := omega) [go_sem]) ?_
     simp (disch := omega) [go_sem]
    ·
     rw [show opR 20 args ins = a3c 20 ins by rw [opR, if_pos hk, if_pos ⟨k1, .inr k3⟩]; rfl]
     simp (disch := omega) [go_sem, k1', k3']
     refine a0e (c77 hS 20 ins hf (by rw [k1]; decide)) (a3x _) (by simp (disch := omega) [go_sem]) ?_
     simp (disch := omega) [go_sem]
    ·
     obtain ⟨a, rfl⟩ := a7x (k1.trans (by decide))
     have la := hf a (by simp)
     rw [show opR 21 args [a] = b5l a by rw [opR, if_pos hk, if_pos ⟨k1, .inr k3⟩]; rfl]
     rw [sl1]
     simp (disch := omega) [go_sem, k1', k3']
     refine a0e (f0x hS a (by omega)) (a3x _) (by simp (disch := omega) [go_sem]) ?_
     simp (disch := omega) [go_sem]
   ·have k3' : ¬ (args.length : Int) = (a1c op : Nat) := by omega
    rw [show opR op args ins = bad 6 by rw [opR, if_pos hk, if_neg (fun h => h.2.elim k2 k3)]]
    simp (disch := omega) [go_sem, k1', k2, k3']
    refine a0c ?_
    simp (disch := omega) [go_sem, h7, bad, dn, a0s]
    refine a0d (by decide) fun s2 hs2 hes2 => ?_
    simp (disch := omega) [go_sem, hs2, h7, bad, dn, a0s]
 ·have k1' : ¬ (ins.length : Int) = (a1x op : Nat) := by omega
  rw [show opR op args ins = bad 6 by rw [opR, if_pos hk, if_neg (fun h => k1 h.1)]]
  simp (disch := omega) [go_sem, k1']
  refine a0c ?_
  simp (disch := omega) [go_sem, h7, bad, dn, a0s]
  refine a0d (by decide) fun s2 hs2 hes2 => ?_
  simp (disch := omega) [go_sem, hs2, h7, bad, dn, a0s]
end
end Go.Ideal.Tryz
end
