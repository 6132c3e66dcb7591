/- Part Qax of the proof: a machine with trees for values, its soundness, and walks on it. -/
import Derived.Test.YtfncabcldhemkaaDoorQan
import Derived.Test.YtfncabcldhemkaaDoorQao
import Derived.Test.YtfncabcldhemkaaDoorQap
import Derived.Test.YtfncabcldhemkaaDoorQaq
import Derived.Test.YtfncabcldhemkaaDoorQar
import Derived.Test.YtfncabcldhemkaaDoorQas
import Derived.Test.YtfncabcldhemkaaDoorQat
import Derived.Test.YtfncabcldhemkaaDoorQau
import Derived.Test.YtfncabcldhemkaaDoorQav
import Derived.Test.YtfncabcldhemkaaDoorQaw
section
set_option linter.unusedVariables false
set_option linter.unusedSimpArgs false
set_option maxRecDepth 200000
namespace Go.Ideal.Tryd
attribute [local go_sem] eD eT eV
section
variable {G : GG} {bk : Nat → Nat × Nat} {Q : Exit → St → Prop} {st : St}
theorem g07 (hS : Sent G bk) (op : Int) (args : List Int) (ins : List Ds) (hf : ∀ d ∈ ins, d.shape.length < 2 ^ 40) (ho : 4 ≤ op ∧ op ≤ 11) (h1 : ins.length = a24 op) (h2 : args.length = a2i op) : ACalls pg G a10 [li op, slI args, slD ins] (d36 bk (b0b op args ins)) := by
  obtain rfl | rfl | rfl | rfl | rfl | rfl | rfl | rfl : op = 4 ∨ op = 5 ∨ op = 6 ∨ op = 7 ∨ op = 8 ∨ op = 9 ∨ op = 10 ∨ op = 11 := by omega
  · exact e7z hS args ins hf h1 h2
  · exact e6i hS args ins hf h1 h2
  · exact e6z hS args ins hf h1 h2
  · exact e70 hS args ins hf h1 h2
  · exact e6e hS args ins hf h1 h2
  · exact e76 hS args ins hf h1 h2
  · exact e20 hS args ins hf h1 h2
  · exact e2r hS args ins hf h1 h2
theorem a21 (r : Dr) : a0r (d36 bk r) = true := by simp [go_sem, a0r]
set_option maxHeartbeats 8000000 in
theorem g1s (hS : Sent G bk) (op : Int) (args : List Int) (ins : List Ds) (hf : ∀ d ∈ ins, d.shape.length < 2 ^ 40) (hn : ins.length < 2 ^ 40) (ha : args.length < 2 ^ 40) : ACalls pg G d7z [li op, slI args, slD ins] (d36 bk (opR op args ins)) := by
  have h7 := hS.val 7 (by decide)
  have h4 := hS.val 4 (by decide)
  refine c8w rfl ?_
  simp (disch := omega) [go_sem, c2w]
  refine a0d (b68 op) rfl rfl ?_
  cases hk : a2b op
  · rw [show opR op args ins = bad 5 by simp [opR, hk]]
    simp (disch := omega) [go_sem]
    refine a0b ?_
    simp (disch := omega) [go_sem, h4, bad, dn, a0m]
    refine a0c (by decide) fun s2 hs2 hes2 => ?_
    simp (disch := omega) [go_sem, hs2, h4, bad, dn, a0m]
  simp (disch := omega) [go_sem]
  refine a0d (h2v op) rfl rfl ?_
  by_cases k1 : ins.length = a24 op
  · have k1' : (ins.length : Int) = (a24 op : Nat) := by omega
    have hop : 4 ≤ op ∧ op ≤ 21 := by simpa [a2b] using hk
    by_cases k2 : op = 18
    · subst k2
      obtain ⟨a, rfl⟩ := c20 (k1.trans (by decide))
      have la := hf a (by simp)
      rw [show opR 18 args [a] = a71 args a by rw [opR, if_pos hk, if_pos ⟨k1, .inl rfl⟩]; rfl, sl1]
      simp (disch := omega) [go_sem, ← k1']
      refine a0f (g14 hS args a la ha) (a21 _) (by simp (disch := omega) [go_sem]) ?_
      simp (disch := omega) [go_sem]
    · simp (disch := omega) [go_sem, k1', k2]
      refine a0d (f9a op) rfl rfl ?_
      by_cases k3 : args.length = a2i op
      · have k3' : (args.length : Int) = (a2i op : Nat) := by omega
        obtain ho | rfl | rfl | rfl | rfl | rfl | rfl | rfl | rfl | rfl : (4 ≤ op ∧ op ≤ 11) ∨ op = 12 ∨ op = 13 ∨ op = 14 ∨ op = 15 ∨ op = 16 ∨ op = 17 ∨ op = 19 ∨ op = 20 ∨ op = 21 := by omega
        · rw [show opR op args ins = b0b op args ins by
            rw [opR, if_pos hk, if_pos ⟨k1, .inr k3⟩]
            simp only [show ¬ op = 12 by omega, show ¬ op = 13 by omega, show ¬ op = 14 by omega, show ¬ op = 15 by omega, show ¬ op = 16 by omega, show ¬ op = 17 by omega, show ¬ op = 19 by omega, show ¬ op = 20 by omega, show ¬ op = 18 by omega, show ¬ op = 21 by omega, or_self, if_false]]
          simp (disch := omega) [go_sem, k1', k2, k3', show ¬ op = 12 by omega, show ¬ op = 13 by omega, show ¬ op = 14 by omega, show ¬ op = 15 by omega, show ¬ op = 16 by omega, show ¬ op = 17 by omega, show ¬ op = 19 by omega, show ¬ op = 20 by omega, show ¬ op = 18 by omega, show ¬ op = 21 by omega]
          refine a0f (g07 hS op args ins hf ho k1 k3) (a21 _) (by simp (disch := omega) [go_sem]) ?_
          simp (disch := omega) [go_sem]
        ·
          obtain ⟨a, b, rfl⟩ := b6r (k1.trans (by decide))
          have la := hf a (by simp)
          have lb' := hf b (by simp)
          obtain ⟨x, y, rfl⟩ := b6r (k3.trans (by decide))
          rw [show opR 12 [x, y] [a, b] = d9t x y a b by rw [opR, if_pos hk, if_pos ⟨k1, .inr k3⟩]; rfl]
          rw [sl2]
          simp (disch := omega) [go_sem, k1', k3']
          refine a0b ?_
          simp (disch := omega) [go_sem]
          refine a5a (f6k hS x y a b (by omega) (by omega)) (a21 _) (by simp (disch := omega) [go_sem]) (by simp (disch := omega) [go_sem, a0k, a19]) [46] (by simp) (by simp (disch := omega) [go_sem]) ?_
          simp (disch := omega) [go_sem, a0k, a19]
          refine a0c (by decide) fun s2 hs2 he2 => ?_
          simp (disch := omega) [go_sem, hs2]
        ·
          obtain ⟨a, b, rfl⟩ := b6r (k1.trans (by decide))
          have la := hf a (by simp)
          have lb' := hf b (by simp)
          obtain ⟨x, y, z, rfl⟩ := g3f (k3.trans (by decide))
          rw [show opR 13 [x, y, z] [a, b] = b7z [x, y, z] a b by rw [opR, if_pos hk, if_pos ⟨k1, .inr k3⟩]; rfl]
          rw [sl2]
          simp (disch := omega) [go_sem, k1', k3']
          refine a0b ?_
          simp (disch := omega) [go_sem]
          refine a5a (f2h hS x y z a b (by omega) (by omega)) (a21 _) (by simp (disch := omega) [go_sem]) (by simp (disch := omega) [go_sem, a0k, a19]) [58] (by simp) (by simp (disch := omega) [go_sem]) ?_
          simp (disch := omega) [go_sem, a0k, a19]
          refine a0c (by decide) fun s2 hs2 he2 => ?_
          simp (disch := omega) [go_sem, hs2]
        ·
          obtain ⟨a, rfl⟩ := c20 (k1.trans (by decide))
          have la := hf a (by simp)
          obtain ⟨x, y, rfl⟩ := b6r (k3.trans (by decide))
          rw [show opR 14 [x, y] [a] = b63 [x, y] a by rw [opR, if_pos hk, if_pos ⟨k1, .inr k3⟩]; rfl]
          rw [sl1]
          simp (disch := omega) [go_sem, k1', k3']
          refine a0f (e8c hS x y a (by omega)) (a21 _) (by simp (disch := omega) [go_sem]) ?_
          simp (disch := omega) [go_sem]
        ·
          obtain ⟨a, rfl⟩ := c20 (k1.trans (by decide))
          have la := hf a (by simp)
          obtain ⟨x, y, rfl⟩ := b6r (k3.trans (by decide))
          rw [show opR 15 [x, y] [a] = b63 [x, y] a by rw [opR, if_pos hk, if_pos ⟨k1, .inr k3⟩]; rfl]
          rw [sl1]
          simp (disch := omega) [go_sem, k1', k3']
          refine a0f (e8c hS x y a (by omega)) (a21 _) (by simp (disch := omega) [go_sem]) ?_
          simp (disch := omega) [go_sem]
        ·
          rw [show opR 16 args ins = b37 16 ins by rw [opR, if_pos hk, if_pos ⟨k1, .inr k3⟩]; rfl]
          simp (disch := omega) [go_sem, k1', k3']
          refine a0f (d9d hS 16 ins hf (by rw [k1]; decide)) (a21 _) (by simp (disch := omega) [go_sem]) ?_
          simp (disch := omega) [go_sem]
        ·
          rw [show opR 17 args ins = b37 17 ins by rw [opR, if_pos hk, if_pos ⟨k1, .inr k3⟩]; rfl]
          simp (disch := omega) [go_sem, k1', k3']
          refine a0f (d9d hS 17 ins hf (by rw [k1]; decide)) (a21 _) (by simp (disch := omega) [go_sem]) ?_
          simp (disch := omega) [go_sem]
        ·
          rw [show opR 19 args ins = b37 19 ins by rw [opR, if_pos hk, if_pos ⟨k1, .inr k3⟩]; rfl]
          simp (disch := omega) [go_sem, k1', k3']
          refine a0f (d9d hS 19 ins hf (by rw [k1]; decide)) (a21 _) (by simp (disch := omega) [go_sem]) ?_
          simp (disch := omega) [go_sem]
        ·
          rw [show opR 20 args ins = b37 20 ins by rw [opR, if_pos hk, if_pos ⟨k1, .inr k3⟩]; rfl]
          simp (disch := omega) [go_sem, k1', k3']
          refine a0f (d9d hS 20 ins hf (by rw [k1]; decide)) (a21 _) (by simp (disch := omega) [go_sem]) ?_
          simp (disch := omega) [go_sem]
        ·
          obtain ⟨a, rfl⟩ := c20 (k1.trans (by decide))
          have la := hf a (by simp)
          rw [show opR 21 args [a] = d2h a by rw [opR, if_pos hk, if_pos ⟨k1, .inr k3⟩]; rfl]
          rw [sl1]
          simp (disch := omega) [go_sem, k1', k3']
          refine a0f (f7w hS a (by omega)) (a21 _) (by simp (disch := omega) [go_sem]) ?_
          simp (disch := omega) [go_sem]
      · have k3' : ¬ (args.length : Int) = (a2i op : Nat) := by omega
        rw [show opR op args ins = bad 6 by rw [opR, if_pos hk, if_neg (fun h => h.2.elim k2 k3)]]
        simp (disch := omega) [go_sem, k1', k2, k3']
        refine a0b ?_
        simp (disch := omega) [go_sem, h7, bad, dn, a0m]
        refine a0c (by decide) fun s2 hs2 hes2 => ?_
        simp (disch := omega) [go_sem, hs2, h7, bad, dn, a0m]
  · have k1' : ¬ (ins.length : Int) = (a24 op : Nat) := by omega
    rw [show opR op args ins = bad 6 by rw [opR, if_pos hk, if_neg (fun h => k1 h.1)]]
    simp (disch := omega) [go_sem, k1']
    refine a0b ?_
    simp (disch := omega) [go_sem, h7, bad, dn, a0m]
    refine a0c (by decide) fun s2 hs2 hes2 => ?_
    simp (disch := omega) [go_sem, hs2, h7, bad, dn, a0m]
end
end Go.Ideal.Tryd
end
