/- Part Qaz of the proof: a machine with trees for values, its soundness, and walks on it. -/
import Derived.Test.YtfncabcldhemkaaGreatDoorQak
import Derived.Test.YtfncabcldhemkaaGreatDoorQan
import Derived.Test.YtfncabcldhemkaaGreatDoorQal
set_option linter.unusedVariables false
set_option linter.unusedSimpArgs false
set_option maxHeartbeats 4000000
set_option maxRecDepth 200000
section
namespace Go.Ideal.Tryz
attribute [local go_sem] eD eT eV eI eP
section
variable {G : GG} {bk : Nat -> Nat × Nat} {Q : Exit -> St -> Prop} {st : St}
theorem a5v (sh : List Int) (w : Bool) : 0 <= a32 sh w /\ a32 sh w <= 65536 := by
 have hbr := a7c sh
 unfold a32
 split <;> omega
theorem d69 (hS : Sent3 G bk) (a b : Vw) (ha : a.shape.length < 2 ^ 62) (hb : b.shape.length < 2 ^ 62) (ao : -4611686018427387904 <= a.off /\ a.off < 4611686018427387904) (bo : -4611686018427387904 <= b.off /\ b.off < 4611686018427387904) : ACalls pg G c0v [.agg (eV a), .agg (eV b)] (lb (a5n a b)) := by
 have ra := a5v a.shape a.wide
 have rb := a5v b.shape b.wide
 refine b7c rfl ?_
 simp (disch := omega) [go_sem, b4f]
 refine a0c ?_
 simp (disch := omega) [go_sem]
 refine a0i (b7t hS a.shape a.wide ha) rfl rfl (by simp (disch := omega) [go_sem, a0f, a1a]) [9] (by simp) (by simp (disch := omega) [go_sem]) ?_
 by_cases c : a.off + a32 a.shape a.wide <= b.off
 ·simp (disch := omega) [go_sem, a0f, a1a, c]
  refine a0d (by decide) fun s2 hs2 he2 => ?_
  simp (disch := omega) [go_sem, hs2, a5n, c]
 ·simp (disch := omega) [go_sem, a0f, a1a, c]
  refine a0i (b7t hS b.shape b.wide hb) rfl rfl (by simp (disch := omega) [go_sem, a0f, a1a]) [19] (by simp) (by simp (disch := omega) [go_sem]) ?_
  simp (disch := omega) [go_sem, a0f, a1a, c]
  refine a0d (by decide) fun s2 hs2 he2 => ?_
  simp (disch := omega) [go_sem, hs2, a5n, c]
theorem c79 (p : Pl) (k : Int) (hp : p.views.length < 2 ^ 62) : ACalls pg G c2n [.agg (eP p), li k] (lb (a14 p k)) := by
 refine b8c rfl ?_
 by_cases c : 0 <= k <;> simp (disch := omega) [go_sem, b6k, a14, c]
theorem c29 (i : In) : ACalls pg G c2l [.agg (eI i)] (lb (b9o i)) := by
 refine b8a rfl ?_
 by_cases c : i.op = 2
 ·simp (disch := omega) [go_sem, a75, b9o, c]
 ·by_cases c2 : i.op = 3
  ·simp (disch := omega) [go_sem, a75, b9o, c2]
  ·simp (disch := omega) [go_sem, a75, b9o, c, c2]
   refine a0b (b54 i.op) rfl rfl ?_
   simp (disch := omega) [go_sem]
theorem e7f {α : Type} : ∀ {l : List α}, l.length = 1 -> ∃ x, l = [x]
 | [x], _ => ⟨x, rfl⟩
theorem e60 (hS : Sent G bk) (p : Pl) (i : In) (hp : p.code.length < 2 ^ 40) (hi : i.ins.length < 2 ^ 40) (ha : i.args.length < 2 ^ 40) : ACalls pg G c2m [.agg (eP p), .agg (eI i)] (a0s bk (a6m p i)) := by
 have h7 := hS.val 6 (by decide)
 have h9 := hS.val 7 (by decide)
 obtain ⟨op, dst, ins, args, frm, to⟩ := i
 simp only at hi ha
 refine b8b rfl ?_
 unfold a6m
 by_cases c3 : op = 23
 ·subst c3
  by_cases q : args.length = 1 /\ ins.length = 1
  ·rw [if_pos (by exact q)]
   obtain ⟨x, rfl⟩ := e7f q.1
   have q2 : (ins.length : Int) = 1 := by omega
   by_cases n1 : x < 0
   ·rw [if_pos (by exact ⟨by show 0 < c50 23; decide, .inl n1⟩)]
    simp (disch := omega) [go_sem, a1t, q2, n1]
    refine a0c ?_
    simp (disch := omega) [go_sem, q2, n1]
    refine a0d (by decide) fun s2 hs2 he2 => ?_
    simp (disch := omega) [go_sem, hs2, h9, a0s, q2, n1]
   ·by_cases n2 : (p.code.length : Int) < x
    ·rw [if_pos (by exact ⟨by show 0 < c50 23; decide, .inr n2⟩)]
     simp (disch := omega) [go_sem, a1t, q2, n1, n2]
     refine a0c ?_
     simp (disch := omega) [go_sem, q2, n1, n2]
     refine a0d (by decide) fun s2 hs2 he2 => ?_
     simp (disch := omega) [go_sem, hs2, h9, a0s, q2, n1, n2]
    ·rw [if_neg (by rintro ⟨-, h | h⟩; exact n1 h; exact n2 h)]
     simp (disch := omega) [go_sem, a1t, q2, n1, n2]
     refine a0c ?_
     simp (disch := omega) [go_sem, q2, n1, n2]
     refine a0d (by decide) fun s2 hs2 he2 => ?_
     simp (disch := omega) [go_sem, hs2, h9, a0s, q2, n1, n2]
  ·rw [if_neg (by exact q)]
   by_cases q1 : args.length = 1
   ·have q1' : (args.length : Int) = 1 := by omega
    have q2 : ¬ (ins.length : Int) = 1 := fun h => q ⟨q1, by omega⟩
    simp (disch := omega) [go_sem, a1t, q1', q2, h7, a0s]
   ·have q1' : ¬ (args.length : Int) = 1 := by omega
    simp (disch := omega) [go_sem, a1t, q1', h7, a0s]
 ·by_cases c4 : op = 24
  ·subst c4
   by_cases q : args.length = 0 /\ ins.length = 0
   ·rw [if_pos (by exact q), if_neg (by simp [c50])]
    have q1 : (args.length : Int) = 0 := by omega
    have q2 : (ins.length : Int) = 0 := by omega
    simp (disch := omega) [go_sem, a1t, q1, q2]
    refine a0c ?_
    simp (disch := omega) [go_sem, q1, q2]
    refine a0d (by decide) fun s2 hs2 he2 => ?_
    simp (disch := omega) [go_sem, hs2, h9, a0s, q1, q2]
   ·rw [if_neg (by exact q)]
    by_cases q1 : args.length = 0
    ·have q1' : (args.length : Int) = 0 := by omega
     have q2 : ¬ (ins.length : Int) = 0 := fun h => q ⟨q1, by omega⟩
     have q3 : ¬ ins = [] := by rintro rfl; exact q2 rfl
     simp (disch := omega) [go_sem, a1t, q1', q2, h7, a0s, q3]
    ·have q1' : ¬ (args.length : Int) = 0 := by omega
     have q4 : ¬ args = [] := by rintro rfl; exact q1' rfl
     simp (disch := omega) [go_sem, a1t, q1', h7, a0s, q4]
  ·have ja : c50 op = 1 := by simp [c50, c4]
   have ji : f83 op = 0 := by simp [f83, c3]
   by_cases q : args.length = 1 /\ ins.length = 0
   ·rw [if_pos (by simpa [ja, ji] using q)]
    obtain ⟨x, rfl⟩ := e7f q.1
    have q2 : (ins.length : Int) = 0 := by omega
    by_cases n1 : x < 0
    ·rw [if_pos (by exact ⟨by rw [ja]; decide, .inl n1⟩)]
     simp (disch := omega) [go_sem, a1t, q2, n1, c3, c4]
     refine a0c ?_
     simp (disch := omega) [go_sem, q2, n1, c3, c4]
     refine a0d (by decide) fun s2 hs2 he2 => ?_
     simp (disch := omega) [go_sem, hs2, h9, a0s, q2, n1, c3, c4]
    ·by_cases n2 : (p.code.length : Int) < x
     ·rw [if_pos (by exact ⟨by rw [ja]; decide, .inr n2⟩)]
      simp (disch := omega) [go_sem, a1t, q2, n1, n2, c3, c4]
      refine a0c ?_
      simp (disch := omega) [go_sem, q2, n1, n2, c3, c4]
      refine a0d (by decide) fun s2 hs2 he2 => ?_
      simp (disch := omega) [go_sem, hs2, h9, a0s, q2, n1, n2, c3, c4]
     ·rw [if_neg (by rintro ⟨-, h | h⟩; exact n1 h; exact n2 h)]
      simp (disch := omega) [go_sem, a1t, q2, n1, n2, c3, c4]
      refine a0c ?_
      simp (disch := omega) [go_sem, q2, n1, n2, c3, c4]
      refine a0d (by decide) fun s2 hs2 he2 => ?_
      simp (disch := omega) [go_sem, hs2, h9, a0s, q2, n1, n2, c3, c4]
   ·rw [if_neg (by simpa [ja, ji] using q)]
    by_cases q1 : args.length = 1
    ·have q1' : (args.length : Int) = 1 := by omega
     have q2 : ¬ (ins.length : Int) = 0 := fun h => q ⟨q1, by omega⟩
     have q3 : ¬ ins = [] := by rintro rfl; exact q2 rfl
     simp (disch := omega) [go_sem, a1t, q1', q2, h7, a0s, q3, c3, c4]
    ·have q1' : ¬ (args.length : Int) = 1 := by omega
     simp (disch := omega) [go_sem, a1t, q1', h7, a0s, c3, c4]
end
end Go.Ideal.Tryz
end
