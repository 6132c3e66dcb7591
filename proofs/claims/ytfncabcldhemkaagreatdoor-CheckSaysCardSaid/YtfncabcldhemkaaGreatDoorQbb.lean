/- Part Qbb of the proof: a machine with trees for values, its soundness, and walks on it. -/
import Derived.Test.YtfncabcldhemkaaGreatDoorQay
import Derived.Test.YtfncabcldhemkaaGreatDoorQag
import Derived.Test.YtfncabcldhemkaaGreatDoorQan
import Derived.Test.YtfncabcldhemkaaGreatDoorQaz
import Derived.Test.YtfncabcldhemkaaGreatDoorQba
set_option linter.unusedVariables false
set_option linter.unusedSimpArgs false
set_option maxHeartbeats 8000000
set_option maxRecDepth 200000
section
namespace Go.Ideal.Tryz
attribute [local go_sem] eD eT eV eI eP
section
variable {G : GG} {bk : Nat -> Nat × Nat} {Q : Exit -> St -> Prop} {st : St}
@[go_sem] theorem f7c {xs : List Tn} {i : Nat} (h : i < xs.length) : ((fm eT xs).drop (i * 3)).take 2 = [slI xs[i].shape, lb xs[i].wide] := d6s (f := eT) (k := 3) (j := 0) (fun _ => rfl) h (by omega)
structure PlB (p : Pl) : Prop where
 views : p.views.length < 2 ^ 30
 consts : p.consts.length < 2 ^ 30
 weights : p.weights.length < 2 ^ 30
 code : p.code.length < 2 ^ 30
 v : ∀ v ∈ p.views, v.shape.length < 2 ^ 30 /\ -4611686018427387904 <= v.off /\ v.off < 4611686018427387904
 c : ∀ v ∈ p.consts, v.shape.length < 2 ^ 30 /\ v.data.length < 2 ^ 30
 w : ∀ v ∈ p.weights, v.shape.length < 2 ^ 30
structure PlL (p : Pl) : Prop where
 views : p.views.length < 2 ^ 30
 consts : p.consts.length < 2 ^ 30
 weights : p.weights.length < 2 ^ 30
 code : p.code.length < 2 ^ 30
 v : ∀ v ∈ p.views, v.shape.length < 2 ^ 30
 c : ∀ v ∈ p.consts, v.shape.length < 2 ^ 30 /\ v.data.length < 2 ^ 30
 w : ∀ v ∈ p.weights, v.shape.length < 2 ^ 30
theorem PlB.l {p : Pl} (h : PlB p) : PlL p := ⟨h.views, h.consts, h.weights, h.code, fun v hv => (h.v v hv).1, h.c, h.w⟩
structure InB (p : Pl) (i : In) : Prop where
 ins : i.ins.length < 2 ^ 30
 args : i.args.length < 2 ^ 30
theorem a97 {p : Pl} {k : Int} (h : a14 p k = true) : ∃ m : Nat, k = m /\ m < p.views.length := by
 simp only [a14, Bool.and_eq_true, decide_eq_true_eq] at h
 obtain ⟨m, hm⟩ := Int.eq_ofNat_of_zero_le h.1
 exact ⟨m, hm, by omega⟩
abbrev e0z (bk : Nat -> Nat × Nat) (r : Int × Er) : AV := .tup [li r.1, a0s bk r.2]
theorem d8y (hS : Sent G bk) {p : Pl} (hp : PlB p) {i : In} (hi : InB p i) (hd : a14 p i.dst = true) (hk : a0x i.op = false) : ACalls pg G b0y [.agg (eP p), .agg (eI i)] (e0z bk (a3f p i)) := by
 have h7 := hS.val 6 (by decide)
 have h0 := hS.val 0 (by decide)
 obtain ⟨m, hm, hml⟩ := a97 hd
 have hv := hp.v _ (List.getElem_mem hml)
 have hdv : c3a p i = p.views[m] := by simp [c3a, hm, hml]
 have hlv := hp.views
 have hlc := hp.consts
 have hlw := hp.weights
 have hli := hi.ins
 have hla := hi.args
 have ok2 : a0x 2 = false := by decide
 have ok3 : a0x 3 = false := by decide
 generalize hr : a3f p i = r
 rw [a3f, hk, if_neg (by simp), hdv] at hr
 refine a7l rfl ?_
 simp (disch := omega) [go_sem, a76, hm, hml]
 refine a0b (b54 i.op) rfl rfl ?_
 by_cases q1 : i.args.length = 1
 ·by_cases q2 : i.ins.length = 0
  ·rw [if_pos ⟨q1, q2⟩, b23] at hr
   have q1' : (i.args.length : Int) = 1 := by omega
   have q2' : (i.ins.length : Int) = 0 := by omega
   have q2n : i.ins = [] := by simpa using q2
   obtain ⟨x, hx⟩ := a7x q1
   have hxa : i.args[0]! = x := by simp [hx]
   rw [hxa] at hr
   by_cases c1 : i.op = 2 /\ (0 : Int) <= x /\ x < (p.consts.length : Int)
   ·rw [if_pos c1] at hr
    obtain ⟨o2, x0, x1⟩ := c1
    obtain ⟨n, rfl⟩ := Int.eq_ofNat_of_zero_le x0
    have hnl : n < p.consts.length := by omega
    have hc := hp.c _ (List.getElem_mem hnl)
    have hcd : (p.consts[((n : Int)).toNat]!).ds = ⟨p.consts[n].shape, p.consts[n].wide⟩ := by simp [hnl, Tn.ds]
    simp only [hcd] at hr
    simp (disch := omega) [go_sem, hk, ok2, ok3, q1', q2', q2n, hx, o2, x0, x1, hnl]
    refine a0b (a51 ⟨p.consts[n].shape, p.consts[n].wide⟩ (p.views[m]).ds (by simp; omega) (by simp [Vw.ds]; omega)) rfl rfl ?_
    by_cases c5 : ⟨p.consts[n].shape, p.consts[n].wide⟩ = (p.views[m]).ds
    ·rw [if_pos c5] at hr
     subst hr
     simp (disch := omega) [go_sem, hk, c5, a0s]
    ·rw [if_neg c5] at hr
     subst hr
     simp (disch := omega) [go_sem, hk, c5]
     refine a0c ?_
     simp (disch := omega) [go_sem, h7, a0s]
     refine a0d (by decide) fun s2 hs2 hes2 => ?_
     simp (disch := omega) [go_sem, hs2, h7, a0s]
   ·rw [if_neg c1] at hr
    by_cases c2 : i.op = 3 /\ (0 : Int) <= x /\ x < (p.weights.length : Int)
    ·rw [if_pos c2] at hr
     obtain ⟨o2, x0, x1⟩ := c2
     obtain ⟨n, rfl⟩ := Int.eq_ofNat_of_zero_le x0
     have hnl : n < p.weights.length := by omega
     have hc := hp.w _ (List.getElem_mem hnl)
     have hcd : p.weights[((n : Int)).toNat]! = p.weights[n] := by simp [hnl]
     simp only [hcd] at hr
     simp (disch := omega) [go_sem, hk, ok2, ok3, q1', q2', q2n, hx, o2, x0, x1, hnl]
     refine a0b (a51 p.weights[n] (p.views[m]).ds (by simp; omega) (by simp [Vw.ds]; omega)) rfl rfl ?_
     by_cases c5 : p.weights[n] = (p.views[m]).ds
     ·rw [if_pos c5] at hr
      subst hr
      simp (disch := omega) [go_sem, hk, c5, a0s]
     ·rw [if_neg c5] at hr
      subst hr
      simp (disch := omega) [go_sem, hk, c5]
      refine a0c ?_
      simp (disch := omega) [go_sem, h7, a0s]
      refine a0d (by decide) fun s2 hs2 hes2 => ?_
      simp (disch := omega) [go_sem, hs2, h7, a0s]
    ·rw [if_neg c2] at hr
     subst hr
     by_cases o2 : i.op = 2
     ·by_cases x0 : 0 <= x
      ·have x1 : ¬ x < p.consts.length := fun h => c1 ⟨o2, x0, h⟩
       simp (disch := omega) [go_sem, hk, ok2, ok3, q1', q2', q2n, hx, o2, x0, x1]
       refine a0c ?_
       simp (disch := omega) [go_sem, h0, a0s]
       refine a0d (by decide) fun s2 hs2 hes2 => ?_
       simp (disch := omega) [go_sem, hs2, h0, a0s]
      ·
       simp (disch := omega) [go_sem, hk, ok2, ok3, q1', q2', q2n, hx, o2, x0]
       refine a0c ?_
       simp (disch := omega) [go_sem, h0, a0s]
       refine a0d (by decide) fun s2 hs2 hes2 => ?_
       simp (disch := omega) [go_sem, hs2, h0, a0s]
     ·by_cases o3 : i.op = 3
      ·by_cases x0 : 0 <= x
       ·have x1 : ¬ x < p.weights.length := fun h => c2 ⟨o3, x0, h⟩
        simp (disch := omega) [go_sem, hk, ok2, ok3, q1', q2', q2n, hx, o3, x0, x1]
        refine a0c ?_
        simp (disch := omega) [go_sem, h0, a0s]
        refine a0d (by decide) fun s2 hs2 hes2 => ?_
        simp (disch := omega) [go_sem, hs2, h0, a0s]
       ·
        simp (disch := omega) [go_sem, hk, ok2, ok3, q1', q2', q2n, hx, o3, x0]
        refine a0c ?_
        simp (disch := omega) [go_sem, h0, a0s]
        refine a0d (by decide) fun s2 hs2 hes2 => ?_
        simp (disch := omega) [go_sem, hs2, h0, a0s]
      ·
       simp (disch := omega) [go_sem, hk, ok2, ok3, q1', q2', q2n, hx, o2, o3]
       refine a0c ?_
       simp (disch := omega) [go_sem, h0, a0s]
       refine a0d (by decide) fun s2 hs2 hes2 => ?_
       simp (disch := omega) [go_sem, hs2, h0, a0s]
  ·rw [if_neg (fun h => q2 h.2)] at hr
   subst hr
   have q1' : (i.args.length : Int) = 1 := by omega
   have q2' : ¬ (i.ins.length : Int) = 0 := by omega
   have q2n : ¬ i.ins = [] := by rintro h; exact q2 (by rw [h]; rfl)
   simp (disch := omega) [go_sem, hk, q1', q2', q2n]
   refine a0c ?_
   simp (disch := omega) [go_sem, h7, a0s]
   refine a0d (by decide) fun s2 hs2 hes2 => ?_
   simp (disch := omega) [go_sem, hs2, h7, a0s]
 ·rw [if_neg (fun h => q1 h.1)] at hr
  subst hr
  have q1' : ¬ (i.args.length : Int) = 1 := by omega
  simp (disch := omega) [go_sem, hk, q1']
  refine a0c ?_
  simp (disch := omega) [go_sem, h7, a0s]
  refine a0d (by decide) fun s2 hs2 hes2 => ?_
  simp (disch := omega) [go_sem, hs2, h7, a0s]
end
end Go.Ideal.Tryz
end
