/- Part Qaq of the proof: walks on a machine that is proved sound. -/
import Derived.Test.YtfncabcldhemkaaGreatDoorQak
import Derived.Test.YtfncabcldhemkaaGreatDoorQal
import Derived.Test.YtfncabcldhemkaaGreatDoorQam
import Derived.Test.YtfncabcldhemkaaGreatDoorQan
import Derived.Test.YtfncabcldhemkaaGreatDoorQao
import Derived.Test.YtfncabcldhemkaaGreatDoorQap
import Derived.Test.YtfncabcldhemkaaGreatDoorQah
set_option linter.unusedVariables false
set_option linter.unusedSimpArgs false
set_option maxHeartbeats 8000000
set_option maxRecDepth 200000
section
namespace Go.Ideal.Tryz
attribute [local go_sem] eD eT eV e65 e66
section
variable {G:GG} {bk:Nat->Nat×Nat} {Q:Exit->St->Prop} {st:St}
theorem c7x (args:List Int) (ins:List Ds) (hl:ins.length < 2 ^ 40) (hal:args.length < 2 ^ 40) (hi:∀ d∈ins,d.shape.length < 2 ^ 40):ACalls pg G a09 [li 10,slI args,slD ins] (rAV (if ins.length=1/\args.length=3 then a1u 10 args ins else bad 6)):=by
 generalize hr0:(if ins.length=1/\args.length=3 then a1u 10 args ins else bad 6)=r0
 refine a02 rfl ?_
 simp (disch:=omega) [go_sem,a06]
 by_cases a0:args.length=3
 rotate_left
 ·have a0':¬ (args.length:Int)=3:=by omega
  rw [if_neg (fun k=>a0 k.2)] at hr0
  subst hr0
  simp (disch:=omega) [go_sem,a0,a0',bad,dn,eC6]
 obtain ⟨p,q,z,rfl⟩:=d4x a0
 by_cases i0:ins.length=1
 rotate_left
 ·have i0':¬ (ins.length:Int)=1:=by omega
  rw [if_neg (fun k=>i0 k.1)] at hr0
  subst hr0
  simp (disch:=omega) [go_sem,i0,i0',bad,dn,eC6]
 obtain ⟨a,rfl⟩:=b6m i0
 have ha:=hi a (by simp)
 have hD:=a2w (G:=G) [a] (by simp) (by intro d hd; simp at hd; subst hd; omega)
 rw [if_pos ⟨rfl,rfl⟩] at hr0
 subst hr0
 simp (disch:=omega) [go_sem]
 refine a0c hD rfl rfl ?_
 by_cases hn:eC (a1g [a])=0
 rotate_left
 ·have hr:∀ r,a9b [a] r=(dn,a1g [a]):=fun r=>by
   have:(a1g [a]).isNil=false:=by
    rcases a0v [a] with e | e | e<;>rw [e] at hn ⊢
    ·exact absurd rfl hn
    ·rfl
    ·rfl
   rw [a21,chk,if_neg (by rw [this]; simp)]
  unfold a1u
  rw [hr]
  simp (disch:=omega) [go_sem,hn,dn]
 have hnil:a1g [a]= .nil:=by
  rcases a0v [a] with e | e | e<;>rw [e] at hn ⊢<;>exact absurd hn (by decide)
 have hm:∀ r,a9b [a] r=r:=fun r=>by rw [a21,hnil]; rfl
 unfold a1u
 rw [hm]
 clear hD hm
 simp (disch:=omega) [go_sem,hn]
 cases aw:a.wide
 ·refine a0b ?_
  simp (disch:=omega) [go_sem,aw]
  refine a0d (by decide) fun s2 hs2 he2=> ?_
  simp (disch:=omega) [go_sem,hs2,aw,bad,dn,eC6]
 refine a0b ?_
 simp (disch:=omega) [go_sem,aw]
 refine a0d (by decide) fun s2 hs2 he2=> ?_
 simp (disch:=omega) [go_sem,hs2,aw]
 refine a0g (b14 a.shape _ (by omega)) (by simp [go_sem,a0p]) (by simp (disch:=omega) [go_sem,hs2,aw]) ?_
 have hfr:a1h 10 [p,q,z] true=((decide (0<=p)&&decide (p<=2147483647))&&((decide (0<=q)&&decide (q<=62))&&a1k z)):=rfl
 by_cases p1:p < 0
 ·simp (disch:=omega) [go_sem,hs2,aw,p1,hfr,bad,dn,eC3]
  first | done | (intros; omega) | simp (disch:=omega) [go_sem,hs2,aw,bad,dn,eC3]
 by_cases p2:2147483647 < p
 ·simp (disch:=omega) [go_sem,hs2,aw,p1,p2,hfr,bad,dn,eC3]
  first | done | (intros; omega) | simp (disch:=omega) [go_sem,hs2,aw,bad,dn,eC3]
 by_cases p3:q < 0
 ·simp (disch:=omega) [go_sem,hs2,aw,p1,p2,p3,hfr,bad,dn,eC3]
  first | done | (intros; omega) | simp (disch:=omega) [go_sem,hs2,aw,bad,dn,eC3]
 by_cases p4:62 < q
 ·simp (disch:=omega) [go_sem,hs2,aw,p1,p2,p3,p4,hfr,bad,dn,eC3]
  first | done | (intros; omega) | simp (disch:=omega) [go_sem,hs2,aw,bad,dn,eC3]
 simp (disch:=omega) [go_sem,hs2,aw,p1,p2,p3,p4]
 refine a0c (a86 z) rfl rfl ?_
 have e1:decide (0<=p)=true:=by simp; omega
 have e2:decide (p<=2147483647)=true:=by simp; omega
 have e3:decide (0<=q)=true:=by simp; omega
 have e4:decide (q<=62)=true:=by simp; omega
 rw [hfr,e1,e2,e3,e4]
 cases a1k z
 ·simp (disch:=omega) [go_sem,hs2,aw,bad,dn,eC3]
 ·simp (disch:=omega) [go_sem,hs2,aw,a1m,a7s]
theorem c7y (args:List Int) (ins:List Ds) (hl:ins.length < 2 ^ 40) (hal:args.length < 2 ^ 40) (hi:∀ d∈ins,d.shape.length < 2 ^ 40):ACalls pg G a09 [li 11,slI args,slD ins] (rAV (if ins.length=1/\args.length=1 then a1u 11 args ins else bad 6)):=by
 generalize hr0:(if ins.length=1/\args.length=1 then a1u 11 args ins else bad 6)=r0
 refine a02 rfl ?_
 simp (disch:=omega) [go_sem,a06]
 by_cases a0:args.length=1
 rotate_left
 ·have a0':¬ (args.length:Int)=1:=by omega
  rw [if_neg (fun k=>a0 k.2)] at hr0
  subst hr0
  simp (disch:=omega) [go_sem,a0,a0',bad,dn,eC6]
 obtain ⟨p,rfl⟩:=b6m a0
 by_cases i0:ins.length=1
 rotate_left
 ·have i0':¬ (ins.length:Int)=1:=by omega
  rw [if_neg (fun k=>i0 k.1)] at hr0
  subst hr0
  simp (disch:=omega) [go_sem,i0,i0',bad,dn,eC6]
 obtain ⟨a,rfl⟩:=b6m i0
 have ha:=hi a (by simp)
 have hD:=a2w (G:=G) [a] (by simp) (by intro d hd; simp at hd; subst hd; omega)
 rw [if_pos ⟨rfl,rfl⟩] at hr0
 subst hr0
 simp (disch:=omega) [go_sem]
 refine a0c hD rfl rfl ?_
 by_cases hn:eC (a1g [a])=0
 rotate_left
 ·have hr:∀ r,a9b [a] r=(dn,a1g [a]):=fun r=>by
   have:(a1g [a]).isNil=false:=by
    rcases a0v [a] with e | e | e<;>rw [e] at hn ⊢
    ·exact absurd rfl hn
    ·rfl
    ·rfl
   rw [a21,chk,if_neg (by rw [this]; simp)]
  unfold a1u
  rw [hr]
  simp (disch:=omega) [go_sem,hn,dn]
 have hnil:a1g [a]= .nil:=by
  rcases a0v [a] with e | e | e<;>rw [e] at hn ⊢<;>exact absurd hn (by decide)
 have hm:∀ r,a9b [a] r=r:=fun r=>by rw [a21,hnil]; rfl
 unfold a1u
 rw [hm]
 clear hD hm
 simp (disch:=omega) [go_sem,hn]
 cases aw:a.wide
 rotate_left
 ·refine a0b ?_
  simp (disch:=omega) [go_sem,aw]
  refine a0d (by decide) fun s2 hs2 he2=> ?_
  simp (disch:=omega) [go_sem,hs2,aw,bad,dn,eC6]
 refine a0b ?_
 simp (disch:=omega) [go_sem,aw]
 refine a0d (by decide) fun s2 hs2 he2=> ?_
 simp (disch:=omega) [go_sem,hs2,aw]
 refine a0g (b14 a.shape _ (by omega)) (by simp [go_sem,a0p]) (by simp (disch:=omega) [go_sem,hs2,aw]) ?_
 have hfr:a1h 11 [p] false=a1k p:=rfl
 rw [hfr]
 simp (disch:=omega) [go_sem,hs2,aw]
 refine a0c (a86 p) rfl rfl ?_
 cases a1k p
 ·simp (disch:=omega) [go_sem,hs2,aw,bad,dn,eC3]
 ·simp (disch:=omega) [go_sem,hs2,aw,a1m,a7s]
theorem e24 (xs:List Int) (h:xs.length < 2 ^ 40):ACalls pg G b0f [slI xs] (slI xs):=ACalls.shown (d4u G xs h) (by simp [go_sem,frz,a2z])
theorem d73 {x y:Int} (e:a01 [x,y]= .nil):a01 [y,x]= .nil:=by
 have ok:=a52.1 e
 refine a52.2 ?_
 simp [c02,a3x,a45] at ok ⊢
 rw [Int.mul_comm y x]
 omega
theorem d7b (args:List Int) (ins:List Ds) (hl:ins.length < 2 ^ 40) (hal:args.length < 2 ^ 40) (hi:∀ d∈ins,d.shape.length < 2 ^ 40):ACalls pg G a07 [li 12,slI args,slD ins] (rAV (opR 12 args ins)):=by
 have hK:=a1z (G:=G) 12
 rw [show a0t 12=true from rfl] at hK
 have hI:=b2d (G:=G) 12
 rw [show a1r 12=2 from rfl] at hI
 have hA:=a8b (G:=G) 12
 rw [show a08 12=2 from rfl] at hA
 have hr:opR 12 args ins=if ins.length=2/\args.length=2 then c3v args[0]! args[1]! ins[0]! ins[1]! else bad 6:=by simp [opR,a0t,a1r,a08]
 generalize opR 12 args ins=r0 at *
 refine a0i rfl ?_
 simp (disch:=omega) [go_sem,a0l]
 refine a0c hK rfl rfl ?_
 simp (disch:=omega) [go_sem]
 refine a0c hI rfl rfl ?_
 by_cases i0:ins.length=2
 rotate_left
 ·have i0':¬ (ins.length:Int)=2:=by omega
  rw [if_neg (fun k=>i0 k.1)] at hr
  subst hr
  simp (disch:=omega) [go_sem,i0,i0',bad,dn,eC6]
 obtain ⟨a,b,rfl⟩:=b2b i0
 have ha:=hi a (by simp)
 have hb:=hi b (by simp)
 simp (disch:=omega) [go_sem]
 refine a0c hA rfl rfl ?_
 by_cases a0:args.length=2
 rotate_left
 ·have a0':¬ (args.length:Int)=2:=by omega
  rw [if_neg (fun k=>a0 k.2)] at hr
  subst hr
  simp (disch:=omega) [go_sem,a0,a0',bad,dn,eC6]
 obtain ⟨p,q,rfl⟩:=b2b a0
 rw [if_pos ⟨rfl,rfl⟩] at hr
 subst hr
 simp (disch:=omega) [go_sem]
 refine a0b ?_
 simp (disch:=omega) [go_sem]
 refine a47 (e4x p q a b ha hb) (by simp [go_sem,a0p]) (by simp (disch:=omega) [go_sem]) (by simp (disch:=omega) [go_sem,a0r,a3e]) [55] (by simp) (by simp (disch:=omega) [go_sem]) ?_
 simp (disch:=omega) [go_sem,a0r,a3e]
 refine a0d (by decide) fun s2 hs2 he2=> ?_
 simp (disch:=omega) [go_sem,hs2]
theorem d7c (args:List Int) (ins:List Ds) (hl:ins.length < 2 ^ 40) (hal:args.length < 2 ^ 40) (hi:∀ d∈ins,d.shape.length < 2 ^ 40):ACalls pg G a07 [li 13,slI args,slD ins] (rAV (opR 13 args ins)):=by
 have hK:=a1z (G:=G) 13
 rw [show a0t 13=true from rfl] at hK
 have hI:=b2d (G:=G) 13
 rw [show a1r 13=2 from rfl] at hI
 have hA:=a8b (G:=G) 13
 rw [show a08 13=3 from rfl] at hA
 have hr:opR 13 args ins=if ins.length=2/\args.length=3 then b0n args ins[0]! ins[1]! else bad 6:=by simp [opR,a0t,a1r,a08]
 generalize opR 13 args ins=r0 at *
 refine a0i rfl ?_
 simp (disch:=omega) [go_sem,a0l]
 refine a0c hK rfl rfl ?_
 simp (disch:=omega) [go_sem]
 refine a0c hI rfl rfl ?_
 by_cases i0:ins.length=2
 rotate_left
 ·have i0':¬ (ins.length:Int)=2:=by omega
  rw [if_neg (fun k=>i0 k.1)] at hr
  subst hr
  simp (disch:=omega) [go_sem,i0,i0',bad,dn,eC6]
 obtain ⟨a,b,rfl⟩:=b2b i0
 have ha:=hi a (by simp)
 have hb:=hi b (by simp)
 simp (disch:=omega) [go_sem]
 refine a0c hA rfl rfl ?_
 by_cases a0:args.length=3
 rotate_left
 ·have a0':¬ (args.length:Int)=3:=by omega
  rw [if_neg (fun k=>a0 k.2)] at hr
  subst hr
  simp (disch:=omega) [go_sem,a0,a0',bad,dn,eC6]
 obtain ⟨p,q,z,rfl⟩:=d4x a0
 rw [if_pos ⟨rfl,rfl⟩] at hr
 subst hr
 simp (disch:=omega) [go_sem]
 refine a0b ?_
 simp (disch:=omega) [go_sem]
 refine a47 (d62 p q z a b ha hb) (by simp [go_sem,a0p]) (by simp (disch:=omega) [go_sem]) (by simp (disch:=omega) [go_sem,a0r,a3e]) [67] (by simp) (by simp (disch:=omega) [go_sem]) ?_
 simp (disch:=omega) [go_sem,a0r,a3e]
 refine a0d (by decide) fun s2 hs2 he2=> ?_
 simp (disch:=omega) [go_sem,hs2]
theorem d7d (args:List Int) (ins:List Ds) (hl:ins.length < 2 ^ 40) (hal:args.length < 2 ^ 40) (hi:∀ d∈ins,d.shape.length < 2 ^ 40):ACalls pg G a07 [li 14,slI args,slD ins] (rAV (opR 14 args ins)):=by
 have hK:=a1z (G:=G) 14
 rw [show a0t 14=true from rfl] at hK
 have hI:=b2d (G:=G) 14
 rw [show a1r 14=1 from rfl] at hI
 have hA:=a8b (G:=G) 14
 rw [show a08 14=2 from rfl] at hA
 have hr:opR 14 args ins=if ins.length=1/\args.length=2 then b20 args ins[0]! else bad 6:=by simp [opR,a0t,a1r,a08]
 generalize opR 14 args ins=r0 at *
 refine a0i rfl ?_
 simp (disch:=omega) [go_sem,a0l]
 refine a0c hK rfl rfl ?_
 simp (disch:=omega) [go_sem]
 refine a0c hI rfl rfl ?_
 by_cases i0:ins.length=1
 rotate_left
 ·have i0':¬ (ins.length:Int)=1:=by omega
  rw [if_neg (fun k=>i0 k.1)] at hr
  subst hr
  simp (disch:=omega) [go_sem,i0,i0',bad,dn,eC6]
 obtain ⟨a,rfl⟩:=b6m i0
 have ha:=hi a (by simp)
 simp (disch:=omega) [go_sem]
 refine a0c hA rfl rfl ?_
 by_cases a0:args.length=2
 rotate_left
 ·have a0':¬ (args.length:Int)=2:=by omega
  rw [if_neg (fun k=>a0 k.2)] at hr
  subst hr
  simp (disch:=omega) [go_sem,a0,a0',bad,dn,eC6]
 obtain ⟨p,q,rfl⟩:=b2b a0
 rw [if_pos ⟨rfl,rfl⟩] at hr
 subst hr
 simp (disch:=omega) [go_sem]
 refine a0g (d0r p q a ha) (by simp [go_sem,a0p]) (by simp (disch:=omega) [go_sem]) ?_
 simp (disch:=omega) [go_sem]
theorem d7e (args:List Int) (ins:List Ds) (hl:ins.length < 2 ^ 40) (hal:args.length < 2 ^ 40) (hi:∀ d∈ins,d.shape.length < 2 ^ 40):ACalls pg G a07 [li 15,slI args,slD ins] (rAV (opR 15 args ins)):=by
 have hK:=a1z (G:=G) 15
 rw [show a0t 15=true from rfl] at hK
 have hI:=b2d (G:=G) 15
 rw [show a1r 15=1 from rfl] at hI
 have hA:=a8b (G:=G) 15
 rw [show a08 15=2 from rfl] at hA
 have hr:opR 15 args ins=if ins.length=1/\args.length=2 then b20 args ins[0]! else bad 6:=by simp [opR,a0t,a1r,a08]
 generalize opR 15 args ins=r0 at *
 refine a0i rfl ?_
 simp (disch:=omega) [go_sem,a0l]
 refine a0c hK rfl rfl ?_
 simp (disch:=omega) [go_sem]
 refine a0c hI rfl rfl ?_
 by_cases i0:ins.length=1
 rotate_left
 ·have i0':¬ (ins.length:Int)=1:=by omega
  rw [if_neg (fun k=>i0 k.1)] at hr
  subst hr
  simp (disch:=omega) [go_sem,i0,i0',bad,dn,eC6]
 obtain ⟨a,rfl⟩:=b6m i0
 have ha:=hi a (by simp)
 simp (disch:=omega) [go_sem]
 refine a0c hA rfl rfl ?_
 by_cases a0:args.length=2
 rotate_left
 ·have a0':¬ (args.length:Int)=2:=by omega
  rw [if_neg (fun k=>a0 k.2)] at hr
  subst hr
  simp (disch:=omega) [go_sem,a0,a0',bad,dn,eC6]
 obtain ⟨p,q,rfl⟩:=b2b a0
 rw [if_pos ⟨rfl,rfl⟩] at hr
 subst hr
 simp (disch:=omega) [go_sem]
 refine a0g (d0r p q a ha) (by simp [go_sem,a0p]) (by simp (disch:=omega) [go_sem]) ?_
 simp (disch:=omega) [go_sem]
theorem d7f (args:List Int) (ins:List Ds) (hl:ins.length < 2 ^ 40) (hal:args.length < 2 ^ 40) (hi:∀ d∈ins,d.shape.length < 2 ^ 40):ACalls pg G a07 [li 16,slI args,slD ins] (rAV (opR 16 args ins)):=by
 have hK:=a1z (G:=G) 16
 rw [show a0t 16=true from rfl] at hK
 have hI:=b2d (G:=G) 16
 rw [show a1r 16=2 from rfl] at hI
 have hA:=a8b (G:=G) 16
 rw [show a08 16=0 from rfl] at hA
 have hr:opR 16 args ins=if ins.length=2/\args.length=0 then a42 16 ins else bad 6:=by simp [opR,a0t,a1r,a08]
 generalize opR 16 args ins=r0 at *
 refine a0i rfl ?_
 simp (disch:=omega) [go_sem,a0l]
 refine a0c hK rfl rfl ?_
 simp (disch:=omega) [go_sem]
 refine a0c hI rfl rfl ?_
 by_cases i0:ins.length=2
 rotate_left
 ·have i0':¬ (ins.length:Int)=2:=by omega
  rw [if_neg (fun k=>i0 k.1)] at hr
  subst hr
  simp (disch:=omega) [go_sem,i0,i0',bad,dn,eC6]
 obtain ⟨a,b,rfl⟩:=b2b i0
 have ha:=hi a (by simp)
 have hb:=hi b (by simp)
 simp (disch:=omega) [go_sem]
 refine a0c hA rfl rfl ?_
 by_cases a0:args.length=0
 rotate_left
 ·have a0':¬ (args.length:Int)=0:=by omega
  rw [if_neg (fun k=>a0 k.2)] at hr
  subst hr
  have a0n:args≠[]:=by rintro rfl; exact a0 rfl
  simp (disch:=omega) [go_sem,a0,a0',a0n,bad,dn,eC6]
 obtain rfl:=List.eq_nil_of_length_eq_zero a0
 rw [if_pos ⟨rfl,rfl⟩] at hr
 subst hr
 simp (disch:=omega) [go_sem]
 refine a0g (d3r a b ha hb) (by simp [go_sem,a0p]) (by simp (disch:=omega) [go_sem]) ?_
 simp (disch:=omega) [go_sem]
theorem d7g (args:List Int) (ins:List Ds) (hl:ins.length < 2 ^ 40) (hal:args.length < 2 ^ 40) (hi:∀ d∈ins,d.shape.length < 2 ^ 40):ACalls pg G a07 [li 17,slI args,slD ins] (rAV (opR 17 args ins)):=by
 have hK:=a1z (G:=G) 17
 rw [show a0t 17=true from rfl] at hK
 have hI:=b2d (G:=G) 17
 rw [show a1r 17=2 from rfl] at hI
 have hA:=a8b (G:=G) 17
 rw [show a08 17=0 from rfl] at hA
 have hr:opR 17 args ins=if ins.length=2/\args.length=0 then a42 17 ins else bad 6:=by simp [opR,a0t,a1r,a08]
 generalize opR 17 args ins=r0 at *
 refine a0i rfl ?_
 simp (disch:=omega) [go_sem,a0l]
 refine a0c hK rfl rfl ?_
 simp (disch:=omega) [go_sem]
 refine a0c hI rfl rfl ?_
 by_cases i0:ins.length=2
 rotate_left
 ·have i0':¬ (ins.length:Int)=2:=by omega
  rw [if_neg (fun k=>i0 k.1)] at hr
  subst hr
  simp (disch:=omega) [go_sem,i0,i0',bad,dn,eC6]
 obtain ⟨a,b,rfl⟩:=b2b i0
 have ha:=hi a (by simp)
 have hb:=hi b (by simp)
 simp (disch:=omega) [go_sem]
 refine a0c hA rfl rfl ?_
 by_cases a0:args.length=0
 rotate_left
 ·have a0':¬ (args.length:Int)=0:=by omega
  rw [if_neg (fun k=>a0 k.2)] at hr
  subst hr
  have a0n:args≠[]:=by rintro rfl; exact a0 rfl
  simp (disch:=omega) [go_sem,a0,a0',a0n,bad,dn,eC6]
 obtain rfl:=List.eq_nil_of_length_eq_zero a0
 rw [if_pos ⟨rfl,rfl⟩] at hr
 subst hr
 simp (disch:=omega) [go_sem]
 refine a0g (d3s a b ha hb) (by simp [go_sem,a0p]) (by simp (disch:=omega) [go_sem]) ?_
 simp (disch:=omega) [go_sem]
theorem d7i (args:List Int) (ins:List Ds) (hl:ins.length < 2 ^ 40) (hal:args.length < 2 ^ 40) (hi:∀ d∈ins,d.shape.length < 2 ^ 40):ACalls pg G a07 [li 19,slI args,slD ins] (rAV (opR 19 args ins)):=by
 have hK:=a1z (G:=G) 19
 rw [show a0t 19=true from rfl] at hK
 have hI:=b2d (G:=G) 19
 rw [show a1r 19=1 from rfl] at hI
 have hA:=a8b (G:=G) 19
 rw [show a08 19=0 from rfl] at hA
 have hr:opR 19 args ins=if ins.length=1/\args.length=0 then a42 19 ins else bad 6:=by simp [opR,a0t,a1r,a08]
 generalize opR 19 args ins=r0 at *
 refine a0i rfl ?_
 simp (disch:=omega) [go_sem,a0l]
 refine a0c hK rfl rfl ?_
 simp (disch:=omega) [go_sem]
 refine a0c hI rfl rfl ?_
 by_cases i0:ins.length=1
 rotate_left
 ·have i0':¬ (ins.length:Int)=1:=by omega
  rw [if_neg (fun k=>i0 k.1)] at hr
  subst hr
  simp (disch:=omega) [go_sem,i0,i0',bad,dn,eC6]
 obtain ⟨a,rfl⟩:=b6m i0
 have ha:=hi a (by simp)
 simp (disch:=omega) [go_sem]
 refine a0c hA rfl rfl ?_
 by_cases a0:args.length=0
 rotate_left
 ·have a0':¬ (args.length:Int)=0:=by omega
  rw [if_neg (fun k=>a0 k.2)] at hr
  subst hr
  have a0n:args≠[]:=by rintro rfl; exact a0 rfl
  simp (disch:=omega) [go_sem,a0,a0',a0n,bad,dn,eC6]
 obtain rfl:=List.eq_nil_of_length_eq_zero a0
 rw [if_pos ⟨rfl,rfl⟩] at hr
 subst hr
 simp (disch:=omega) [go_sem]
 refine a0g (d3t a ha) (by simp [go_sem,a0p]) (by simp (disch:=omega) [go_sem]) ?_
 simp (disch:=omega) [go_sem]
theorem d7j (args:List Int) (ins:List Ds) (hl:ins.length < 2 ^ 40) (hal:args.length < 2 ^ 40) (hi:∀ d∈ins,d.shape.length < 2 ^ 40):ACalls pg G a07 [li 20,slI args,slD ins] (rAV (opR 20 args ins)):=by
 have hK:=a1z (G:=G) 20
 rw [show a0t 20=true from rfl] at hK
 have hI:=b2d (G:=G) 20
 rw [show a1r 20=1 from rfl] at hI
 have hA:=a8b (G:=G) 20
 rw [show a08 20=0 from rfl] at hA
 have hr:opR 20 args ins=if ins.length=1/\args.length=0 then a42 20 ins else bad 6:=by simp [opR,a0t,a1r,a08]
 generalize opR 20 args ins=r0 at *
 refine a0i rfl ?_
 simp (disch:=omega) [go_sem,a0l]
 refine a0c hK rfl rfl ?_
 simp (disch:=omega) [go_sem]
 refine a0c hI rfl rfl ?_
 by_cases i0:ins.length=1
 rotate_left
 ·have i0':¬ (ins.length:Int)=1:=by omega
  rw [if_neg (fun k=>i0 k.1)] at hr
  subst hr
  simp (disch:=omega) [go_sem,i0,i0',bad,dn,eC6]
 obtain ⟨a,rfl⟩:=b6m i0
 have ha:=hi a (by simp)
 simp (disch:=omega) [go_sem]
 refine a0c hA rfl rfl ?_
 by_cases a0:args.length=0
 rotate_left
 ·have a0':¬ (args.length:Int)=0:=by omega
  rw [if_neg (fun k=>a0 k.2)] at hr
  subst hr
  have a0n:args≠[]:=by rintro rfl; exact a0 rfl
  simp (disch:=omega) [go_sem,a0,a0',a0n,bad,dn,eC6]
 obtain rfl:=List.eq_nil_of_length_eq_zero a0
 rw [if_pos ⟨rfl,rfl⟩] at hr
 subst hr
 simp (disch:=omega) [go_sem]
 refine a0g (d3u a ha) (by simp [go_sem,a0p]) (by simp (disch:=omega) [go_sem]) ?_
 simp (disch:=omega) [go_sem]
theorem d7h (args:List Int) (ins:List Ds) (hl:ins.length < 2 ^ 40) (hal:args.length < 2 ^ 40) (hi:∀ d∈ins,d.shape.length < 2 ^ 40):ACalls pg G a07 [li 18,slI args,slD ins] (rAV (opR 18 args ins)):=by
 have hK:=a1z (G:=G) 18
 rw [show a0t 18=true from rfl] at hK
 have hI:=b2d (G:=G) 18
 rw [show a1r 18=1 from rfl] at hI
 have hA:=a8b (G:=G) 18
 rw [show a08 18=0 from rfl] at hA
 have hr:opR 18 args ins=if ins.length=1 then a4u args ins[0]! else bad 6:=by simp [opR,a0t,a1r,a08]
 generalize opR 18 args ins=r0 at *
 refine a0i rfl ?_
 simp (disch:=omega) [go_sem,a0l]
 refine a0c hK rfl rfl ?_
 simp (disch:=omega) [go_sem]
 refine a0c hI rfl rfl ?_
 by_cases i0:ins.length=1
 rotate_left
 ·have i0':¬ (ins.length:Int)=1:=by omega
  rw [if_neg (fun k=>i0 k)] at hr
  subst hr
  simp (disch:=omega) [go_sem,i0,i0',bad,dn,eC6]
 obtain ⟨a,rfl⟩:=b6m i0
 have ha:=hi a (by simp)
 rw [if_pos (by rfl)] at hr
 subst hr
 simp (disch:=omega) [go_sem]
 have c:=a62 (G:=G) a.shape a.wide (by omega)
 rw [c4g] at c
 refine a0c c rfl rfl ?_
 by_cases hn:(a01 a.shape).isNil=true
 rotate_left
 ·have h0:¬ eC (a01 a.shape)=0:=fun k=>hn ((a8j a.shape).1 k)
  simp (disch:=omega) [go_sem,h0,a4u,chk,hn,dn]
 have h0:=(a8j a.shape).2 hn
 have ea:=a49.1 hn
 clear c
 simp (disch:=omega) [go_sem,h0]
 have hre:a4u args a=chk (a01 args) (if a3q a.shape=a3q args then (⟨args,a.wide⟩,.nil) else bad 6):=by
  unfold a4u
  rw [chk,if_pos hn]
 rw [hre]
 clear hre
 refine a0b ?_
 simp (disch:=omega) [go_sem]
 refine a47 (e24 args hal) (by simp [go_sem,a0p]) (by simp (disch:=omega) [go_sem]) (by simp (disch:=omega) [go_sem,a0r,a3e]) [122] (by simp) (by simp (disch:=omega) [go_sem]) ?_
 simp (disch:=omega) [go_sem,a0r,a3e]
 refine a0d (by decide) fun s2 hs2 hes2=> ?_
 simp (disch:=omega) [go_sem,hs2]
 have c2:=a62 (G:=G) args a.wide (by omega)
 rw [c4g] at c2
 refine a0c c2 rfl rfl ?_
 by_cases hn2:(a01 args).isNil=true
 rotate_left
 ·have h2:¬ eC (a01 args)=0:=fun k=>hn2 ((a8j args).1 k)
  rw [chk,if_neg hn2]
  simp (disch:=omega) [go_sem,hs2,h2,dn]
 have h2:=(a8j args).2 hn2
 have ea2:=a49.1 hn2
 clear c2
 rw [chk,if_pos hn2]
 simp (disch:=omega) [go_sem,hs2,h2]
 refine a0b ?_
 simp (disch:=omega) [go_sem,hs2]
 refine a0m (b33 args (by omega)) rfl rfl (by simp (disch:=omega) [go_sem,a0r,a3e]) [134] (by simp) (by simp (disch:=omega) [go_sem,hs2]) ?_
 simp (disch:=omega) [go_sem,hs2,a0r,a3e]
 refine a0m (b33 a.shape (by omega)) rfl rfl (by simp (disch:=omega) [go_sem,a0r,a3e]) [137] (by simp) (by simp (disch:=omega) [go_sem,hs2]) ?_
 simp (disch:=omega) [go_sem,hs2,a0r,a3e]
 refine a0d (by decide) fun s3 hs3 hes3=> ?_
 by_cases ce:a3q args=a3q a.shape
 ·rw [if_pos ce.symm]
  simp (disch:=omega) [go_sem,hs3,hs2,ce,a7s]
 ·have ce':¬ a3q a.shape=a3q args:=fun k=>ce k.symm
  rw [if_neg ce']
  simp (disch:=omega) [go_sem,hs3,hs2,ce,bad,dn,eC6]
theorem d7k (args:List Int) (ins:List Ds) (hl:ins.length < 2 ^ 40) (hal:args.length < 2 ^ 40) (hi:∀ d∈ins,d.shape.length < 2 ^ 40):ACalls pg G a07 [li 21,slI args,slD ins] (rAV (opR 21 args ins)):=by
 have hK:=a1z (G:=G) 21
 rw [show a0t 21=true from rfl] at hK
 have hI:=b2d (G:=G) 21
 rw [show a1r 21=1 from rfl] at hI
 have hA:=a8b (G:=G) 21
 rw [show a08 21=0 from rfl] at hA
 have hr:opR 21 args ins=if ins.length=1/\args.length=0 then b4i ins[0]! else bad 6:=by simp [opR,a0t,a1r,a08]
 generalize opR 21 args ins=r0 at *
 refine a0i rfl ?_
 simp (disch:=omega) [go_sem,a0l]
 refine a0c hK rfl rfl ?_
 simp (disch:=omega) [go_sem]
 refine a0c hI rfl rfl ?_
 by_cases i0:ins.length=1
 rotate_left
 ·have i0':¬ (ins.length:Int)=1:=by omega
  rw [if_neg (fun k=>i0 k.1)] at hr
  subst hr
  simp (disch:=omega) [go_sem,i0,i0',bad,dn,eC6]
 obtain ⟨a,rfl⟩:=b6m i0
 have ha:=hi a (by simp)
 simp (disch:=omega) [go_sem]
 refine a0c hA rfl rfl ?_
 by_cases a0:args.length=0
 rotate_left
 ·have a0':¬ (args.length:Int)=0:=by omega
  rw [if_neg (fun k=>a0 k.2)] at hr
  subst hr
  have a0n:args≠[]:=by rintro rfl; exact a0 rfl
  simp (disch:=omega) [go_sem,a0,a0',a0n,bad,dn,eC6]
 obtain rfl:=List.eq_nil_of_length_eq_zero a0
 rw [if_pos ⟨rfl,rfl⟩] at hr
 subst hr
 simp (disch:=omega) [go_sem]
 have c:=a62 (G:=G) a.shape a.wide (by omega)
 rw [c4g] at c
 refine a0c c rfl rfl ?_
 by_cases hn:(a01 a.shape).isNil=true
 rotate_left
 ·have h0:¬ eC (a01 a.shape)=0:=fun k=>hn ((a8j a.shape).1 k)
  simp (disch:=omega) [go_sem,h0,b4i,chk,hn,dn]
 have h0:=(a8j a.shape).2 hn
 have ea:=a49.1 hn
 clear c
 simp (disch:=omega) [go_sem,h0]
 by_cases c1:a.shape.length=2
 rotate_left
 ·have c1':¬ (a.shape.length:Int)=2:=by omega
  simp (disch:=omega) [go_sem,c1',b4i,chk,ea,Er.isNil,c1,bad,dn,eC6]
 obtain ⟨ash,aw⟩:=a
 obtain ⟨x,y,rfl⟩:=b2b c1
 have hse:b4i ⟨[x,y],aw⟩=a6f [y,x] aw:=by simp [b4i,a6f,chk,ea,d73 ea,Er.isNil]
 rw [hse]
 simp (disch:=omega) [go_sem]
 refine a0b ?_
 simp (disch:=omega) [go_sem,a6s,a0f]
 have hse:=b09 (G:=G) [y,x] aw (by simp)
 by_cases he:(a01 [y,x]).isNil=true
 ·have e2:a6f [y,x] aw=(⟨[y,x],aw⟩,.nil):=by simp [a6f,chk,he]
  rw [e2] at hse ⊢
  refine b3i hse (by simp [go_sem,a0p]) (by simp [go_sem,a1l,a18]) (by simp (disch:=omega) [go_sem,a0r,a3e]) [118,117] (by simp) (by simp (disch:=omega) [go_sem]) ?_
  simp (disch:=omega) [go_sem,a0r,a3e]
  refine a0d (by decide) fun s3 hs3 hes3=> ?_
  simp (disch:=omega) [go_sem,hs3,dn]
 ·have e2:a6f [y,x] aw=(dn,a01 [y,x]):=by simp [a6f,chk,he]
  rw [e2] at hse ⊢
  refine a0m hse (by simp [go_sem,a0p]) (by simp [go_sem,a1l,a18,dn]) (by simp (disch:=omega) [go_sem,a0r,a3e]) [118,117] (by simp) (by simp (disch:=omega) [go_sem]) ?_
  simp (disch:=omega) [go_sem,a0r,a3e]
  refine a0d (by decide) fun s3 hs3 hes3=> ?_
  simp (disch:=omega) [go_sem,hs3,dn]
theorem d0s (op:Int) (args:List Int) (ins:List Ds) (hl:ins.length < 2 ^ 40) (hal:args.length < 2 ^ 40) (hi:∀ d∈ins,d.shape.length < 2 ^ 40):ACalls pg G a07 [li op,slI args,slD ins] (rAV (opR op args ins)):=by
 by_cases k:a0t op=true
 rotate_left
 ·have kf:a0t op=false:=by simpa using k
  have hK:=a1z (G:=G) op
  rw [kf] at hK
  have hr:opR op args ins=bad 5:=by simp [opR,kf]
  rw [hr]
  refine a0i rfl ?_
  simp (disch:=omega) [go_sem,a0l]
  refine a0c hK rfl rfl ?_
  simp (disch:=omega) [go_sem,bad,dn,eC5]
 have k2:=k
 simp only [a0t,Bool.and_eq_true,decide_eq_true_eq] at k2
 obtain rfl | rfl | rfl | rfl | rfl | rfl | rfl | rfl | rfl | rfl | rfl | rfl | rfl | rfl | rfl | rfl | rfl | rfl:op=4\/op=5\/op=6\/op=7\/op=8\/op=9\/op=10\/op=11\/op=12\/op=13\/op=14\/op=15\/op=16\/op=17\/op=18\/op=19\/op=20\/op=21:=by omega
 ·have hr:opR 4 args ins=if ins.length=2/\args.length=0 then a1u 4 args ins else bad 6:=by simp [opR,a0t,a1r,a08]
  rw [hr]
  clear hr
  refine a0i rfl ?_
  simp (disch:=omega) [go_sem,a0l]
  refine a0c (show ACalls pg G a1j [li 4] (lb true) from a1z 4) rfl rfl ?_
  simp (disch:=omega) [go_sem]
  refine a0g (d0g args ins hl hal hi) (by simp [go_sem,a0p]) (by simp (disch:=omega) [go_sem]) ?_
  simp (disch:=omega) [go_sem]
 ·have hr:opR 5 args ins=if ins.length=2/\args.length=0 then a1u 5 args ins else bad 6:=by simp [opR,a0t,a1r,a08]
  rw [hr]
  clear hr
  refine a0i rfl ?_
  simp (disch:=omega) [go_sem,a0l]
  refine a0c (show ACalls pg G a1j [li 5] (lb true) from a1z 5) rfl rfl ?_
  simp (disch:=omega) [go_sem]
  refine a0g (d0h args ins hl hal hi) (by simp [go_sem,a0p]) (by simp (disch:=omega) [go_sem]) ?_
  simp (disch:=omega) [go_sem]
 ·have hr:opR 6 args ins=if ins.length=2/\args.length=0 then a1u 6 args ins else bad 6:=by simp [opR,a0t,a1r,a08]
  rw [hr]
  clear hr
  refine a0i rfl ?_
  simp (disch:=omega) [go_sem,a0l]
  refine a0c (show ACalls pg G a1j [li 6] (lb true) from a1z 6) rfl rfl ?_
  simp (disch:=omega) [go_sem]
  refine a0g (d0i args ins hl hal hi) (by simp [go_sem,a0p]) (by simp (disch:=omega) [go_sem]) ?_
  simp (disch:=omega) [go_sem]
 ·have hr:opR 7 args ins=if ins.length=2/\args.length=0 then a1u 7 args ins else bad 6:=by simp [opR,a0t,a1r,a08]
  rw [hr]
  clear hr
  refine a0i rfl ?_
  simp (disch:=omega) [go_sem,a0l]
  refine a0c (show ACalls pg G a1j [li 7] (lb true) from a1z 7) rfl rfl ?_
  simp (disch:=omega) [go_sem]
  refine a0g (d0j args ins hl hal hi) (by simp [go_sem,a0p]) (by simp (disch:=omega) [go_sem]) ?_
  simp (disch:=omega) [go_sem]
 ·have hr:opR 8 args ins=if ins.length=1/\args.length=0 then a1u 8 args ins else bad 6:=by simp [opR,a0t,a1r,a08]
  rw [hr]
  clear hr
  refine a0i rfl ?_
  simp (disch:=omega) [go_sem,a0l]
  refine a0c (show ACalls pg G a1j [li 8] (lb true) from a1z 8) rfl rfl ?_
  simp (disch:=omega) [go_sem]
  refine a0g (d0k args ins hl hal hi) (by simp [go_sem,a0p]) (by simp (disch:=omega) [go_sem]) ?_
  simp (disch:=omega) [go_sem]
 ·have hr:opR 9 args ins=if ins.length=1/\args.length=2 then a1u 9 args ins else bad 6:=by simp [opR,a0t,a1r,a08]
  rw [hr]
  clear hr
  refine a0i rfl ?_
  simp (disch:=omega) [go_sem,a0l]
  refine a0c (show ACalls pg G a1j [li 9] (lb true) from a1z 9) rfl rfl ?_
  simp (disch:=omega) [go_sem]
  refine a0g (d0l args ins hl hal hi) (by simp [go_sem,a0p]) (by simp (disch:=omega) [go_sem]) ?_
  simp (disch:=omega) [go_sem]
 ·have hr:opR 10 args ins=if ins.length=1/\args.length=3 then a1u 10 args ins else bad 6:=by simp [opR,a0t,a1r,a08]
  rw [hr]
  clear hr
  refine a0i rfl ?_
  simp (disch:=omega) [go_sem,a0l]
  refine a0c (show ACalls pg G a1j [li 10] (lb true) from a1z 10) rfl rfl ?_
  simp (disch:=omega) [go_sem]
  refine a0g (c7x args ins hl hal hi) (by simp [go_sem,a0p]) (by simp (disch:=omega) [go_sem]) ?_
  simp (disch:=omega) [go_sem]
 ·have hr:opR 11 args ins=if ins.length=1/\args.length=1 then a1u 11 args ins else bad 6:=by simp [opR,a0t,a1r,a08]
  rw [hr]
  clear hr
  refine a0i rfl ?_
  simp (disch:=omega) [go_sem,a0l]
  refine a0c (show ACalls pg G a1j [li 11] (lb true) from a1z 11) rfl rfl ?_
  simp (disch:=omega) [go_sem]
  refine a0g (c7y args ins hl hal hi) (by simp [go_sem,a0p]) (by simp (disch:=omega) [go_sem]) ?_
  simp (disch:=omega) [go_sem]
 ·exact d7b args ins hl hal hi
 ·exact d7c args ins hl hal hi
 ·exact d7d args ins hl hal hi
 ·exact d7e args ins hl hal hi
 ·exact d7f args ins hl hal hi
 ·exact d7g args ins hl hal hi
 ·exact d7h args ins hl hal hi
 ·exact d7i args ins hl hal hi
 ·exact d7j args ins hl hal hi
 ·exact d7k args ins hl hal hi
end
end Go.Ideal.Tryz
end
section
namespace Go.Ideal.Tryz
attribute [local go_sem] eD eT eV eI eP
section
variable {G:GG} {bk:Nat->Nat×Nat} {Q:Exit->St->Prop} {st:St}
theorem e5l (sh:List Int) (w:Bool) (h:sh.length < 2 ^ 62):ACalls pg G b53 [.agg [slI sh,lb w]] (li (a27 sh w)):=by
 have hr:=a5x sh
 refine b2u rfl ?_
 simp (disch:=omega) [go_sem,a9w]
 refine a0c (b33 sh h) rfl rfl ?_
 cases w
 ·simp (disch:=omega) [go_sem,a27]
 ·simp (disch:=omega) [go_sem,a27,Int.mul_comm]
abbrev fE (e:Er):AV:=fl e.flt
theorem d4p {k:Int} {e:Er} (h:e.wb) (hn:e.isNil=false):(atE k e).flt=(eC e,true,k)/\eC e≠0:=by
 rcases h with rfl | ⟨g,hg,rfl⟩ | ⟨q,g,hg,rfl⟩
 ·simp [Er.isNil] at hn
 ·exact ⟨rfl,a69 g hg⟩
 ·exact ⟨rfl,a69 g hg⟩
theorem d0q {k:Int} {e:Er} (h:e.wb) (hn:e.isNil=false):ACalls pg G a8e [li (eC e),li k] (fE (atE k e)):=by
 have hp:=b1i G (eC e) k
 obtain ⟨h1,h2⟩:=d4p (k:=k) h hn
 rw [if_neg h2] at hp
 rw [show fE (atE k e)=c2e (eC e) true k by rw [fE,h1]]
 exact hp
theorem e9n {e:Er} (h:e.wb):eC e=0↔e.isNil=true:=by
 rcases h with rfl | ⟨g,hg,rfl⟩ | ⟨q,g,hg,rfl⟩
 ·exact ⟨fun _=>rfl,fun _=>rfl⟩
 ·exact ⟨fun h=>absurd h (a69 g hg),fun h=>by cases h⟩
 ·exact ⟨fun h=>absurd h (a69 g hg),fun h=>by cases h⟩
theorem e0x {k:Int} {e:Er} (h:e.wb):(atE k e).wb:=by
 rcases h with rfl | ⟨g,hg,rfl⟩ | ⟨q,g,hg,rfl⟩
 ·exact .inl rfl
 ·exact .inr (.inr ⟨k,g,hg,rfl⟩)
 ·exact .inr (.inr ⟨k,g,hg,rfl⟩)
end
end Go.Ideal.Tryz
end
section
namespace Go.Ideal.Tryz
def upI (n:Int):Int:=if 9223372036854775803 < n then 9223372036854775807 else (n+3) / 4*4
def b8s (off n:Int):Int:=if 9223372036854775807 - off < n then 9223372036854775807 else off+n
section
variable {G:GG}
theorem f5l (n:Int) (h:0<=n/\n < 2 ^ 63):ACalls pg G c8c [li n] (li (upI n)):=by
 refine c2v rfl ?_
 by_cases c:9223372036854775803 < n
 ·simp (disch:=omega) [go_sem,b7d,c,upI]
 ·have e:(n+4 - 1).tdiv 4=(n+3) / 4:=by rw [show n+4 - 1=n+3 by omega,Int.tdiv_eq_ediv_of_nonneg (by omega)]
  simp (disch:=omega) [go_sem,b7d,c,upI,e]
theorem d51 (off n:Int) (h:0<=off/\off < 2 ^ 63) (hn:0<=n/\n < 2 ^ 63):ACalls pg G c6u [li off,li n] (li (b8s off n)):=by
 refine c0l rfl ?_
 by_cases c:9223372036854775807 - off < n
 ·simp (disch:=omega) [go_sem,b40,c,b8s]
 ·simp (disch:=omega) [go_sem,b40,c,b8s]
end
end Go.Ideal.Tryz
end
