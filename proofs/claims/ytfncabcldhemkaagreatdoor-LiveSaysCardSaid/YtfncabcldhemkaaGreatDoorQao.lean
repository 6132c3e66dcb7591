/- Part Qao of the proof: walks on a machine that is proved sound. -/
import Derived.Test.YtfncabcldhemkaaGreatDoorQak
set_option linter.unusedVariables false
set_option linter.unusedSimpArgs false
set_option maxHeartbeats 8000000
set_option maxRecDepth 200000
section
namespace Go.Ideal.Tryz
attribute [local go_sem] eD eT eV e65 e66
section
variable {G:GG} {bk:Nat->Nat×Nat} {Q:Exit->St->Prop} {st:St}
theorem d0g (args:List Int) (ins:List Ds) (hl:ins.length < 2 ^ 40) (hal:args.length < 2 ^ 40) (hi:∀ d∈ins,d.shape.length < 2 ^ 40):ACalls pg G a09 [li 4,slI args,slD ins] (rAV (if ins.length=2/\args.length=0 then a1u 4 args ins else bad 6)):=by
 generalize hr0:(if ins.length=2/\args.length=0 then a1u 4 args ins else bad 6)=r0
 refine a02 rfl ?_
 simp (disch:=omega) [go_sem,a06]
 by_cases a0:args.length=0
 rotate_left
 ·have a0':¬ (args.length:Int)=0:=by omega
  rw [if_neg (fun k=>a0 k.2)] at hr0
  subst hr0
  have a0n:args≠[]:=by rintro rfl; exact a0 rfl
  simp (disch:=omega) [go_sem,a0,a0',a0n,bad,dn,eC6]
 obtain rfl:=List.eq_nil_of_length_eq_zero a0
 by_cases i0:ins.length=2
 rotate_left
 ·have i0':¬ (ins.length:Int)=2:=by omega
  rw [if_neg (fun k=>i0 k.1)] at hr0
  subst hr0
  simp (disch:=omega) [go_sem,i0,i0',bad,dn,eC6]
 obtain ⟨a,b,rfl⟩:=b2b i0
 have ha:=hi a (by simp)
 have hb:=hi b (by simp)
 have hD:=a2w (G:=G) [a,b] (by simp) (by intro d hd; simp at hd; rcases hd with rfl | rfl<;>omega)
 rw [if_pos ⟨rfl,rfl⟩] at hr0
 subst hr0
 simp (disch:=omega) [go_sem]
 refine a0c hD rfl rfl ?_
 by_cases hn:eC (a1g [a,b])=0
 rotate_left
 ·have hr:∀ r,a9b [a,b] r=(dn,a1g [a,b]):=fun r=>by
   have:(a1g [a,b]).isNil=false:=by
    rcases a0v [a,b] with e | e | e<;>rw [e] at hn ⊢
    ·exact absurd rfl hn
    ·rfl
    ·rfl
   rw [a21,chk,if_neg (by rw [this]; simp)]
  unfold a1u
  rw [hr]
  simp (disch:=omega) [go_sem,hn,dn]
 have hnil:a1g [a,b]= .nil:=by
  rcases a0v [a,b] with e | e | e<;>rw [e] at hn ⊢<;>exact absurd hn (by decide)
 have hm:∀ r,a9b [a,b] r=r:=fun r=>by rw [a21,hnil]; rfl
 unfold a1u
 rw [hm]
 clear hD hm
 simp (disch:=omega) [go_sem,hn]
 refine a0b ?_
 simp (disch:=omega) [go_sem]
 refine a0m (b21 a b (by omega)) rfl rfl (by simp (disch:=omega) [go_sem,a0r,a3e]) [81] (by simp) (by simp (disch:=omega) [go_sem]) ?_
 by_cases c:a=b
 ·simp (disch:=omega) [go_sem,a0r,a3e,c]
  refine a0d (by decide) fun s2 hs2 he2=> ?_
  simp (disch:=omega) [go_sem,hs2,c]
  refine a0g (b14 b.shape b.wide (by omega)) (by simp [go_sem,a0p]) (by simp (disch:=omega) [go_sem,hs2,c]) ?_
  simp (disch:=omega) [go_sem,hs2,c,a1h,a1m,a7s]
 ·simp (disch:=omega) [go_sem,a0r,a3e,c]
  refine a0d (by decide) fun s2 hs2 he2=> ?_
  simp (disch:=omega) [go_sem,hs2,c,bad,dn,eC6]
theorem d0h (args:List Int) (ins:List Ds) (hl:ins.length < 2 ^ 40) (hal:args.length < 2 ^ 40) (hi:∀ d∈ins,d.shape.length < 2 ^ 40):ACalls pg G a09 [li 5,slI args,slD ins] (rAV (if ins.length=2/\args.length=0 then a1u 5 args ins else bad 6)):=by
 generalize hr0:(if ins.length=2/\args.length=0 then a1u 5 args ins else bad 6)=r0
 refine a02 rfl ?_
 simp (disch:=omega) [go_sem,a06]
 by_cases a0:args.length=0
 rotate_left
 ·have a0':¬ (args.length:Int)=0:=by omega
  rw [if_neg (fun k=>a0 k.2)] at hr0
  subst hr0
  have a0n:args≠[]:=by rintro rfl; exact a0 rfl
  simp (disch:=omega) [go_sem,a0,a0',a0n,bad,dn,eC6]
 obtain rfl:=List.eq_nil_of_length_eq_zero a0
 by_cases i0:ins.length=2
 rotate_left
 ·have i0':¬ (ins.length:Int)=2:=by omega
  rw [if_neg (fun k=>i0 k.1)] at hr0
  subst hr0
  simp (disch:=omega) [go_sem,i0,i0',bad,dn,eC6]
 obtain ⟨a,b,rfl⟩:=b2b i0
 have ha:=hi a (by simp)
 have hb:=hi b (by simp)
 have hD:=a2w (G:=G) [a,b] (by simp) (by intro d hd; simp at hd; rcases hd with rfl | rfl<;>omega)
 rw [if_pos ⟨rfl,rfl⟩] at hr0
 subst hr0
 simp (disch:=omega) [go_sem]
 refine a0c hD rfl rfl ?_
 by_cases hn:eC (a1g [a,b])=0
 rotate_left
 ·have hr:∀ r,a9b [a,b] r=(dn,a1g [a,b]):=fun r=>by
   have:(a1g [a,b]).isNil=false:=by
    rcases a0v [a,b] with e | e | e<;>rw [e] at hn ⊢
    ·exact absurd rfl hn
    ·rfl
    ·rfl
   rw [a21,chk,if_neg (by rw [this]; simp)]
  unfold a1u
  rw [hr]
  simp (disch:=omega) [go_sem,hn,dn]
 have hnil:a1g [a,b]= .nil:=by
  rcases a0v [a,b] with e | e | e<;>rw [e] at hn ⊢<;>exact absurd hn (by decide)
 have hm:∀ r,a9b [a,b] r=r:=fun r=>by rw [a21,hnil]; rfl
 unfold a1u
 rw [hm]
 clear hD hm
 simp (disch:=omega) [go_sem,hn]
 refine a0b ?_
 simp (disch:=omega) [go_sem]
 refine a0m (b21 a b (by omega)) rfl rfl (by simp (disch:=omega) [go_sem,a0r,a3e]) [81] (by simp) (by simp (disch:=omega) [go_sem]) ?_
 by_cases c:a=b
 ·simp (disch:=omega) [go_sem,a0r,a3e,c]
  refine a0d (by decide) fun s2 hs2 he2=> ?_
  simp (disch:=omega) [go_sem,hs2,c]
  refine a0g (b14 b.shape b.wide (by omega)) (by simp [go_sem,a0p]) (by simp (disch:=omega) [go_sem,hs2,c]) ?_
  simp (disch:=omega) [go_sem,hs2,c,a1h,a1m,a7s]
 ·simp (disch:=omega) [go_sem,a0r,a3e,c]
  refine a0d (by decide) fun s2 hs2 he2=> ?_
  simp (disch:=omega) [go_sem,hs2,c,bad,dn,eC6]
theorem d0i (args:List Int) (ins:List Ds) (hl:ins.length < 2 ^ 40) (hal:args.length < 2 ^ 40) (hi:∀ d∈ins,d.shape.length < 2 ^ 40):ACalls pg G a09 [li 6,slI args,slD ins] (rAV (if ins.length=2/\args.length=0 then a1u 6 args ins else bad 6)):=by
 generalize hr0:(if ins.length=2/\args.length=0 then a1u 6 args ins else bad 6)=r0
 refine a02 rfl ?_
 simp (disch:=omega) [go_sem,a06]
 by_cases a0:args.length=0
 rotate_left
 ·have a0':¬ (args.length:Int)=0:=by omega
  rw [if_neg (fun k=>a0 k.2)] at hr0
  subst hr0
  have a0n:args≠[]:=by rintro rfl; exact a0 rfl
  simp (disch:=omega) [go_sem,a0,a0',a0n,bad,dn,eC6]
 obtain rfl:=List.eq_nil_of_length_eq_zero a0
 by_cases i0:ins.length=2
 rotate_left
 ·have i0':¬ (ins.length:Int)=2:=by omega
  rw [if_neg (fun k=>i0 k.1)] at hr0
  subst hr0
  simp (disch:=omega) [go_sem,i0,i0',bad,dn,eC6]
 obtain ⟨a,b,rfl⟩:=b2b i0
 have ha:=hi a (by simp)
 have hb:=hi b (by simp)
 have hD:=a2w (G:=G) [a,b] (by simp) (by intro d hd; simp at hd; rcases hd with rfl | rfl<;>omega)
 rw [if_pos ⟨rfl,rfl⟩] at hr0
 subst hr0
 simp (disch:=omega) [go_sem]
 refine a0c hD rfl rfl ?_
 by_cases hn:eC (a1g [a,b])=0
 rotate_left
 ·have hr:∀ r,a9b [a,b] r=(dn,a1g [a,b]):=fun r=>by
   have:(a1g [a,b]).isNil=false:=by
    rcases a0v [a,b] with e | e | e<;>rw [e] at hn ⊢
    ·exact absurd rfl hn
    ·rfl
    ·rfl
   rw [a21,chk,if_neg (by rw [this]; simp)]
  unfold a1u
  rw [hr]
  simp (disch:=omega) [go_sem,hn,dn]
 have hnil:a1g [a,b]= .nil:=by
  rcases a0v [a,b] with e | e | e<;>rw [e] at hn ⊢<;>exact absurd hn (by decide)
 have hm:∀ r,a9b [a,b] r=r:=fun r=>by rw [a21,hnil]; rfl
 unfold a1u
 rw [hm]
 clear hD hm
 simp (disch:=omega) [go_sem,hn]
 refine a0b ?_
 simp (disch:=omega) [go_sem]
 refine a0m (b21 a b (by omega)) rfl rfl (by simp (disch:=omega) [go_sem,a0r,a3e]) [81] (by simp) (by simp (disch:=omega) [go_sem]) ?_
 by_cases c:a=b
 ·simp (disch:=omega) [go_sem,a0r,a3e,c]
  refine a0d (by decide) fun s2 hs2 he2=> ?_
  simp (disch:=omega) [go_sem,hs2,c]
  refine a0g (b14 b.shape b.wide (by omega)) (by simp [go_sem,a0p]) (by simp (disch:=omega) [go_sem,hs2,c]) ?_
  simp (disch:=omega) [go_sem,hs2,c,a1h,a1m,a7s]
 ·simp (disch:=omega) [go_sem,a0r,a3e,c]
  refine a0d (by decide) fun s2 hs2 he2=> ?_
  simp (disch:=omega) [go_sem,hs2,c,bad,dn,eC6]
theorem d0j (args:List Int) (ins:List Ds) (hl:ins.length < 2 ^ 40) (hal:args.length < 2 ^ 40) (hi:∀ d∈ins,d.shape.length < 2 ^ 40):ACalls pg G a09 [li 7,slI args,slD ins] (rAV (if ins.length=2/\args.length=0 then a1u 7 args ins else bad 6)):=by
 generalize hr0:(if ins.length=2/\args.length=0 then a1u 7 args ins else bad 6)=r0
 refine a02 rfl ?_
 simp (disch:=omega) [go_sem,a06]
 by_cases a0:args.length=0
 rotate_left
 ·have a0':¬ (args.length:Int)=0:=by omega
  rw [if_neg (fun k=>a0 k.2)] at hr0
  subst hr0
  have a0n:args≠[]:=by rintro rfl; exact a0 rfl
  simp (disch:=omega) [go_sem,a0,a0',a0n,bad,dn,eC6]
 obtain rfl:=List.eq_nil_of_length_eq_zero a0
 by_cases i0:ins.length=2
 rotate_left
 ·have i0':¬ (ins.length:Int)=2:=by omega
  rw [if_neg (fun k=>i0 k.1)] at hr0
  subst hr0
  simp (disch:=omega) [go_sem,i0,i0',bad,dn,eC6]
 obtain ⟨a,b,rfl⟩:=b2b i0
 have ha:=hi a (by simp)
 have hb:=hi b (by simp)
 have hD:=a2w (G:=G) [a,b] (by simp) (by intro d hd; simp at hd; rcases hd with rfl | rfl<;>omega)
 rw [if_pos ⟨rfl,rfl⟩] at hr0
 subst hr0
 simp (disch:=omega) [go_sem]
 refine a0c hD rfl rfl ?_
 by_cases hn:eC (a1g [a,b])=0
 rotate_left
 ·have hr:∀ r,a9b [a,b] r=(dn,a1g [a,b]):=fun r=>by
   have:(a1g [a,b]).isNil=false:=by
    rcases a0v [a,b] with e | e | e<;>rw [e] at hn ⊢
    ·exact absurd rfl hn
    ·rfl
    ·rfl
   rw [a21,chk,if_neg (by rw [this]; simp)]
  unfold a1u
  rw [hr]
  simp (disch:=omega) [go_sem,hn,dn]
 have hnil:a1g [a,b]= .nil:=by
  rcases a0v [a,b] with e | e | e<;>rw [e] at hn ⊢<;>exact absurd hn (by decide)
 have hm:∀ r,a9b [a,b] r=r:=fun r=>by rw [a21,hnil]; rfl
 unfold a1u
 rw [hm]
 clear hD hm
 simp (disch:=omega) [go_sem,hn]
 refine a0b ?_
 simp (disch:=omega) [go_sem]
 refine a0m (b21 a b (by omega)) rfl rfl (by simp (disch:=omega) [go_sem,a0r,a3e]) [81] (by simp) (by simp (disch:=omega) [go_sem]) ?_
 by_cases c:a=b
 ·simp (disch:=omega) [go_sem,a0r,a3e,c]
  refine a0d (by decide) fun s2 hs2 he2=> ?_
  simp (disch:=omega) [go_sem,hs2,c]
  refine a0g (b14 b.shape b.wide (by omega)) (by simp [go_sem,a0p]) (by simp (disch:=omega) [go_sem,hs2,c]) ?_
  simp (disch:=omega) [go_sem,hs2,c,a1h,a1m,a7s]
 ·simp (disch:=omega) [go_sem,a0r,a3e,c]
  refine a0d (by decide) fun s2 hs2 he2=> ?_
  simp (disch:=omega) [go_sem,hs2,c,bad,dn,eC6]
end
end Go.Ideal.Tryz
end
