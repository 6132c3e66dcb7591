/- Part Qap of the proof: walks on a machine that is proved sound. -/
import Derived.Test.YtfncabcldhemkaaGreatDoorQak
set_option linter.unusedVariables false
set_option linter.unusedSimpArgs false
set_option maxHeartbeats 8000000
set_option maxRecDepth 200000
section
namespace Go.Ideal.Tryz
@[go_sem] theorem dgdTF {P:Program} {G:GG} {N:Nat} {aft:DA} {fps:List (List Nat×List Nat)} {K:St->Prop} {st:St} {d:Option Nat} {rest:List AO} {t:Nat} {f:FuncId} {args:List (Bool×X)}:d84 P G N aft (.lit (.bool true)) false t d f args rest fps K st=((∀ u∈t::d.toList,u < N)/\a99 aft.2 (a4j d st)/\a93 P G N aft rest (fps++[([t],d.toList)]) K (a4j d st)):=(rfl)
@[go_sem] theorem dgdFF {P:Program} {G:GG} {N:Nat} {aft:DA} {fps:List (List Nat×List Nat)} {K:St->Prop} {st:St} {d:Option Nat} {rest:List AO} {t:Nat} {f:FuncId} {args:List (Bool×X)}:d84 P G N aft (.lit (.bool false)) false t d f args rest fps K st=c64 P G N aft [t] d f args rest fps K st (gvs N (N+2) args (some st)):=(rfl)
attribute [local go_sem] eD eT eV e65 e66
section
variable {G:GG} {bk:Nat->Nat×Nat} {Q:Exit->St->Prop} {st:St}
theorem d0k (args:List Int) (ins:List Ds) (hl:ins.length < 2 ^ 40) (hal:args.length < 2 ^ 40) (hi:∀ d∈ins,d.shape.length < 2 ^ 40):ACalls pg G a09 [li 8,slI args,slD ins] (rAV (if ins.length=1/\args.length=0 then a1u 8 args ins else bad 6)):=by
 generalize hr0:(if ins.length=1/\args.length=0 then a1u 8 args ins else bad 6)=r0
 refine a02 rfl ?_
 simp (disch:=omega) [go_sem,a06]
 by_cases a0:args.length=0
 rotate_left
 ·have a0':¬ (args.length:Int)=0:=by omega
  rw [if_neg (fun k=>a0 k.2)] at hr0
  subst hr0
  have a0n:args≠[]:=by rintro rfl; exact a0 rfl
  simp (disch:=omega) [go_sem,a0,a0',a0n,bad,dn,eC6]
 obtain rfl:=List.eq_nil_of_length_eq_zero a0
 by_cases i0:ins.length=1
 rotate_left
 ·have i0':¬ (ins.length:Int)=1:=by omega
  rw [if_neg (fun k=>i0 k.1)] at hr0
  subst hr0
  simp (disch:=omega) [go_sem,i0,i0',bad,dn,eC6]
 obtain ⟨a,rfl⟩:=b6m i0
 have ha:=hi a (by simp)
 have hD:=a2w (G:=G) [a] (by simp) (by intro d hd; simp at hd; subst hd; omega)
 rw [if_pos ⟨rfl,rfl⟩] at hr0
 subst hr0
 simp (disch:=omega) [go_sem]
 refine a0c hD rfl rfl ?_
 by_cases hn:eC (a1g [a])=0
 rotate_left
 ·have hr:∀ r,a9b [a] r=(dn,a1g [a]):=fun r=>by
   have:(a1g [a]).isNil=false:=by
    rcases a0v [a] with e | e | e<;>rw [e] at hn ⊢
    ·exact absurd rfl hn
    ·rfl
    ·rfl
   rw [a21,chk,if_neg (by rw [this]; simp)]
  unfold a1u
  rw [hr]
  simp (disch:=omega) [go_sem,hn,dn]
 have hnil:a1g [a]= .nil:=by
  rcases a0v [a] with e | e | e<;>rw [e] at hn ⊢<;>exact absurd hn (by decide)
 have hm:∀ r,a9b [a] r=r:=fun r=>by rw [a21,hnil]; rfl
 unfold a1u
 rw [hm]
 clear hD hm
 simp (disch:=omega) [go_sem,hn]
 cases aw:a.wide
 all_goals (
  refine a0b ?_
  simp (disch:=omega) [go_sem,aw]
  refine a0d (by decide) fun s2 hs2 he2=> ?_
  simp (disch:=omega) [go_sem,hs2,aw]
  refine a0g (b14 a.shape _ (by omega)) (by simp [go_sem,a0p]) (by simp (disch:=omega) [go_sem,hs2,aw]) ?_
  simp (disch:=omega) [go_sem,hs2,aw,a1h,a1m,a7s])
theorem d0l (args:List Int) (ins:List Ds) (hl:ins.length < 2 ^ 40) (hal:args.length < 2 ^ 40) (hi:∀ d∈ins,d.shape.length < 2 ^ 40):ACalls pg G a09 [li 9,slI args,slD ins] (rAV (if ins.length=1/\args.length=2 then a1u 9 args ins else bad 6)):=by
 generalize hr0:(if ins.length=1/\args.length=2 then a1u 9 args ins else bad 6)=r0
 refine a02 rfl ?_
 simp (disch:=omega) [go_sem,a06]
 by_cases a0:args.length=2
 rotate_left
 ·have a0':¬ (args.length:Int)=2:=by omega
  rw [if_neg (fun k=>a0 k.2)] at hr0
  subst hr0
  simp (disch:=omega) [go_sem,a0,a0',bad,dn,eC6]
 obtain ⟨p,q,rfl⟩:=b2b a0
 by_cases i0:ins.length=1
 rotate_left
 ·have i0':¬ (ins.length:Int)=1:=by omega
  rw [if_neg (fun k=>i0 k.1)] at hr0
  subst hr0
  simp (disch:=omega) [go_sem,i0,i0',bad,dn,eC6]
 obtain ⟨a,rfl⟩:=b6m i0
 have ha:=hi a (by simp)
 have hD:=a2w (G:=G) [a] (by simp) (by intro d hd; simp at hd; subst hd; omega)
 rw [if_pos ⟨rfl,rfl⟩] at hr0
 subst hr0
 simp (disch:=omega) [go_sem]
 refine a0c hD rfl rfl ?_
 by_cases hn:eC (a1g [a])=0
 rotate_left
 ·have hr:∀ r,a9b [a] r=(dn,a1g [a]):=fun r=>by
   have:(a1g [a]).isNil=false:=by
    rcases a0v [a] with e | e | e<;>rw [e] at hn ⊢
    ·exact absurd rfl hn
    ·rfl
    ·rfl
   rw [a21,chk,if_neg (by rw [this]; simp)]
  unfold a1u
  rw [hr]
  simp (disch:=omega) [go_sem,hn,dn]
 have hnil:a1g [a]= .nil:=by
  rcases a0v [a] with e | e | e<;>rw [e] at hn ⊢<;>exact absurd hn (by decide)
 have hm:∀ r,a9b [a] r=r:=fun r=>by rw [a21,hnil]; rfl
 unfold a1u
 rw [hm]
 clear hD hm
 simp (disch:=omega) [go_sem,hn]
 have hp:=d2z (G:=G) p a.wide
 have hq:=d2z (G:=G) q a.wide
 rw [d2h] at hp hq
 cases aw:a.wide
 all_goals (
  rw [aw] at hp hq
  refine a0b ?_
  simp (disch:=omega) [go_sem,aw]
  refine a0d (by decide) fun s2 hs2 he2=> ?_
  simp (disch:=omega) [go_sem,hs2,aw]
  refine a0g (b14 a.shape _ (by omega)) (by simp [go_sem,a0p]) (by simp (disch:=omega) [go_sem,hs2,aw]) ?_
  simp (disch:=omega) [go_sem,hs2,aw]
  refine a0b ?_
  simp (disch:=omega) [go_sem,hs2,aw]
  refine a0m hp rfl rfl (by simp (disch:=omega) [go_sem,a0r,a3e]) [112] (by simp) (by simp (disch:=omega) [go_sem,hs2,aw]) ?_
  cases fp:b8j p _
  ·simp (disch:=omega) [go_sem,a0r,a3e,hs2,aw]
   refine a0d (by decide) fun s3 hs3 he3=> ?_
   simp (disch:=omega) [go_sem,hs3,hs2,aw,a1h,fp,bad,dn,eC3]
  simp (disch:=omega) [go_sem,a0r,a3e,hs2,aw]
  refine a0m hq rfl rfl (by simp (disch:=omega) [go_sem,a0r,a3e]) [120] (by simp) (by simp (disch:=omega) [go_sem,hs2,aw]) ?_
  cases fq:b8j q _
  ·simp (disch:=omega) [go_sem,a0r,a3e,hs2,aw]
   refine a0d (by decide) fun s3 hs3 he3=> ?_
   simp (disch:=omega) [go_sem,hs3,hs2,aw,a1h,fp,fq,bad,dn,eC3]
  by_cases pq:p<=q
  ·have pq':¬ q < p:=by omega
   simp (disch:=omega) [go_sem,a0r,a3e,hs2,aw,pq']
   refine a0d (by decide) fun s3 hs3 he3=> ?_
   simp (disch:=omega) [go_sem,hs3,hs2,aw,a1h,a1m,fp,fq,pq,pq',a7s]
  ·have pq':q < p:=by omega
   simp (disch:=omega) [go_sem,a0r,a3e,hs2,aw,pq']
   refine a0d (by decide) fun s3 hs3 he3=> ?_
   simp (disch:=omega) [go_sem,hs3,hs2,aw,a1h,fp,fq,pq,pq',bad,dn,eC3])
end
end Go.Ideal.Tryz
end
