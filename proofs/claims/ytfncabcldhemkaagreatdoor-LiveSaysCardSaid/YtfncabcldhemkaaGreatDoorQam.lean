/- Part Qam of the proof: walks on a machine that is proved sound. -/
import Derived.Test.YtfncabcldhemkaaGreatDoorQal
import Derived.Test.YtfncabcldhemkaaGreatDoorQak
import Derived.Test.YtfncabcldhemkaaGreatDoorQaj
set_option linter.unusedVariables false
set_option linter.unusedSimpArgs false
set_option maxHeartbeats 8000000
set_option maxRecDepth 200000
section
namespace Go.Ideal.Tryz
attribute [local go_sem] eD eT eV
section
variable {G:GG} {bk:Nat->Nat×Nat} {Q:Exit->St->Prop} {st:St}
theorem d62 (p q za:Int) (a b:Ds) (ha:a.shape.length < 2 ^ 40) (hb:b.shape.length < 2 ^ 40):ACalls pg G a91 [slI [p,q,za],.agg (eD a),.agg (eD b)] (rAV (b0n [p,q,za] a b)):=by
 have hD:=a2w (G:=G) [a,b] (by simp) (by intro d hd; simp at hd; rcases hd with rfl | rfl<;>omega)
 rw [show slD [a,b]= .sl 2 [slI a.shape,lb a.wide,slI b.shape,lb b.wide] from rfl] at hD
 refine a74 rfl ?_
 simp (disch:=omega) [go_sem,a5t,a6s,a0f]
 refine a0c hD rfl rfl ?_
 by_cases hn:eC (a1g [a,b])=0
 rotate_left
 ·have hr:b0n [p,q,za] a b=(dn,a1g [a,b]):=by
   have:(a1g [a,b]).isNil=false:=by
    rcases a0v [a,b] with e | e | e<;>rw [e] at hn ⊢
    ·exact absurd rfl hn
    ·rfl
    ·rfl
   show a9b [a,b] _=_
   rw [a21,chk,if_neg (by rw [this]; simp)]
  rw [hr]
  simp (disch:=omega) [go_sem,hn,dn]
 have hnil:a1g [a,b]= .nil:=by
  rcases a0v [a,b] with e | e | e<;>rw [e] at hn ⊢<;>exact absurd hn (by decide)
 obtain ⟨ea,eb⟩:=e1h hnil
 clear hD
 simp (disch:=omega) [go_sem,hn]
 have hbd:¬ (a.shape.length=3/\b.shape.length=4/\a.shape[2]! =b.shape[2]! /\a.wide=false/\b.wide=false)->b0n [p,q,za] a b=(dn,.s 6):=fun k=>by
  simp only [b0n,chk,ea,eb,Er.isNil,if_true,k,if_false]; rfl
 by_cases c1:a.shape.length=3
 ·obtain ⟨ash,aw⟩:=a
  obtain ⟨x,y,z,rfl⟩:=d4x c1
  by_cases c2:b.shape.length=4
  ·obtain ⟨bsh,bw⟩:=b
   obtain ⟨u,v,w,o,rfl⟩:=f4z c2
   by_cases c3:z=w
   ·cases aw
    ·cases bw
     ·have hgd:b0n [p,q,za] ⟨[x,y,z],false⟩ ⟨[u,v,w,o],false⟩=
       (if 1<=p/\p<=16/\0<=q/\q<=15/\a1k za=true then
        (if 0<=x+2*q - u/\0<=y+2*q - v then
         a6f [(x+2*q - u) / p+1,(y+2*q - v) / p+1,o] true else bad 6) else bad 3):=by
       simp only [b0n,chk,ea,eb,Er.isNil,if_true]; simp [c3]
      rw [hgd]
      clear hgd hbd
      have hx:=a4w ea x (by simp)
      have hy:=a4w ea y (by simp)
      have hu:=a4w eb u (by simp)
      have hv:=a4w eb v (by simp)
      refine a0b ?_
      simp (disch:=omega) [go_sem,c3]
      refine a0d (by decide) fun s2 hs2 hes2=> ?_
      simp (disch:=omega) [go_sem,hs2,c3]
      by_cases p1:p < 1
      ·rw [if_neg (by omega)]
       simp (disch:=omega) [go_sem,hs2,bad,dn,eC3,p1]
      by_cases p2:16 < p
      ·rw [if_neg (by omega)]
       simp (disch:=omega) [go_sem,hs2,bad,dn,eC3,p1,p2]
      by_cases p3:q < 0
      ·rw [if_neg (by omega)]
       simp (disch:=omega) [go_sem,hs2,bad,dn,eC3,p1,p2,p3]
      by_cases p4:15 < q
      ·rw [if_neg (by omega)]
       simp (disch:=omega) [go_sem,hs2,bad,dn,eC3,p1,p2,p3,p4]
      simp (disch:=omega) [go_sem,hs2,p1,p2,p3,p4]
      refine a0c (a86 za) rfl rfl ?_
      cases hnz:a1k za
      ·rw [if_neg (by simp)]
       simp (disch:=omega) [go_sem,hs2,p1,p2,p3,p4,bad,dn,eC3]
      rw [if_pos ⟨by omega,by omega,by omega,by omega,rfl⟩]
      simp (disch:=omega) [go_sem,hs2,p1,p2,p3,p4]
      by_cases p5:x+2*q < u
      ·rw [if_neg (by omega)]
       refine a0b ?_
       simp (disch:=omega) [go_sem,hs2,p5]
       refine a0d (by decide) fun s3 hs3 hes3=> ?_
       simp (disch:=omega) [go_sem,hs3,hs2,p5,bad,dn,eC6]
      by_cases p6:y+2*q < v
      ·rw [if_neg (by omega)]
       refine a0b ?_
       simp (disch:=omega) [go_sem,hs2,p5,p6]
       refine a0d (by decide) fun s3 hs3 hes3=> ?_
       simp (disch:=omega) [go_sem,hs3,hs2,p5,p6,bad,dn,eC6]
      rw [if_pos (by omega)]
      refine a0b ?_
      simp (disch:=omega) [go_sem,hs2,p5,p6]
      refine a0d (by decide) fun s3 hs3 hes3=> ?_
      simp (disch:=omega) [go_sem,hs3,hs2,p5,p6]
      have w1:=wq (x:=x+2*q - u) (y:=p) (by omega)
      have w2:=wq (x:=y+2*q - v) (y:=p) (by omega)
      refine a0b ?_
      simp (disch:=omega) [go_sem,hs3,hs2,w1]
      refine a0d (by decide) fun s4 hs4 hes4=> ?_
      simp (disch:=omega) [go_sem,hs4,hs3,hs2,w1]
      refine a0b ?_
      simp (disch:=omega) [go_sem,hs4,hs3,hs2,w2]
      refine a0d (by decide) fun s5 hs5 hes5=> ?_
      simp (disch:=omega) [go_sem,hs5,hs4,hs3,hs2,w2,a6s,a0f]
      refine a5w (b09 [(x+2*q - u) / p+1,(y+2*q - v) / p+1,o] true (by simp)) (by simp [go_sem,a0p]) ?_ ?_
      all_goals simp (disch:=omega) [go_sem,hs5,hs4,hs3,hs2]
     ·
      rw [hbd (by simp)]
      refine a0b ?_
      simp (disch:=omega) [go_sem,c3]
      refine a0d (by decide) fun s2 hs2 hes2=> ?_
      simp (disch:=omega) [go_sem,hs2,c3,dn,eC6]
    ·
     rw [hbd (by simp)]
     refine a0b ?_
     simp (disch:=omega) [go_sem,c3]
     refine a0d (by decide) fun s2 hs2 hes2=> ?_
     simp (disch:=omega) [go_sem,hs2,c3,dn,eC6]
   ·
    rw [hbd (by simp [c3])]
    cases aw
    all_goals cases bw
    all_goals (
     refine a0b ?_
     simp (disch:=omega) [go_sem,c3]
     refine a0d (by decide) fun s2 hs2 hes2=> ?_
     simp (disch:=omega) [go_sem,hs2,c3,dn,eC6])
  ·have c2':¬ (b.shape.length:Int)=4:=by omega
   rw [hbd (fun k=>c2 k.2.1)]
   refine a0b ?_
   simp (disch:=omega) [go_sem,c2']
   refine a0d (by decide) fun s2 hs2 hes2=> ?_
   simp (disch:=omega) [go_sem,hs2,c2',dn,eC6]
 ·have c1':¬ (a.shape.length:Int)=3:=by omega
  rw [hbd (fun k=>c1 k.1)]
  refine a0b ?_
  simp (disch:=omega) [go_sem,c1']
  refine a0d (by decide) fun s2 hs2 hes2=> ?_
  simp (disch:=omega) [go_sem,hs2,c1',dn,eC6]
end
end Go.Ideal.Tryz
end
