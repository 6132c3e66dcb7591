/- Part Qal of the proof: walks on a machine that is proved sound. -/
import Derived.Test.YtfncabcldhemkaaGreatDoorQak
set_option linter.unusedVariables false
set_option linter.unusedSimpArgs false
set_option maxHeartbeats 4000000
set_option maxRecDepth 200000
section
namespace Go.Ideal.Tryz
attribute [local go_sem] eD eT eV
section
variable {G:GG} {bk:Nat->Nat×Nat} {Q:Exit->St->Prop} {st:St}
theorem e4x (za zb:Int) (a b:Ds) (ha:a.shape.length < 2 ^ 40) (hb:b.shape.length < 2 ^ 40):ACalls pg G b0c [li za,li zb,.agg (eD a),.agg (eD b)] (rAV (c3v za zb a b)):=by
 have hD:=a2w (G:=G) [a,b] (by simp) (by intro d hd; simp at hd; rcases hd with rfl | rfl<;>omega)
 rw [show slD [a,b]= .sl 2 [slI a.shape,lb a.wide,slI b.shape,lb b.wide] from rfl] at hD
 refine a8v rfl ?_
 simp (disch:=omega) [go_sem,a6b,a6s,a0f]
 refine a0c hD rfl rfl ?_
 by_cases hn:eC (a1g [a,b])=0
 rotate_left
 ·have hr:c3v za zb a b=(dn,a1g [a,b]):=by
   have:(a1g [a,b]).isNil=false:=by
    rcases a0v [a,b] with e | e | e<;>rw [e] at hn ⊢
    ·exact absurd rfl hn
    ·rfl
    ·rfl
   show a9b [a,b] _=_
   rw [a21,chk,if_neg (by rw [this]; simp)]
  rw [hr]
  simp (disch:=omega) [go_sem,hn,dn]
 have hnil:a1g [a,b]= .nil:=by
  rcases a0v [a,b] with e | e | e<;>rw [e] at hn ⊢<;>exact absurd hn (by decide)
 have hm:c3v za zb a b=(if a.shape.length=2/\b.shape.length=2/\a.shape[1]! =b.shape[0]! /\a.wide=false/\b.wide=false then
   (if (a1k za&&a1k zb)=true then a6f [a.shape[0]!,b.shape[1]!] true else bad 3) else bad 6):=by
  show a9b [a,b] _=_
  rw [a21,hnil]; rfl
 clear hD
 simp (disch:=omega) [go_sem,hn]
 have hbd:¬ (a.shape.length=2/\b.shape.length=2/\a.shape[1]! =b.shape[0]! /\a.wide=false/\b.wide=false)->c3v za zb a b=(dn,.s 6):=fun k=>by rw [hm,if_neg k]; rfl
 by_cases c1:a.shape.length=2
 ·obtain ⟨ash,aw⟩:=a
  obtain ⟨x,y,rfl⟩:=b2b c1
  by_cases c2:b.shape.length=2
  ·obtain ⟨bsh,bw⟩:=b
   obtain ⟨u,v,rfl⟩:=b2b c2
   by_cases c3:y=u
   ·cases aw
    ·cases bw
     ·have hgd:c3v za zb ⟨[x,y],false⟩ ⟨[u,v],false⟩=if (a1k za&&a1k zb)=true then a6f [x,v] true else bad 3:=by
       rw [hm]; simp [c3]
      rw [hgd]
      clear hgd
      refine a0b ?_
      simp (disch:=omega) [go_sem,c3]
      refine a0d (by decide) fun s2 hs2 hes2=> ?_
      simp (disch:=omega) [go_sem,hs2,c3]
      refine a0c (a86 za) rfl rfl ?_
      cases ha:a1k za
      ·simp (disch:=omega) [go_sem,hs2,bad,dn,eC3]
      simp (disch:=omega) [go_sem,hs2]
      refine a0c (a86 zb) rfl rfl ?_
      cases hb:a1k zb
      ·simp (disch:=omega) [go_sem,hs2,bad,dn,eC3]
      simp (disch:=omega) [go_sem,hs2]
      refine a0b ?_
      simp (disch:=omega) [go_sem,hs2,a6s,a0f]
      have hse:=b09 (G:=G) [x,v] true (by simp)
      by_cases he:(a01 [x,v]).isNil=true
      ·have e2:a6f [x,v] true=(⟨[x,v],true⟩,.nil):=by simp [a6f,chk,he]
       rw [e2] at hse ⊢
       refine b3i hse (by simp [go_sem,a0p]) (by simp [go_sem,a1l,a18]) (by simp (disch:=omega) [go_sem,a0r,a3e]) [68,67] (by simp) (by simp (disch:=omega) [go_sem,hs2]) ?_
       simp (disch:=omega) [go_sem,a0r,a3e,hs2]
       refine a0d (by decide) fun s3 hs3 hes3=> ?_
       simp (disch:=omega) [go_sem,hs3,hs2,dn]
      ·have e2:a6f [x,v] true=(dn,a01 [x,v]):=by simp [a6f,chk,he]
       rw [e2] at hse ⊢
       refine a0m hse (by simp [go_sem,a0p]) (by simp [go_sem,a1l,a18,dn]) (by simp (disch:=omega) [go_sem,a0r,a3e]) [68,67] (by simp) (by simp (disch:=omega) [go_sem,hs2]) ?_
       simp (disch:=omega) [go_sem,a0r,a3e,hs2]
       refine a0d (by decide) fun s3 hs3 hes3=> ?_
       simp (disch:=omega) [go_sem,hs3,hs2,dn]
     ·
      rw [hbd (by simp)]
      refine a0b ?_
      simp (disch:=omega) [go_sem,c3]
      refine a0d (by decide) fun s2 hs2 hes2=> ?_
      simp (disch:=omega) [go_sem,hs2,c3,dn,eC6]
    ·
     rw [hbd (by simp)]
     refine a0b ?_
     simp (disch:=omega) [go_sem,c3]
     refine a0d (by decide) fun s2 hs2 hes2=> ?_
     simp (disch:=omega) [go_sem,hs2,c3,dn,eC6]
   ·
    rw [hbd (by simp [c3])]
    cases aw
    all_goals cases bw
    all_goals (
     refine a0b ?_
     simp (disch:=omega) [go_sem,c3]
     refine a0d (by decide) fun s2 hs2 hes2=> ?_
     simp (disch:=omega) [go_sem,hs2,c3,dn,eC6])
  ·have c2':¬ (b.shape.length:Int)=2:=by omega
   rw [hbd (fun k=>c2 k.2.1)]
   refine a0b ?_
   simp (disch:=omega) [go_sem,c2']
   refine a0d (by decide) fun s2 hs2 hes2=> ?_
   simp (disch:=omega) [go_sem,hs2,c2',dn,eC6]
 ·have c1':¬ (a.shape.length:Int)=2:=by omega
  rw [hbd (fun k=>c1 k.1)]
  refine a0b ?_
  simp (disch:=omega) [go_sem,c1']
  refine a0d (by decide) fun s2 hs2 hes2=> ?_
  simp (disch:=omega) [go_sem,hs2,c1',dn,eC6]
end
end Go.Ideal.Tryz
end
