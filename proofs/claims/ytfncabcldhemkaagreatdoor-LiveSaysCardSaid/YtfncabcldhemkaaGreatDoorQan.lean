/- Part Qan of the proof: walks on a machine that is proved sound. -/
import Derived.Test.YtfncabcldhemkaaGreatDoorQak
import Derived.Test.YtfncabcldhemkaaGreatDoorQai
set_option linter.unusedVariables false
set_option linter.unusedSimpArgs false
set_option maxHeartbeats 8000000
set_option maxRecDepth 200000
section
namespace Go.Ideal.Tryz
attribute [local go_sem] eD eT eV
section
variable {G:GG} {bk:Nat->Nat×Nat} {Q:Exit->St->Prop} {st:St}
theorem d61 {x y z n s:Int} (e:a01 [x,y,z]= .nil) (hn:1<=n) (hs:1<=s) (h1:n<=x) (h2:n<=y):a01 [(x - n) / s+1,(y - n) / s+1,z]= .nil:=by
 have hx:=a4w e x (by simp)
 have hy:=a4w e y (by simp)
 have hz:=a4w e z (by simp)
 have ok:=a52.1 e
 have q1:=Int.ediv_nonneg (show 0<=x - n by omega) (show 0<=s by omega)
 have q2:=Int.ediv_nonneg (show 0<=y - n by omega) (show 0<=s by omega)
 have q3:=Int.ediv_le_self s (show 0<=x - n by omega)
 have q4:=Int.ediv_le_self s (show 0<=y - n by omega)
 generalize (x - n) / s=A at *
 generalize (y - n) / s=B at *
 refine a52.2 ?_
 simp [c02,a3x,a45] at ok ⊢
 have m1:(A+1)*(B+1)<=x*y:=Int.mul_le_mul (by omega) (by omega) (by omega) (by omega)
 have m2:(A+1)*(B+1)*z<=x*y*z:=Int.mul_le_mul_of_nonneg_right m1 (by omega)
 omega
theorem d0r (n s:Int) (a:Ds) (ha:a.shape.length < 2 ^ 40):ACalls pg G a92 [slI [n,s],.agg (eD a)] (rAV (b20 [n,s] a)):=by
 have c:=a62 (G:=G) a.shape a.wide (by omega)
 rw [c4g] at c
 refine a75 rfl ?_
 simp (disch:=omega) [go_sem,a5u]
 refine a0c c rfl rfl ?_
 by_cases hn:(a01 a.shape).isNil=true
 rotate_left
 ·have h0:¬ eC (a01 a.shape)=0:=fun k=>hn ((a8j a.shape).1 k)
  simp (disch:=omega) [go_sem,h0,b20,chk,hn,dn]
 have h0:=(a8j a.shape).2 hn
 have ea:=a49.1 hn
 clear c
 simp (disch:=omega) [go_sem,h0]
 by_cases c1:a.shape.length=3
 rotate_left
 ·have c1':¬ (a.shape.length:Int)=3:=by omega
  simp (disch:=omega) [go_sem,c1',b20,chk,ea,Er.isNil,c1,bad,dn,eC6]
 obtain ⟨ash,aw⟩:=a
 obtain ⟨x,y,z,rfl⟩:=d4x c1
 have hx:=a4w ea x (by simp)
 have hy:=a4w ea y (by simp)
 have hgd:b20 [n,s] ⟨[x,y,z],aw⟩=if 1<=n/\n<=16/\1<=s/\s<=16 then
   (if 0<=x - n/\0<=y - n then (⟨[(x - n) / s+1,(y - n) / s+1,z],aw⟩,.nil) else bad 6) else bad 3:=by
  simp [b20,chk,ea,Er.isNil]
 rw [hgd]
 clear hgd
 by_cases p1:n < 1
 ·rw [if_neg (by omega)]
  simp (disch:=omega) [go_sem,bad,dn,eC3,p1]
 by_cases p2:16 < n
 ·rw [if_neg (by omega)]
  simp (disch:=omega) [go_sem,bad,dn,eC3,p1,p2]
 by_cases p3:s < 1
 ·rw [if_neg (by omega)]
  simp (disch:=omega) [go_sem,bad,dn,eC3,p1,p2,p3]
 by_cases p4:16 < s
 ·rw [if_neg (by omega)]
  simp (disch:=omega) [go_sem,bad,dn,eC3,p1,p2,p3,p4]
 rw [if_pos (by omega)]
 simp (disch:=omega) [go_sem,p1,p2,p3,p4]
 by_cases p5:x < n
 ·rw [if_neg (by omega)]
  simp (disch:=omega) [go_sem,p5,bad,dn,eC6]
 by_cases p6:y < n
 ·rw [if_neg (by omega)]
  simp (disch:=omega) [go_sem,p5,p6,bad,dn,eC6]
 rw [if_pos (by omega)]
 have w1:=wq (x:=x - n) (y:=s) (by omega)
 have w2:=wq (x:=y - n) (y:=s) (by omega)
 have hok:=d61 ea (by omega:1<=n) (by omega:1<=s) (by omega) (by omega)
 have hse:a6f [(x - n) / s+1,(y - n) / s+1,z] aw=(⟨[(x - n) / s+1,(y - n) / s+1,z],aw⟩,.nil):=by simp [a6f,chk,hok,Er.isNil]
 rw [<-hse]
 clear hse hok
 simp (disch:=omega) [go_sem,p5,p6]
 refine a0b ?_
 simp (disch:=omega) [go_sem,a6s,a0f,w1,w2]
 have hse:=b09 (G:=G) [(x - n) / s+1,(y - n) / s+1,z] aw (by simp)
 by_cases he:(a01 [(x - n) / s+1,(y - n) / s+1,z]).isNil=true
 ·have e2:a6f [(x - n) / s+1,(y - n) / s+1,z] aw=(⟨[(x - n) / s+1,(y - n) / s+1,z],aw⟩,.nil):=by simp [a6f,chk,he]
  rw [e2] at hse ⊢
  refine b3i hse (by simp [go_sem,a0p]) (by simp [go_sem,a1l,a18]) (by simp (disch:=omega) [go_sem,a0r,a3e]) [86,85] (by simp) (by simp (disch:=omega) [go_sem,w1,w2]) ?_
  simp (disch:=omega) [go_sem,a0r,a3e,w1,w2]
  refine a0d (by decide) fun s3 hs3 hes3=> ?_
  simp (disch:=omega) [go_sem,hs3,dn]
 ·have e2:a6f [(x - n) / s+1,(y - n) / s+1,z] aw=(dn,a01 [(x - n) / s+1,(y - n) / s+1,z]):=by simp [a6f,chk,he]
  rw [e2] at hse ⊢
  refine a0m hse (by simp [go_sem,a0p]) (by simp [go_sem,a1l,a18,dn]) (by simp (disch:=omega) [go_sem,a0r,a3e]) [86,85] (by simp) (by simp (disch:=omega) [go_sem,w1,w2]) ?_
  simp (disch:=omega) [go_sem,a0r,a3e,w1,w2]
  refine a0d (by decide) fun s3 hs3 hes3=> ?_
  simp (disch:=omega) [go_sem,hs3,dn]
theorem d3r (a b:Ds) (ha:a.shape.length < 2 ^ 40) (hb:b.shape.length < 2 ^ 40):ACalls pg G a2q [li 16,slD [a,b]] (rAV (a42 16 [a,b])):=by
 have hD:=a2w (G:=G) [a,b] (by simp) (by intro d hd; simp at hd; rcases hd with rfl | rfl<;>omega)
 rw [show slD [a,b]= .sl 2 [slI a.shape,lb a.wide,slI b.shape,lb b.wide] from rfl] at hD ⊢
 refine a15 rfl ?_
 simp (disch:=omega) [go_sem,a11,a6s,a0f]
 refine a0c hD rfl rfl ?_
 by_cases hn:eC (a1g [a,b])=0
 rotate_left
 ·have hr:a42 16 [a,b]=(dn,a1g [a,b]):=by
   have:(a1g [a,b]).isNil=false:=by
    rcases a0v [a,b] with e | e | e<;>rw [e] at hn ⊢
    ·exact absurd rfl hn
    ·rfl
    ·rfl
   unfold a42
   rw [a21,chk,if_neg (by rw [this]; simp)]
  rw [hr]
  simp (disch:=omega) [go_sem,hn,dn]
 have hnil:a1g [a,b]= .nil:=by
  rcases a0v [a,b] with e | e | e<;>rw [e] at hn ⊢<;>exact absurd hn (by decide)
 have hm:a42 16 [a,b]=(if (a1i 16 [a,b]).2=true then a6f (a1i 16 [a,b]).1.shape (a1i 16 [a,b]).1.wide else bad 6):=by
  unfold a42
  rw [a21,hnil]; rfl
 rw [hm]
 clear hD hm
 simp (disch:=omega) [go_sem,hn]
 cases aw:a.wide
 ·by_cases c1:0 < a.shape.length
  ·have c1':¬ (a.shape.length:Int) < 1:=by omega
   simp (disch:=omega) [go_sem,aw,c1',a6s,a0f]
   refine a0c (b21 b ⟨[256],true⟩ (by omega)) rfl rfl ?_
   by_cases c2:b=⟨[256],true⟩
   ·simp (disch:=omega) [go_sem,aw,c2,a1i,c1]
    refine a0g (b09 a.shape false (by omega)) (by simp [go_sem,a0p]) (by simp (disch:=omega) [go_sem,aw]) ?_
    simp (disch:=omega) [go_sem,aw]
   ·simp (disch:=omega) [go_sem,aw,c2,a1i,c1,bad,dn,eC6]
  ·have c1':(a.shape.length:Int) < 1:=by omega
   simp (disch:=omega) [go_sem,aw,c1',a1i,c1,bad,dn,eC6]
 ·simp (disch:=omega) [go_sem,aw,a1i,bad,dn,eC6]
theorem d3s (a b:Ds) (ha:a.shape.length < 2 ^ 40) (hb:b.shape.length < 2 ^ 40):ACalls pg G a2q [li 17,slD [a,b]] (rAV (a42 17 [a,b])):=by
 have hD:=a2w (G:=G) [a,b] (by simp) (by intro d hd; simp at hd; rcases hd with rfl | rfl<;>omega)
 rw [show slD [a,b]= .sl 2 [slI a.shape,lb a.wide,slI b.shape,lb b.wide] from rfl] at hD ⊢
 refine a15 rfl ?_
 simp (disch:=omega) [go_sem,a11,a6s,a0f]
 refine a0c hD rfl rfl ?_
 by_cases hn:eC (a1g [a,b])=0
 rotate_left
 ·have hr:a42 17 [a,b]=(dn,a1g [a,b]):=by
   have:(a1g [a,b]).isNil=false:=by
    rcases a0v [a,b] with e | e | e<;>rw [e] at hn ⊢
    ·exact absurd rfl hn
    ·rfl
    ·rfl
   unfold a42
   rw [a21,chk,if_neg (by rw [this]; simp)]
  rw [hr]
  simp (disch:=omega) [go_sem,hn,dn]
 have hnil:a1g [a,b]= .nil:=by
  rcases a0v [a,b] with e | e | e<;>rw [e] at hn ⊢<;>exact absurd hn (by decide)
 have hm:a42 17 [a,b]=(if (a1i 17 [a,b]).2=true then a6f (a1i 17 [a,b]).1.shape (a1i 17 [a,b]).1.wide else bad 6):=by
  unfold a42
  rw [a21,hnil]; rfl
 rw [hm]
 clear hD hm
 simp (disch:=omega) [go_sem,hn]
 by_cases c1:a.shape.length=2
 ·obtain ⟨ash,aw⟩:=a
  obtain ⟨x,y,rfl⟩:=b2b c1
  by_cases c2:b.shape.length=1
  ·obtain ⟨bsh,bw⟩:=b
   obtain ⟨u,rfl⟩:=b6m c2
   cases bw
   ·simp (disch:=omega) [go_sem,a1i,bad,dn,eC6]
   ·simp (disch:=omega) [go_sem,a1i]
    refine a0b ?_
    simp (disch:=omega) [go_sem,a6s,a0f]
    have hse:=b09 (G:=G) [u,y] aw (by simp)
    by_cases he:(a01 [u,y]).isNil=true
    ·have e2:a6f [u,y] aw=(⟨[u,y],aw⟩,.nil):=by simp [a6f,chk,he]
     rw [e2] at hse ⊢
     refine b3i hse (by simp [go_sem,a0p]) (by simp [go_sem,a1l,a18]) (by simp (disch:=omega) [go_sem,a0r,a3e]) [92,91] (by simp) (by simp (disch:=omega) [go_sem]) ?_
     simp (disch:=omega) [go_sem,a0r,a3e]
     refine a0d (by decide) fun s3 hs3 hes3=> ?_
     simp (disch:=omega) [go_sem,hs3,dn]
    ·have e2:a6f [u,y] aw=(dn,a01 [u,y]):=by simp [a6f,chk,he]
     rw [e2] at hse ⊢
     refine a0m hse (by simp [go_sem,a0p]) (by simp [go_sem,a1l,a18,dn]) (by simp (disch:=omega) [go_sem,a0r,a3e]) [92,91] (by simp) (by simp (disch:=omega) [go_sem]) ?_
     simp (disch:=omega) [go_sem,a0r,a3e]
     refine a0d (by decide) fun s3 hs3 hes3=> ?_
     simp (disch:=omega) [go_sem,hs3,dn]
  ·have c2':¬ (b.shape.length:Int)=1:=by omega
   simp (disch:=omega) [go_sem,c2',a1i,c2,bad,dn,eC6]
 ·have c1':¬ (a.shape.length:Int)=2:=by omega
  simp (disch:=omega) [go_sem,c1',a1i,c1,bad,dn,eC6]
theorem d3t (a:Ds) (ha:a.shape.length < 2 ^ 40):ACalls pg G a2q [li 19,slD [a]] (rAV (a42 19 [a])):=by
 have hD:=a2w (G:=G) [a] (by simp) (by intro d hd; simp at hd; subst hd; omega)
 rw [show slD [a]= .sl 1 [slI a.shape,lb a.wide] from rfl] at hD ⊢
 refine a15 rfl ?_
 simp (disch:=omega) [go_sem,a11,a6s,a0f]
 refine a0c hD rfl rfl ?_
 by_cases hn:eC (a1g [a])=0
 rotate_left
 ·have hr:a42 19 [a]=(dn,a1g [a]):=by
   have:(a1g [a]).isNil=false:=by
    rcases a0v [a] with e | e | e<;>rw [e] at hn ⊢
    ·exact absurd rfl hn
    ·rfl
    ·rfl
   unfold a42
   rw [a21,chk,if_neg (by rw [this]; simp)]
  rw [hr]
  simp (disch:=omega) [go_sem,hn,dn]
 have hnil:a1g [a]= .nil:=by
  rcases a0v [a] with e | e | e<;>rw [e] at hn ⊢<;>exact absurd hn (by decide)
 have hm:a42 19 [a]=(if (a1i 19 [a]).2=true then a6f (a1i 19 [a]).1.shape (a1i 19 [a]).1.wide else bad 6):=by
  unfold a42
  rw [a21,hnil]; rfl
 rw [hm]
 clear hD hm
 simp (disch:=omega) [go_sem,hn]
 by_cases c1:a.shape.length=0
 ·have c1':(a.shape.length:Int) < 1:=by omega
  simp (disch:=omega) [go_sem,c1',a1i,c1,bad,dn,eC6]
 ·have c1':¬ (a.shape.length:Int) < 1:=by omega
  have hdl:List.take (a.shape.length - 1) (a.shape.map li)=a.shape.dropLast.map li:=by rw [<-List.map_take,List.dropLast_eq_take]
  have hse:=b09 (G:=G) a.shape.dropLast true (by simp; omega)
  rw [show slI a.shape.dropLast= .sl (a.shape.length - 1) ((a.shape.map li).dropLast) by simp [List.map_dropLast]] at hse
  simp (disch:=omega) [go_sem,c1',a1i,c1,a6s,a0f,hdl]
  refine a0g hse (by simp [go_sem,a0p]) (by simp (disch:=omega) [go_sem]) ?_
  simp (disch:=omega) [go_sem]
theorem d3u (a:Ds) (ha:a.shape.length < 2 ^ 40):ACalls pg G a2q [li 20,slD [a]] (rAV (a42 20 [a])):=by
 have hD:=a2w (G:=G) [a] (by simp) (by intro d hd; simp at hd; subst hd; omega)
 rw [show slD [a]= .sl 1 [slI a.shape,lb a.wide] from rfl] at hD ⊢
 refine a15 rfl ?_
 simp (disch:=omega) [go_sem,a11,a6s,a0f]
 refine a0c hD rfl rfl ?_
 by_cases hn:eC (a1g [a])=0
 rotate_left
 ·have hr:a42 20 [a]=(dn,a1g [a]):=by
   have:(a1g [a]).isNil=false:=by
    rcases a0v [a] with e | e | e<;>rw [e] at hn ⊢
    ·exact absurd rfl hn
    ·rfl
    ·rfl
   unfold a42
   rw [a21,chk,if_neg (by rw [this]; simp)]
  rw [hr]
  simp (disch:=omega) [go_sem,hn,dn]
 have hnil:a1g [a]= .nil:=by
  rcases a0v [a] with e | e | e<;>rw [e] at hn ⊢<;>exact absurd hn (by decide)
 have hm:a42 20 [a]=(if (a1i 20 [a]).2=true then a6f (a1i 20 [a]).1.shape (a1i 20 [a]).1.wide else bad 6):=by
  unfold a42
  rw [a21,hnil]; rfl
 rw [hm]
 clear hD hm
 simp (disch:=omega) [go_sem,hn]
 by_cases c1:a.shape.length=0
 ·have c1':(a.shape.length:Int) < 1:=by omega
  simp (disch:=omega) [go_sem,c1',a1i,c1,bad,dn,eC6]
 ·have c1':¬ (a.shape.length:Int) < 1:=by omega
  have hdl:List.take (a.shape.length - 1) (a.shape.map li)=a.shape.dropLast.map li:=by rw [<-List.map_take,List.dropLast_eq_take]
  have hse:=b09 (G:=G) a.shape.dropLast true (by simp; omega)
  rw [show slI a.shape.dropLast= .sl (a.shape.length - 1) ((a.shape.map li).dropLast) by simp [List.map_dropLast]] at hse
  simp (disch:=omega) [go_sem,c1',a1i,c1,a6s,a0f,hdl]
  refine a0g hse (by simp [go_sem,a0p]) (by simp (disch:=omega) [go_sem]) ?_
  simp (disch:=omega) [go_sem]
end
end Go.Ideal.Tryz
end
