/- Part Qan of the proof: walks on a machine that is proved sound. -/
import Derived.Test.YtlemfkimffoiiaaGreatDoorQam
set_option linter.unusedVariables false
set_option linter.unusedSimpArgs false
set_option maxHeartbeats 8000000
set_option maxRecDepth 10000
section
namespace Go.Ideal.Tryz
attribute [local go_sem] eD eT eV
section
variable {G:GG} {bk:Nat->Nat×Nat} {Q:Exit->St->Prop} {st:St}
theorem d3p (hS:Sent3 G bk) {args:List Int} {a b:Ds} (ha:(a.shape).length < 2 ^ 62) (hb:(b.shape).length < 2 ^ 62)
  (h:st.s 0=slI args/\st.s 4= .var (eD a)/\st.s 5= .var (eD b)/\st.s 6=zD/\st.s 7= .lit .nilIface/\st.s 25= .own 2 2 [slI a.shape,lb a.wide,slI b.shape,lb b.wide]/\st.s 26=li 2/\st.s 27=li 0)
  (hbad:∀ e:Er,e≠ .nil->b5b args a b=(dn,e)->∀ s,s.s 6= .var [.sl 0 [],lb false]/\s.s 7=a0t bk e->Q .ret s)
  (hex:a1a (a.shape)= .nil->a1a (b.shape)= .nil->∀ s,s.s 0=slI args/\s.s 4= .var (eD a)/\s.s 5= .var (eD b)/\s.s 6=zD/\s.s 7= .lit .nilIface->Q (.exit 0) s):AW pg G 153 (.loop a3f) Q st:=by
 refine a1c Nat (fun i st=>i<=2/\(1<=i->a1a (a.shape)= .nil)/\(2<=i->a1a (b.shape)= .nil)/\st.s 0=slI args/\st.s 4= .var (eD a)/\st.s 5= .var (eD b)/\st.s 6=zD/\st.s 7= .lit .nilIface/\st.s 25= .own 2 2 [slI a.shape,lb a.wide,slI b.shape,lb b.wide]/\st.s 26=li 2/\st.s 27=li i) (fun i=>2 - i) 0 ⟨by omega,by omega,by omega,h⟩ ?_
 clear h
 rintro i st K ⟨hi,h1,h2,h⟩ hK
 obtain rfl | rfl | rfl:i=0\/i=1\/i=2:=by omega
 ·simp (disch:=omega) [go_sem,a3f,h]
  refine a0j (a04 hS (a.shape) a.wide ha) (a0o _) (by simp (disch:=omega) [go_sem,h]) ?_
  by_cases he:a1a (a.shape)= .nil
  ·simp (disch:=omega) [go_sem,h,he,Er.isNil]
   refine hK 1 _ ⟨by omega,fun _=>he,by omega,by simp (disch:=omega) [go_sem,h]⟩ (by omega)
  ·have he':=a3c he
   simp (disch:=omega) [go_sem,h,he']
   exact hbad _ he (by simp only [b5b,chk,he']; rfl) _ (by simp (disch:=omega) [go_sem,h])
 ·simp (disch:=omega) [go_sem,a3f,h]
  have ea:=h1 (by omega)
  refine a0j (a04 hS (b.shape) b.wide hb) (a0o _) (by simp (disch:=omega) [go_sem,h]) ?_
  by_cases he:a1a (b.shape)= .nil
  ·simp (disch:=omega) [go_sem,h,he,Er.isNil]
   refine hK 2 _ ⟨by omega,fun _=>ea,fun _=>he,by simp (disch:=omega) [go_sem,h]⟩ (by omega)
  ·have he':=a3c he
   simp (disch:=omega) [go_sem,h,he']
   exact hbad _ he (by simp only [b5b,chk,he',ea,Er.isNil]; rfl) _ (by simp (disch:=omega) [go_sem,h])
 ·simp (disch:=omega) [go_sem,a3f,h]
  exact hex (h1 (by omega)) (h2 (by omega)) _ (by simp (disch:=omega) [go_sem,h])
theorem d3o (hS:SentO G bk) (p q za:Int) (a b:Ds) (ha:a.shape.length < 2 ^ 62) (hb:b.shape.length < 2 ^ 62):ACalls pg G b6m [slI [p,q,za],.agg (eD a),.agg (eD b)] (b25 bk (b5b [p,q,za] a b)):=by
 have h7:=hS.val 0 (by decide)
 have h3:=hS.val 5 (by decide)
 have hz:decide (max (min za 127) (-128)=za)=a2r za:=by
  rw [a2r,<-Bool.decide_and]; exact decide_eq_decide.2 (by omega)
 refine b2t rfl ?_
 simp (disch:=omega) [go_sem,a98,a6w,a0h]
 refine d3p hS.three (args:=[p,q,za]) (a:=a) (b:=b) ha hb (by simp (disch:=omega) [go_sem]) (fun e he hm s h=> ?_) (fun ea eb s h=> ?_)
 ·rw [hm]
  simp (disch:=omega) [go_sem,h,dn]
 have hbd:¬ (a.shape.length=3/\b.shape.length=4/\a.shape[2]! =b.shape[2]! /\a.wide=false/\b.wide=false)->b5b [p,q,za] a b=(dn,.s 6):=fun k=>by
  simp only [b5b,chk,ea,eb,Er.isNil,if_true,k,if_false]; rfl
 by_cases c1:a.shape.length=3
 ·obtain ⟨ash,aw⟩:=a
  obtain ⟨x,y,z,rfl⟩:=e9d c1
  by_cases c2:b.shape.length=4
  ·obtain ⟨bsh,bw⟩:=b
   obtain ⟨u,v,w,o,rfl⟩:=g3h c2
   by_cases c3:z=w
   ·cases aw
    ·cases bw
     ·have hgd:b5b [p,q,za] ⟨[x,y,z],false⟩ ⟨[u,v,w,o],false⟩=
       (if 1<=p/\p<=16/\0<=q/\q<=15/\a2r za=true then
        (if 0<=x+2*q - u/\0<=y+2*q - v then
         b4r [(x+2*q - u) / p+1,(y+2*q - v) / p+1,o] true else bad 6) else bad 3):=by
       simp only [b5b,chk,ea,eb,Er.isNil,if_true]; simp [c3]
      rw [hgd]
      clear hgd hbd
      have hx:=b1g ea x (by simp)
      have hy:=b1g ea y (by simp)
      have hu:=b1g eb u (by simp)
      have hv:=b1g eb v (by simp)
      simp (disch:=omega) [go_sem,h]
      by_cases p1:p < 1
      ·rw [if_neg (by omega)]
       refine a0b ?_
       simp (disch:=omega) [go_sem,h,c3]
       refine a0d (by decide) fun s2 hs2 hes2=> ?_
       simp (disch:=omega) [go_sem,hs2,h,c3]
       refine a0b ?_
       simp (disch:=omega) [go_sem,hs2,h]
       refine a0d (by decide) fun s3 hs3 hes3=> ?_
       simp (disch:=omega) [go_sem,hs3,hs2,h,p1]
       refine a0b ?_
       simp (disch:=omega) [go_sem,hs3,hs2,h,h3,bad,dn,a0t]
       refine a0d (by decide) fun s4 hs4 hes4=> ?_
       simp (disch:=omega) [go_sem,hs4,hs3,hs2,h,h3,bad,dn,a0t]
      by_cases p2:16 < p
      ·rw [if_neg (by omega)]
       refine a0b ?_
       simp (disch:=omega) [go_sem,h,c3]
       refine a0d (by decide) fun s2 hs2 hes2=> ?_
       simp (disch:=omega) [go_sem,hs2,h,c3]
       refine a0b ?_
       simp (disch:=omega) [go_sem,hs2,h]
       refine a0d (by decide) fun s3 hs3 hes3=> ?_
       simp (disch:=omega) [go_sem,hs3,hs2,h,p1,p2]
       refine a0b ?_
       simp (disch:=omega) [go_sem,hs3,hs2,h,h3,bad,dn,a0t]
       refine a0d (by decide) fun s4 hs4 hes4=> ?_
       simp (disch:=omega) [go_sem,hs4,hs3,hs2,h,h3,bad,dn,a0t]
      by_cases p3:q < 0
      ·rw [if_neg (by omega)]
       refine a0b ?_
       simp (disch:=omega) [go_sem,h,c3]
       refine a0d (by decide) fun s2 hs2 hes2=> ?_
       simp (disch:=omega) [go_sem,hs2,h,c3]
       refine a0b ?_
       simp (disch:=omega) [go_sem,hs2,h]
       refine a0d (by decide) fun s3 hs3 hes3=> ?_
       simp (disch:=omega) [go_sem,hs3,hs2,h,p1,p2,p3]
       refine a0b ?_
       simp (disch:=omega) [go_sem,hs3,hs2,h,h3,bad,dn,a0t]
       refine a0d (by decide) fun s4 hs4 hes4=> ?_
       simp (disch:=omega) [go_sem,hs4,hs3,hs2,h,h3,bad,dn,a0t]
      by_cases p4:15 < q
      ·rw [if_neg (by omega)]
       refine a0b ?_
       simp (disch:=omega) [go_sem,h,c3]
       refine a0d (by decide) fun s2 hs2 hes2=> ?_
       simp (disch:=omega) [go_sem,hs2,h,c3]
       refine a0b ?_
       simp (disch:=omega) [go_sem,hs2,h]
       refine a0d (by decide) fun s3 hs3 hes3=> ?_
       simp (disch:=omega) [go_sem,hs3,hs2,h,p1,p2,p3,p4]
       refine a0b ?_
       simp (disch:=omega) [go_sem,hs3,hs2,h,h3,bad,dn,a0t]
       refine a0d (by decide) fun s4 hs4 hes4=> ?_
       simp (disch:=omega) [go_sem,hs4,hs3,hs2,h,h3,bad,dn,a0t]
      refine a0b ?_
      simp (disch:=omega) [go_sem,h,c3]
      refine a0d (by decide) fun s2 hs2 hes2=> ?_
      simp (disch:=omega) [go_sem,hs2,h,c3]
      refine a0b ?_
      simp (disch:=omega) [go_sem,hs2,h]
      refine a0d (by decide) fun s3 hs3 hes3=> ?_
      simp (disch:=omega) [go_sem,hs3,hs2,h,p1,p2,p3,p4]
      refine a0e (b39 za) rfl rfl ?_
      cases hn:a2r za
      ·rw [if_neg (by simp)]
       simp (disch:=omega) [go_sem,hs3,hs2,h,hz,hn]
       refine a0b ?_
       simp (disch:=omega) [go_sem,hs3,hs2,h,h3,bad,dn,a0t]
       refine a0d (by decide) fun s4 hs4 hes4=> ?_
       simp (disch:=omega) [go_sem,hs4,hs3,hs2,h,h3,bad,dn,a0t]
      rw [if_pos ⟨by omega,by omega,by omega,by omega,rfl⟩]
      simp (disch:=omega) [go_sem,hs3,hs2,h,hz,hn]
      by_cases p5:x+2*q - u < 0
      ·rw [if_neg (by omega)]
       refine a0b ?_
       simp (disch:=omega) [go_sem,hs3,hs2,h]
       refine a0d (by decide) fun s5 hs5 hes5=> ?_
       simp (disch:=omega) [go_sem,hs5,hs3,hs2,h,p5]
       refine a0b ?_
       simp (disch:=omega) [go_sem,hs5,hs3,hs2,h,h7,bad,dn,a0t]
       refine a0d (by decide) fun s6 hs6 hes6=> ?_
       simp (disch:=omega) [go_sem,hs6,hs5,hs3,hs2,h,h7,bad,dn,a0t]
      by_cases p6:y+2*q - v < 0
      ·rw [if_neg (by omega)]
       refine a0b ?_
       simp (disch:=omega) [go_sem,hs3,hs2,h]
       refine a0d (by decide) fun s5 hs5 hes5=> ?_
       simp (disch:=omega) [go_sem,hs5,hs3,hs2,h,p5,p6]
       refine a0b ?_
       simp (disch:=omega) [go_sem,hs5,hs3,hs2,h,h7,bad,dn,a0t]
       refine a0d (by decide) fun s6 hs6 hes6=> ?_
       simp (disch:=omega) [go_sem,hs6,hs5,hs3,hs2,h,h7,bad,dn,a0t]
      rw [if_pos (by omega)]
      refine a0b ?_
      simp (disch:=omega) [go_sem,hs3,hs2,h]
      refine a0d (by decide) fun s5 hs5 hes5=> ?_
      simp (disch:=omega) [go_sem,hs5,hs3,hs2,h,p5,p6]
      have w1:=wq (x:=x+2*q - u) (y:=p) (by omega)
      have w2:=wq (x:=y+2*q - v) (y:=p) (by omega)
      refine a0b ?_
      simp (disch:=omega) [go_sem,hs5,hs3,hs2,h,a6w,a0h,w1,w2]
      refine a0d (by decide) fun s6 hs6 hes6=> ?_
      simp (disch:=omega) [go_sem,hs6,hs5,hs3,hs2,h,a6w,a0h,w1,w2]
      refine a0j (a04 hS.three [(x+2*q - u) / p+1,(y+2*q - v) / p+1,o] true (by simp)) (a0o _) (by simp (disch:=omega) [go_sem,hs6,hs5,hs3,hs2,h]) ?_
      by_cases he:a1a [(x+2*q - u) / p+1,(y+2*q - v) / p+1,o]= .nil
      ·simp (disch:=omega) [go_sem,hs6,hs5,hs3,hs2,h,he,Er.isNil,b4r,chk,a0t]
      ·have he':=a3c he
       simp (disch:=omega) [go_sem,hs6,hs5,hs3,hs2,h,he',b4r,chk,dn]
     ·
      rw [hbd (by simp)]
      simp (disch:=omega) [go_sem,h]
      refine a0b ?_
      simp (disch:=omega) [go_sem,h,c3]
      refine a0d (by decide) fun s2 hs2 hes2=> ?_
      simp (disch:=omega) [go_sem,hs2,h,c3]
      refine a0b ?_
      simp (disch:=omega) [go_sem,hs2,h,h7,dn,a0t]
      refine a0d (by decide) fun s3 hs3 hes3=> ?_
      simp (disch:=omega) [go_sem,hs3,hs2,h,h7,dn,a0t]
    ·
     rw [hbd (by simp)]
     simp (disch:=omega) [go_sem,h]
     refine a0b ?_
     simp (disch:=omega) [go_sem,h,c3]
     refine a0d (by decide) fun s2 hs2 hes2=> ?_
     simp (disch:=omega) [go_sem,hs2,h,c3]
     refine a0b ?_
     simp (disch:=omega) [go_sem,hs2,h,h7,dn,a0t]
     refine a0d (by decide) fun s3 hs3 hes3=> ?_
     simp (disch:=omega) [go_sem,hs3,hs2,h,h7,dn,a0t]
   ·
    rw [hbd (by simp [c3])]
    simp (disch:=omega) [go_sem,h]
    refine a0b ?_
    simp (disch:=omega) [go_sem,h,c3]
    refine a0d (by decide) fun s2 hs2 hes2=> ?_
    simp (disch:=omega) [go_sem,hs2,h,c3]
    refine a0b ?_
    simp (disch:=omega) [go_sem,hs2,h,h7,dn,a0t]
    refine a0d (by decide) fun s3 hs3 hes3=> ?_
    simp (disch:=omega) [go_sem,hs3,hs2,h,h7,dn,a0t]
  ·have c2':¬ (b.shape.length:Int)=4:=by omega
   rw [hbd (fun k=>c2 k.2.1)]
   simp (disch:=omega) [go_sem,h]
   refine a0b ?_
   simp (disch:=omega) [go_sem,h,c2']
   refine a0d (by decide) fun s2 hs2 hes2=> ?_
   simp (disch:=omega) [go_sem,hs2,h,c2']
   refine a0b ?_
   simp (disch:=omega) [go_sem,hs2,h,h7,dn,a0t]
   refine a0d (by decide) fun s3 hs3 hes3=> ?_
   simp (disch:=omega) [go_sem,hs3,hs2,h,h7,dn,a0t]
 ·have c1':¬ (a.shape.length:Int)=3:=by omega
  rw [hbd (fun k=>c1 k.1)]
  simp (disch:=omega) [go_sem,h]
  refine a0b ?_
  simp (disch:=omega) [go_sem,h,c1']
  refine a0d (by decide) fun s2 hs2 hes2=> ?_
  simp (disch:=omega) [go_sem,hs2,h,c1']
  refine a0b ?_
  simp (disch:=omega) [go_sem,hs2,h,h7,dn,a0t]
  refine a0d (by decide) fun s3 hs3 hes3=> ?_
  simp (disch:=omega) [go_sem,hs3,hs2,h,h7,dn,a0t]
end
end Go.Ideal.Tryz
end
