/- Part Qal of the proof: walks on a machine that is proved sound. -/
import Derived.Test.YtlemfkimffoiiaaGreatDoorQak
set_option linter.unusedVariables false
set_option linter.unusedSimpArgs false
set_option maxHeartbeats 4000000
set_option maxRecDepth 10000
section
namespace Go.Ideal.Tryz
attribute [local go_sem] eD eT eV
section
variable {G:GG} {bk:Nat->Nat×Nat} {Q:Exit->St->Prop} {st:St}
abbrev b25 (bk:Nat->Nat×Nat) (r:Dr):AV:= .tup [.agg (eD r.1),a0t bk r.2]
abbrev zD:AV:= .var [.own 1 0 [],lb false]
theorem a3c {e:Er} (h:¬ e= .nil):e.isNil=false:=by cases e<;>simp_all [Er.isNil]
theorem c5r {α:Type}:∀ {l:List α},l.length=1->∃ x,l=[x]
 | [x],_=>⟨x,rfl⟩
theorem c0l {α:Type}:∀ {l:List α},l.length=2->∃ x y,l=[x,y]
 | [x,y],_=>⟨x,y,rfl⟩
theorem e9d {α:Type}:∀ {l:List α},l.length=3->∃ x y z,l=[x,y,z]
 | [x,y,z],_=>⟨x,y,z,rfl⟩
theorem g3h {α:Type}:∀ {l:List α},l.length=4->∃ x y z u,l=[x,y,z,u]
 | [x,y,z,u],_=>⟨x,y,z,u,rfl⟩
theorem e3h (hS:Sent3 G bk) {za zb:Int} {a b:Ds} (ha:a.shape.length < 2 ^ 62) (hb:b.shape.length < 2 ^ 62)
  (h:st.s 0=li za/\st.s 1=li zb/\st.s 6= .var (eD a)/\st.s 7= .var (eD b)/\st.s 8=zD/\st.s 9= .lit .nilIface/\st.s 17= .own 2 2 (eD a++eD b)/\st.s 18=li 2/\st.s 19=li 0)
  (hbad:∀ e:Er,e≠ .nil->c81 za zb a b=(dn,e)->∀ s,s.s 8= .var [.sl 0 [],lb false]/\s.s 9=a0t bk e->Q .ret s)
  (hex:a1a a.shape= .nil->a1a b.shape= .nil->∀ s,s.s 0=li za/\s.s 1=li zb/\s.s 6= .var (eD a)/\s.s 7= .var (eD b)/\s.s 8=zD/\s.s 9= .lit .nilIface->Q (.exit 0) s):AW pg G 88 (.loop a32) Q st:=by
 refine a1c Nat (fun i st=>i<=2/\(1<=i->a1a a.shape= .nil)/\(2<=i->a1a b.shape= .nil)/\st.s 0=li za/\st.s 1=li zb/\st.s 6= .var (eD a)/\st.s 7= .var (eD b)/\st.s 8=zD/\st.s 9= .lit .nilIface/\st.s 17= .own 2 2 (eD a++eD b)/\st.s 18=li 2/\st.s 19=li i) (fun i=>2 - i) 0 ⟨by omega,by omega,by omega,h⟩ ?_
 clear h
 rintro i st K ⟨hi,h1,h2,h⟩ hK
 obtain rfl | rfl | rfl:i=0\/i=1\/i=2:=by omega
 ·simp (disch:=omega) [go_sem,a32,h]
  refine a0j (a04 hS a.shape a.wide ha) (a0o _) (by simp (disch:=omega) [go_sem,h]) ?_
  by_cases he:a1a a.shape= .nil
  ·simp (disch:=omega) [go_sem,h,he,Er.isNil]
   refine hK 1 _ ⟨by omega,fun _=>he,by omega,by simp (disch:=omega) [go_sem,h]⟩ (by omega)
  ·have he':=a3c he
   simp (disch:=omega) [go_sem,h,he']
   exact hbad _ he (by simp only [c81,chk,he']; rfl) _ (by simp (disch:=omega) [go_sem,h])
 ·simp (disch:=omega) [go_sem,a32,h]
  have ea:=h1 (by omega)
  refine a0j (a04 hS b.shape b.wide hb) (a0o _) (by simp (disch:=omega) [go_sem,h]) ?_
  by_cases he:a1a b.shape= .nil
  ·simp (disch:=omega) [go_sem,h,he,Er.isNil]
   refine hK 2 _ ⟨by omega,fun _=>ea,fun _=>he,by simp (disch:=omega) [go_sem,h]⟩ (by omega)
  ·have he':=a3c he
   simp (disch:=omega) [go_sem,h,he']
   exact hbad _ he (by simp only [c81,chk,he',ea,Er.isNil]; rfl) _ (by simp (disch:=omega) [go_sem,h])
 ·simp (disch:=omega) [go_sem,a32,h]
  exact hex (h1 (by omega)) (h2 (by omega)) _ (by simp (disch:=omega) [go_sem,h])
theorem e3g (hS:SentO G bk) (za zb:Int) (a b:Ds) (ha:a.shape.length < 2 ^ 62) (hb:b.shape.length < 2 ^ 62):ACalls pg G b8g [li za,li zb,.agg (eD a),.agg (eD b)] (b25 bk (c81 za zb a b)):=by
 have h7:=hS.val 0 (by decide)
 have h3:=hS.val 5 (by decide)
 refine b37 rfl ?_
 simp (disch:=omega) [go_sem,b17,a6w,a0h]
 refine e3h hS.three (za:=za) (zb:=zb) (a:=a) (b:=b) ha hb (by simp (disch:=omega) [go_sem]) (fun e he hm s h=> ?_) (fun ea eb s h=> ?_)
 ·rw [hm]
  simp (disch:=omega) [go_sem,h,dn]
 have hbd:¬ (a.shape.length=2/\b.shape.length=2/\a.shape[1]! =b.shape[0]! /\a.wide=false/\b.wide=false)->c81 za zb a b=(dn,.s 6):=fun k=>by
  simp only [c81,chk,ea,eb,Er.isNil,if_true,k,if_false]; rfl
 by_cases c1:a.shape.length=2
 ·obtain ⟨ash,aw⟩:=a
  obtain ⟨x,y,rfl⟩:=c0l c1
  by_cases c2:b.shape.length=2
  ·obtain ⟨bsh,bw⟩:=b
   obtain ⟨u,v,rfl⟩:=c0l c2
   by_cases c3:y=u
   ·cases aw
    ·cases bw
     ·have hgd:c81 za zb ⟨[x,y],false⟩ ⟨[u,v],false⟩=if (a2r za&&a2r zb)=true then b4r [x,v] true else bad 3:=by
       simp only [c81,chk,ea,eb,Er.isNil,if_true]; simp [c3]
      rw [hgd]
      clear hgd
      simp (disch:=omega) [go_sem,h]
      refine a0b ?_
      simp (disch:=omega) [go_sem,h,c3]
      refine a0d (by decide) fun s2 hs2 hes2=> ?_
      simp (disch:=omega) [go_sem,hs2,h,c3]
      refine a0e (b9r za) rfl rfl ?_
      cases ha:a2r za
      ·simp (disch:=omega) [go_sem,hs2,h]
       refine a0b ?_
       simp (disch:=omega) [go_sem,hs2,h,h3]
       refine a0d (by decide) fun s3 hs3 hes3=> ?_
       simp (disch:=omega) [go_sem,hs3,hs2,h,h3,bad,dn,a0t]
      simp (disch:=omega) [go_sem,hs2,h]
      refine a0e (b9r zb) rfl rfl ?_
      cases hb:a2r zb
      ·simp (disch:=omega) [go_sem,hs2,h]
       refine a0b ?_
       simp (disch:=omega) [go_sem,hs2,h,h3]
       refine a0d (by decide) fun s3 hs3 hes3=> ?_
       simp (disch:=omega) [go_sem,hs3,hs2,h,h3,bad,dn,a0t]
      simp (disch:=omega) [go_sem,hs2,h]
      refine a0b ?_
      simp (disch:=omega) [go_sem,hs2,h,a6w,a0h]
      refine a0d (by decide) fun s3 hs3 hes3=> ?_
      simp (disch:=omega) [go_sem,hs3,hs2,h,a6w,a0h]
      refine a0j (a04 hS.three [x,v] true (by simp)) (a0o _) (by simp (disch:=omega) [go_sem,hs3,hs2,h]) ?_
      by_cases he:a1a [x,v]= .nil
      ·simp (disch:=omega) [go_sem,hs3,hs2,h,he,Er.isNil,b4r,chk,a0t]
      ·have he':=a3c he
       simp (disch:=omega) [go_sem,hs3,hs2,h,he',b4r,chk,dn]
     ·
      rw [hbd (by simp)]
      simp (disch:=omega) [go_sem,h]
      refine a0b ?_
      simp (disch:=omega) [go_sem,h,c3]
      refine a0d (by decide) fun s2 hs2 hes2=> ?_
      simp (disch:=omega) [go_sem,hs2,h,c3]
      refine a0b ?_
      simp (disch:=omega) [go_sem,hs2,h,c3,h7]
      refine a0d (by decide) fun s3 hs3 hes3=> ?_
      simp (disch:=omega) [go_sem,hs3,hs2,h,c3,h7,dn,a0t]
    ·
     rw [hbd (by simp)]
     simp (disch:=omega) [go_sem,h]
     refine a0b ?_
     simp (disch:=omega) [go_sem,h,c3]
     refine a0d (by decide) fun s2 hs2 hes2=> ?_
     simp (disch:=omega) [go_sem,hs2,h,c3]
     refine a0b ?_
     simp (disch:=omega) [go_sem,hs2,h,c3,h7]
     refine a0d (by decide) fun s3 hs3 hes3=> ?_
     simp (disch:=omega) [go_sem,hs3,hs2,h,c3,h7,dn,a0t]
   ·
    rw [hbd (by simp [c3])]
    simp (disch:=omega) [go_sem,h]
    refine a0b ?_
    simp (disch:=omega) [go_sem,h,c3]
    refine a0d (by decide) fun s2 hs2 hes2=> ?_
    simp (disch:=omega) [go_sem,hs2,h,c3]
    refine a0b ?_
    simp (disch:=omega) [go_sem,hs2,h,c3,h7]
    refine a0d (by decide) fun s3 hs3 hes3=> ?_
    simp (disch:=omega) [go_sem,hs3,hs2,h,c3,h7,dn,a0t]
  ·have c2':¬ (b.shape.length:Int)=2:=by omega
   rw [hbd (fun k=>c2 k.2.1)]
   simp (disch:=omega) [go_sem,h]
   refine a0b ?_
   simp (disch:=omega) [go_sem,h,c2']
   refine a0d (by decide) fun s2 hs2 hes2=> ?_
   simp (disch:=omega) [go_sem,hs2,h,c2']
   refine a0b ?_
   simp (disch:=omega) [go_sem,hs2,h,c2',h7]
   refine a0d (by decide) fun s3 hs3 hes3=> ?_
   simp (disch:=omega) [go_sem,hs3,hs2,h,c2',h7,dn,a0t]
 ·have c1':¬ (a.shape.length:Int)=2:=by omega
  rw [hbd (fun k=>c1 k.1)]
  simp (disch:=omega) [go_sem,h]
  refine a0b ?_
  simp (disch:=omega) [go_sem,h,c1']
  refine a0d (by decide) fun s2 hs2 hes2=> ?_
  simp (disch:=omega) [go_sem,hs2,h,c1']
  refine a0b ?_
  simp (disch:=omega) [go_sem,hs2,h,c1',h7]
  refine a0d (by decide) fun s3 hs3 hes3=> ?_
  simp (disch:=omega) [go_sem,hs3,hs2,h,c1',h7,dn,a0t]
end
end Go.Ideal.Tryz
end
