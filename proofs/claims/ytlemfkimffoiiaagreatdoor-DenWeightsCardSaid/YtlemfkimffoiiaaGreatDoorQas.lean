/- Part Qas of the proof: walks on a machine that is proved sound. -/
import Derived.Test.YtlemfkimffoiiaaGreatDoorQao
set_option linter.unusedVariables false
set_option linter.unusedSimpArgs false
set_option maxHeartbeats 8000000
set_option maxRecDepth 200000
section
namespace Go.Ideal.Tryz
attribute [local go_sem] eD eT eV
section
variable {G:GG} {bk:Nat->Nat×Nat} {Q:Exit->St->Prop} {st:St}
theorem c91 (hS:SentO G bk) (args:List Int) (ins:List Ds) (hf:∀ d∈ins,d.shape.length < 2 ^ 40)  (h1:ins.length=a2b 9) (h2:args.length=a1r 9):ACalls pg G a1s [li (9:Int),slI args,slD ins] (b25 bk (a6y 9 args ins)):=by
 have h7:=hS.val 0 (by decide)
 have h3:=hS.val 5 (by decide)
 have hn:ins.length < 2 ^ 40:=by
  rw [h1]; unfold a2b; split<;>(try split)<;>simp
 have e1:((a2b 9:Nat):Int)=(ins.length:Int):=by rw [h1]
 have e2:((a1r 9:Nat):Int)=(args.length:Int):=by rw [h2]
 unfold a6y
 generalize hr:(if (ins.length=2/\ins[0]! ≠ins[1]!)\/((9:Int)=10/\ins[0]!.wide=false)\/((9:Int)=11/\ins[0]!.wide=true) then bad 6 else if a15 9 args ins[0]!.wide=true then ((⟨ins[0]!.shape,a11 9 ins[0]!.wide⟩,.nil):Dr) else bad 3)=r
 have hc:=a3y (G:=G) 9 (by omega)
 rw [e1,e2] at hc
 refine a1g rfl ?_
 simp (disch:=omega) [go_sem,a1v]
 refine a0e hc rfl rfl ?_
 simp (disch:=omega) [go_sem]
 refine a7t hS.three (op:=9) (args:=args) (ins:=ins) (r:=r) hn hf (by simp (disch:=omega) [go_sem]) (fun e he hm s h=> ?_) (fun hm s h=> ?_)
 ·rw [hm]
  simp (disch:=omega) [go_sem,h,dn]
 rw [hm]
 clear hm hc e1 e2
 obtain ⟨a,rfl⟩:=c5r (h1.trans (by decide))
 have la:=hf a (by simp)
 rw [sl1] at h
 obtain ⟨x,y,rfl⟩:=c0l (h2.trans (by decide))
 have hr':r=if (decide (x<=y)&&(b78 x a.wide&&b78 y a.wide))=true then (a,.nil) else bad 3:=by rw [<-hr]; simp [a15,a11]
 generalize hb:(decide (x<=y)&&(b78 x a.wide&&b78 y a.wide))=b at hr'
 rw [hr']
 clear hr hr'
 simp (disch:=omega) [go_sem,h]
 refine a0b ?_
 simp (disch:=omega) [go_sem,h]
 refine a0d (by decide) fun s2 hs2 hes2=> ?_
 simp (disch:=omega) [go_sem,hs2,h]
 refine a0b ?_
 simp (disch:=omega) [go_sem,hs2,h]
 refine a0d (by decide) fun s3 hs3 hes3=> ?_
 simp (disch:=omega) [go_sem,hs3,hs2,h]
 by_cases c:x<=y
 ·
  refine a0b ?_
  simp (disch:=omega) [go_sem,hs3,hs2,h,c]
  refine a0y (d07 x a.wide) rfl rfl (by simp (disch:=omega) [go_sem,a0v,a8l]) [103] (by simp) (by simp (disch:=omega) [go_sem,hs3,hs2,h,c]) ?_
  simp (disch:=omega) [go_sem,hs3,hs2,h,c,a0v,a8l]
  cases f1:b78 x a.wide
  ·have hb':b=false:=by rw [<-hb]; simp [f1]
   rw [hb',if_neg (by simp)]
   simp (disch:=omega) [go_sem,hs3,hs2,h,c,f1]
   refine a0d (by decide) fun s4 hs4 hes4=> ?_
   simp (disch:=omega) [go_sem,hs4,hs3,hs2,h,c,f1]
   refine a0b ?_
   simp (disch:=omega) [go_sem,hs4,hs3,hs2,h,h3,bad,dn,a0t]
   refine a0d (by decide) fun s9 hs9 hes9=> ?_
   simp (disch:=omega) [go_sem,hs9,hs4,hs3,hs2,h,h3,bad,dn,a0t]
  simp (disch:=omega) [go_sem,hs3,hs2,h,c,f1,a0v,a8l]
  refine a0y (d07 y a.wide) rfl rfl (by simp (disch:=omega) [go_sem,a0v,a8l]) [111] (by simp) (by simp (disch:=omega) [go_sem,hs3,hs2,h,c,f1]) ?_
  simp (disch:=omega) [go_sem,hs3,hs2,h,c,f1,a0v,a8l]
  cases f2:b78 y a.wide
  ·have hb':b=false:=by rw [<-hb]; simp [f2]
   rw [hb',if_neg (by simp)]
   refine a0d (by decide) fun s4 hs4 hes4=> ?_
   simp (disch:=omega) [go_sem,hs4,hs3,hs2,h,c,f1,f2]
   refine a0b ?_
   simp (disch:=omega) [go_sem,hs4,hs3,hs2,h,h3,bad,dn,a0t]
   refine a0d (by decide) fun s9 hs9 hes9=> ?_
   simp (disch:=omega) [go_sem,hs9,hs4,hs3,hs2,h,h3,bad,dn,a0t]
  have hb':b=true:=by rw [<-hb]; simp [c,f1,f2]
  rw [hb',if_pos rfl]
  refine a0d (by decide) fun s4 hs4 hes4=> ?_
  simp (disch:=omega) [go_sem,hs4,hs3,hs2,h,c,f1,f2]
  refine a0e (a2s a.shape a.wide la) rfl (by simp only [owI,a0x,a03,a1q,Bool.and_true]) ?_
  simp (disch:=omega) [go_sem,hs4,hs3,hs2,h,a0t]
 ·have hb':b=false:=by rw [<-hb]; simp [c]
  rw [hb',if_neg (by simp)]
  refine a0b ?_
  simp (disch:=omega) [go_sem,hs3,hs2,h,c]
  refine a0d (by decide) fun s4 hs4 hes4=> ?_
  simp (disch:=omega) [go_sem,hs4,hs3,hs2,h,c]
  refine a0b ?_
  simp (disch:=omega) [go_sem,hs4,hs3,hs2,h,h3,bad,dn,a0t]
  refine a0d (by decide) fun s9 hs9 hes9=> ?_
  simp (disch:=omega) [go_sem,hs9,hs4,hs3,hs2,h,h3,bad,dn,a0t]
end
end Go.Ideal.Tryz
end
