/- Part Qat of the proof: walks on a machine that is proved sound. -/
import Derived.Test.YtlemfkimffoiiaaGreatDoorQao
set_option linter.unusedVariables false
set_option linter.unusedSimpArgs false
set_option maxHeartbeats 8000000
set_option maxRecDepth 200000
section
namespace Go.Ideal.Tryz
attribute [local go_sem] eD eT eV
section
variable {G:GG} {bk:Nat->Nat×Nat} {Q:Exit->St->Prop} {st:St}
theorem c6n (hS:SentO G bk) (args:List Int) (ins:List Ds) (hf:∀ d∈ins,d.shape.length < 2 ^ 40)  (h1:ins.length=a2b 10) (h2:args.length=a1r 10):ACalls pg G a1s [li (10:Int),slI args,slD ins] (b25 bk (a6y 10 args ins)):=by
 have h7:=hS.val 0 (by decide)
 have h3:=hS.val 5 (by decide)
 have hn:ins.length < 2 ^ 40:=by
  rw [h1]; unfold a2b; split<;>(try split)<;>simp
 have e1:((a2b 10:Nat):Int)=(ins.length:Int):=by rw [h1]
 have e2:((a1r 10:Nat):Int)=(args.length:Int):=by rw [h2]
 unfold a6y
 generalize hr:(if (ins.length=2/\ins[0]! ≠ins[1]!)\/((10:Int)=10/\ins[0]!.wide=false)\/((10:Int)=11/\ins[0]!.wide=true) then bad 6 else if a15 10 args ins[0]!.wide=true then ((⟨ins[0]!.shape,a11 10 ins[0]!.wide⟩,.nil):Dr) else bad 3)=r
 have hc:=a3y (G:=G) 10 (by omega)
 rw [e1,e2] at hc
 refine a1g rfl ?_
 simp (disch:=omega) [go_sem,a1v]
 refine a0e hc rfl rfl ?_
 simp (disch:=omega) [go_sem]
 refine a7t hS.three (op:=10) (args:=args) (ins:=ins) (r:=r) hn hf (by simp (disch:=omega) [go_sem]) (fun e he hm s h=> ?_) (fun hm s h=> ?_)
 ·rw [hm]
  simp (disch:=omega) [go_sem,h,dn]
 rw [hm]
 clear hm hc e1 e2
 obtain ⟨a,rfl⟩:=c5r (h1.trans (by decide))
 have la:=hf a (by simp)
 rw [sl1] at h
 obtain ⟨x,y,z,rfl⟩:=e9d (h2.trans (by decide))
 obtain ⟨ash,aw⟩:=a
 cases aw
 ·have hr':r=bad 6:=by rw [<-hr]; simp
  rw [hr']
  simp (disch:=omega) [go_sem,h]
  refine a0b ?_
  simp (disch:=omega) [go_sem,h]
  refine a0d (by decide) fun s2 hs2 hes2=> ?_
  simp (disch:=omega) [go_sem,hs2,h]
  refine a0b ?_
  simp (disch:=omega) [go_sem,hs2,h,h7,bad,dn,a0t]
  refine a0d (by decide) fun s9 hs9 hes9=> ?_
  simp (disch:=omega) [go_sem,hs9,hs2,h,h7,bad,dn,a0t]
 ·have hr':r=if ((decide (0<=x)&&decide (x<=2147483647))&&((decide (0<=y)&&decide (y<=62))&&b78 z false))=true then (⟨ash,false⟩,.nil) else bad 3:=by rw [<-hr]; simp [a15,a11,b78]
  generalize hb:((decide (0<=x)&&decide (x<=2147483647))&&((decide (0<=y)&&decide (y<=62))&&b78 z false))=b at hr'
  rw [hr']
  clear hr hr'
  simp (disch:=omega) [go_sem,h]
  refine a0b ?_
  simp (disch:=omega) [go_sem,h]
  refine a0d (by decide) fun s2 hs2 hes2=> ?_
  simp (disch:=omega) [go_sem,hs2,h]
  refine a0b ?_
  simp (disch:=omega) [go_sem,hs2,h]
  refine a0d (by decide) fun s3 hs3 hes3=> ?_
  simp (disch:=omega) [go_sem,hs3,hs2,h]
  refine a0e (d0t x 0 2147483647) rfl rfl ?_
  cases f1:(decide (0<=x)&&decide (x<=2147483647))
  ·have hb':b=false:=by rw [<-hb,f1]; simp
   rw [hb',if_neg (by simp)]
   simp (disch:=omega) [go_sem,hs3,hs2,h,f1]
   refine a0b ?_
   simp (disch:=omega) [go_sem,hs3,hs2,h,h3,bad,dn,a0t]
   refine a0d (by decide) fun s9 hs9 hes9=> ?_
   simp (disch:=omega) [go_sem,hs9,hs3,hs2,h,h3,bad,dn,a0t]
  simp (disch:=omega) [go_sem,hs3,hs2,h,f1]
  refine a0e (d0t y 0 62) rfl rfl ?_
  cases f2:(decide (0<=y)&&decide (y<=62))
  ·have hb':b=false:=by rw [<-hb,f2]; simp
   rw [hb',if_neg (by simp)]
   simp (disch:=omega) [go_sem,hs3,hs2,h,f2]
   refine a0b ?_
   simp (disch:=omega) [go_sem,hs3,hs2,h,h3,bad,dn,a0t]
   refine a0d (by decide) fun s9 hs9 hes9=> ?_
   simp (disch:=omega) [go_sem,hs9,hs3,hs2,h,h3,bad,dn,a0t]
  simp (disch:=omega) [go_sem,hs3,hs2,h,f2]
  refine a0e (d07 z false) rfl rfl ?_
  cases f3:b78 z false
  ·have hb':b=false:=by rw [<-hb,f3]; simp
   rw [hb',if_neg (by simp)]
   simp (disch:=omega) [go_sem,hs3,hs2,h,f3]
   refine a0b ?_
   simp (disch:=omega) [go_sem,hs3,hs2,h,h3,bad,dn,a0t]
   refine a0d (by decide) fun s9 hs9 hes9=> ?_
   simp (disch:=omega) [go_sem,hs9,hs3,hs2,h,h3,bad,dn,a0t]
  have hb':b=true:=by rw [<-hb,f1,f2,f3]; rfl
  rw [hb',if_pos rfl]
  simp (disch:=omega) [go_sem,hs3,hs2,h,f3]
  refine a0e (a2s ash true la) rfl (by simp only [owI,a0x,a03,a1q,Bool.and_true]) ?_
  simp (disch:=omega) [go_sem,hs3,hs2,h,a0t]
end
end Go.Ideal.Tryz
end
