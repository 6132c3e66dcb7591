/- Part Qat of the proof: walks on a machine that is proved sound. -/
import Derived.Test.YtploijbaclgehaaDoorQao
set_option linter.unusedVariables false
set_option linter.unusedSimpArgs false
set_option maxHeartbeats 8000000
set_option maxRecDepth 200000
section
namespace Go.Ideal.Tryd
attribute [local go_sem] eD eT eV
section
variable {G:GG} {bk:Nat->Nat×Nat} {Q:Exit->St->Prop} {st:St}
theorem c5g (hS:SentO G bk) (args:List Int) (ins:List Ds) (hf:∀ d∈ins,d.shape.length < 2 ^ 40)  (h1:ins.length=a2x 10) (h2:args.length=a2c 10):ACalls pg G a1q [li (10:Int),slI args,slD ins] (b4l bk (a60 10 args ins)):=by
 have h7:=hS.val 5 (by decide)
 have h3:=hS.val 7 (by decide)
 have hn:ins.length < 2 ^ 40:=by
  rw [h1]; unfold a2x; split<;>(try split)<;>simp
 have e1:((a2x 10:Nat):Int)=(ins.length:Int):=by rw [h1]
 have e2:((a2c 10:Nat):Int)=(args.length:Int):=by rw [h2]
 unfold a60
 generalize hr:(if (ins.length=2/\ins[0]! ≠ins[1]!)\/((10:Int)=10/\ins[0]!.wide=false)\/((10:Int)=11/\ins[0]!.wide=true) then bad 6 else if a16 10 args ins[0]!.wide=true then ((⟨ins[0]!.shape,a10 10 ins[0]!.wide⟩,.nil):Dr) else bad 3)=r
 have hc:=a4k (G:=G) 10 (by omega)
 rw [e1,e2] at hc
 refine a1f rfl ?_
 simp (disch:=omega) [go_sem,a1t]
 refine a0i hc rfl rfl ?_
 simp (disch:=omega) [go_sem]
 refine a7y hS.three (op:=10) (args:=args) (ins:=ins) (r:=r) hn hf (by simp (disch:=omega) [go_sem]) (fun e he hm s h=> ?_) (fun hm s h=> ?_)
 ·rw [hm]
  simp (disch:=omega) [go_sem,h,dn]
 rw [hm]
 clear hm hc e1 e2
 obtain ⟨a,rfl⟩:=b7a (h1.trans (by decide))
 have la:=hf a (by simp)
 rw [sl1] at h
 obtain ⟨x,y,z,rfl⟩:=e1z (h2.trans (by decide))
 obtain ⟨ash,aw⟩:=a
 cases aw
 ·have hr':r=bad 6:=by rw [<-hr]; simp
  rw [hr']
  simp (disch:=omega) [go_sem,h]
  refine a0b ?_
  simp (disch:=omega) [go_sem,h]
  refine a0c (by decide) fun s2 hs2 hes2=> ?_
  simp (disch:=omega) [go_sem,hs2,h]
  refine a0b ?_
  simp (disch:=omega) [go_sem,hs2,h,h7,bad,dn,a0s]
  refine a0c (by decide) fun s9 hs9 hes9=> ?_
  simp (disch:=omega) [go_sem,hs9,hs2,h,h7,bad,dn,a0s]
 ·have hr':r=if ((decide (0<=x)&&decide (x<=2147483647))&&((decide (0<=y)&&decide (y<=62))&&b69 z false))=true then (⟨ash,false⟩,.nil) else bad 3:=by rw [<-hr]; simp [a16,a10,b69]
  generalize hb:((decide (0<=x)&&decide (x<=2147483647))&&((decide (0<=y)&&decide (y<=62))&&b69 z false))=b at hr'
  rw [hr']
  clear hr hr'
  simp (disch:=omega) [go_sem,h]
  refine a0b ?_
  simp (disch:=omega) [go_sem,h]
  refine a0c (by decide) fun s2 hs2 hes2=> ?_
  simp (disch:=omega) [go_sem,hs2,h]
  refine a0b ?_
  simp (disch:=omega) [go_sem,hs2,h]
  refine a0c (by decide) fun s3 hs3 hes3=> ?_
  simp (disch:=omega) [go_sem,hs3,hs2,h]
  refine a0i (c9l x 0 2147483647) rfl rfl ?_
  cases f1:(decide (0<=x)&&decide (x<=2147483647))
  ·have hb':b=false:=by rw [<-hb,f1]; simp
   rw [hb',if_neg (by simp)]
   simp (disch:=omega) [go_sem,hs3,hs2,h,f1]
   refine a0b ?_
   simp (disch:=omega) [go_sem,hs3,hs2,h,h3,bad,dn,a0s]
   refine a0c (by decide) fun s9 hs9 hes9=> ?_
   simp (disch:=omega) [go_sem,hs9,hs3,hs2,h,h3,bad,dn,a0s]
  simp (disch:=omega) [go_sem,hs3,hs2,h,f1]
  refine a0i (c9l y 0 62) rfl rfl ?_
  cases f2:(decide (0<=y)&&decide (y<=62))
  ·have hb':b=false:=by rw [<-hb,f2]; simp
   rw [hb',if_neg (by simp)]
   simp (disch:=omega) [go_sem,hs3,hs2,h,f2]
   refine a0b ?_
   simp (disch:=omega) [go_sem,hs3,hs2,h,h3,bad,dn,a0s]
   refine a0c (by decide) fun s9 hs9 hes9=> ?_
   simp (disch:=omega) [go_sem,hs9,hs3,hs2,h,h3,bad,dn,a0s]
  simp (disch:=omega) [go_sem,hs3,hs2,h,f2]
  refine a0i (c9y z false) rfl rfl ?_
  cases f3:b69 z false
  ·have hb':b=false:=by rw [<-hb,f3]; simp
   rw [hb',if_neg (by simp)]
   simp (disch:=omega) [go_sem,hs3,hs2,h,f3]
   refine a0b ?_
   simp (disch:=omega) [go_sem,hs3,hs2,h,h3,bad,dn,a0s]
   refine a0c (by decide) fun s9 hs9 hes9=> ?_
   simp (disch:=omega) [go_sem,hs9,hs3,hs2,h,h3,bad,dn,a0s]
  have hb':b=true:=by rw [<-hb,f1,f2,f3]; rfl
  rw [hb',if_pos rfl]
  simp (disch:=omega) [go_sem,hs3,hs2,h,f3]
  refine a0i (a15 ash true la) rfl (by simp only [owI,a0x,a0y,a1h,Bool.and_true]) ?_
  simp (disch:=omega) [go_sem,hs3,hs2,h,a0s]
end
end Go.Ideal.Tryd
end
