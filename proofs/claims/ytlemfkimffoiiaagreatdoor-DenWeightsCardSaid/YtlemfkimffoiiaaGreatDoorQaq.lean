/- Part Qaq of the proof: walks on a machine that is proved sound. -/
import Derived.Test.YtlemfkimffoiiaaGreatDoorQao
set_option linter.unusedVariables false
set_option linter.unusedSimpArgs false
set_option maxHeartbeats 8000000
set_option maxRecDepth 200000
section
namespace Go.Ideal.Tryz
attribute [local go_sem] eD eT eV
section
variable {G:GG} {bk:Nat->Nat×Nat} {Q:Exit->St->Prop} {st:St}
theorem c9y (hS:SentO G bk) (args:List Int) (ins:List Ds) (hf:∀ d∈ins,d.shape.length < 2 ^ 40)  (h1:ins.length=a2b 6) (h2:args.length=a1r 6):ACalls pg G a1s [li (6:Int),slI args,slD ins] (b25 bk (a6y 6 args ins)):=by
 have h7:=hS.val 0 (by decide)
 have h3:=hS.val 5 (by decide)
 have hn:ins.length < 2 ^ 40:=by
  rw [h1]; unfold a2b; split<;>(try split)<;>simp
 have e1:((a2b 6:Nat):Int)=(ins.length:Int):=by rw [h1]
 have e2:((a1r 6:Nat):Int)=(args.length:Int):=by rw [h2]
 unfold a6y
 generalize hr:(if (ins.length=2/\ins[0]! ≠ins[1]!)\/((6:Int)=10/\ins[0]!.wide=false)\/((6:Int)=11/\ins[0]!.wide=true) then bad 6 else if a15 6 args ins[0]!.wide=true then ((⟨ins[0]!.shape,a11 6 ins[0]!.wide⟩,.nil):Dr) else bad 3)=r
 have hc:=a3y (G:=G) 6 (by omega)
 rw [e1,e2] at hc
 refine a1g rfl ?_
 simp (disch:=omega) [go_sem,a1v]
 refine a0e hc rfl rfl ?_
 simp (disch:=omega) [go_sem]
 refine a7t hS.three (op:=6) (args:=args) (ins:=ins) (r:=r) hn hf (by simp (disch:=omega) [go_sem]) (fun e he hm s h=> ?_) (fun hm s h=> ?_)
 ·rw [hm]
  simp (disch:=omega) [go_sem,h,dn]
 rw [hm]
 clear hm hc e1 e2
 obtain ⟨a,b,rfl⟩:=c0l (h1.trans (by decide))
 have la:=hf a (by simp)
 have lb':=hf b (by simp)
 rw [sl2] at h
 by_cases hab:a=b
 ·subst hab
  have hr':r=(a,.nil):=by rw [<-hr]; simp [a15,a11]
  rw [hr']
  simp (disch:=omega) [go_sem,h]
  refine a0b ?_
  simp (disch:=omega) [go_sem,h]
  refine a0y (a40 a a (by omega) (by omega)) rfl rfl (by simp (disch:=omega) [go_sem,a0v,a8l]) [63] (by simp) (by simp (disch:=omega) [go_sem,h]) ?_
  simp (disch:=omega) [go_sem,h,a0v,a8l]
  refine a0d (by decide) fun s2 hs2 hes2=> ?_
  simp (disch:=omega) [go_sem,hs2,h]
  refine a0b ?_
  simp (disch:=omega) [go_sem,hs2,h]
  refine a0d (by decide) fun s3 hs3 hes3=> ?_
  simp (disch:=omega) [go_sem,hs3,hs2,h]
  refine a0e (a2s a.shape a.wide la) rfl (by simp only [owI,a0x,a03,a1q,Bool.and_true]) ?_
  simp (disch:=omega) [go_sem,hs3,hs2,h,a0t]
 ·have hr':r=bad 6:=by rw [<-hr]; simp [hab]
  rw [hr']
  simp (disch:=omega) [go_sem,h]
  refine a0b ?_
  simp (disch:=omega) [go_sem,h]
  refine a0y (a40 a b (by omega) (by omega)) rfl rfl (by simp (disch:=omega) [go_sem,a0v,a8l]) [63] (by simp) (by simp (disch:=omega) [go_sem,h,hab]) ?_
  simp (disch:=omega) [go_sem,h,hab,a0v,a8l]
  refine a0d (by decide) fun s2 hs2 hes2=> ?_
  simp (disch:=omega) [go_sem,hs2,h,hab]
  refine a0b ?_
  simp (disch:=omega) [go_sem,hs2,h,h7,bad,dn,a0t,Er.isNil]
  refine a0d (by decide) fun s4 hs4 hes4=> ?_
  simp (disch:=omega) [go_sem,hs4,hs2,h,h7,bad,dn,a0t,Er.isNil]
theorem c9z (hS:SentO G bk) (args:List Int) (ins:List Ds) (hf:∀ d∈ins,d.shape.length < 2 ^ 40)  (h1:ins.length=a2b 7) (h2:args.length=a1r 7):ACalls pg G a1s [li (7:Int),slI args,slD ins] (b25 bk (a6y 7 args ins)):=by
 have h7:=hS.val 0 (by decide)
 have h3:=hS.val 5 (by decide)
 have hn:ins.length < 2 ^ 40:=by
  rw [h1]; unfold a2b; split<;>(try split)<;>simp
 have e1:((a2b 7:Nat):Int)=(ins.length:Int):=by rw [h1]
 have e2:((a1r 7:Nat):Int)=(args.length:Int):=by rw [h2]
 unfold a6y
 generalize hr:(if (ins.length=2/\ins[0]! ≠ins[1]!)\/((7:Int)=10/\ins[0]!.wide=false)\/((7:Int)=11/\ins[0]!.wide=true) then bad 6 else if a15 7 args ins[0]!.wide=true then ((⟨ins[0]!.shape,a11 7 ins[0]!.wide⟩,.nil):Dr) else bad 3)=r
 have hc:=a3y (G:=G) 7 (by omega)
 rw [e1,e2] at hc
 refine a1g rfl ?_
 simp (disch:=omega) [go_sem,a1v]
 refine a0e hc rfl rfl ?_
 simp (disch:=omega) [go_sem]
 refine a7t hS.three (op:=7) (args:=args) (ins:=ins) (r:=r) hn hf (by simp (disch:=omega) [go_sem]) (fun e he hm s h=> ?_) (fun hm s h=> ?_)
 ·rw [hm]
  simp (disch:=omega) [go_sem,h,dn]
 rw [hm]
 clear hm hc e1 e2
 obtain ⟨a,b,rfl⟩:=c0l (h1.trans (by decide))
 have la:=hf a (by simp)
 have lb':=hf b (by simp)
 rw [sl2] at h
 by_cases hab:a=b
 ·subst hab
  have hr':r=(a,.nil):=by rw [<-hr]; simp [a15,a11]
  rw [hr']
  simp (disch:=omega) [go_sem,h]
  refine a0b ?_
  simp (disch:=omega) [go_sem,h]
  refine a0y (a40 a a (by omega) (by omega)) rfl rfl (by simp (disch:=omega) [go_sem,a0v,a8l]) [63] (by simp) (by simp (disch:=omega) [go_sem,h]) ?_
  simp (disch:=omega) [go_sem,h,a0v,a8l]
  refine a0d (by decide) fun s2 hs2 hes2=> ?_
  simp (disch:=omega) [go_sem,hs2,h]
  refine a0b ?_
  simp (disch:=omega) [go_sem,hs2,h]
  refine a0d (by decide) fun s3 hs3 hes3=> ?_
  simp (disch:=omega) [go_sem,hs3,hs2,h]
  refine a0e (a2s a.shape a.wide la) rfl (by simp only [owI,a0x,a03,a1q,Bool.and_true]) ?_
  simp (disch:=omega) [go_sem,hs3,hs2,h,a0t]
 ·have hr':r=bad 6:=by rw [<-hr]; simp [hab]
  rw [hr']
  simp (disch:=omega) [go_sem,h]
  refine a0b ?_
  simp (disch:=omega) [go_sem,h]
  refine a0y (a40 a b (by omega) (by omega)) rfl rfl (by simp (disch:=omega) [go_sem,a0v,a8l]) [63] (by simp) (by simp (disch:=omega) [go_sem,h,hab]) ?_
  simp (disch:=omega) [go_sem,h,hab,a0v,a8l]
  refine a0d (by decide) fun s2 hs2 hes2=> ?_
  simp (disch:=omega) [go_sem,hs2,h,hab]
  refine a0b ?_
  simp (disch:=omega) [go_sem,hs2,h,h7,bad,dn,a0t,Er.isNil]
  refine a0d (by decide) fun s4 hs4 hes4=> ?_
  simp (disch:=omega) [go_sem,hs4,hs2,h,h7,bad,dn,a0t,Er.isNil]
end
end Go.Ideal.Tryz
end
