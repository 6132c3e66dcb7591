/- Part Qas of the proof: walks on a machine that is proved sound. -/
import Derived.Test.YtploijbaclgehaaDoorQao
set_option linter.unusedVariables false
set_option linter.unusedSimpArgs false
set_option maxHeartbeats 8000000
set_option maxRecDepth 200000
section
namespace Go.Ideal.Tryd
attribute [local go_sem] eD eT eV
section
variable {G:GG} {bk:Nat->Nat×Nat} {Q:Exit->St->Prop} {st:St}
theorem d1j (hS:SentO G bk) (args:List Int) (ins:List Ds) (hf:∀ d∈ins,d.shape.length < 2 ^ 40)  (h1:ins.length=a23 9) (h2:args.length=a2d 9):ACalls pg G a1t [li (9:Int),slI args,slD ins] (b5u bk (a67 9 args ins)):=by
 have h7:=hS.val 5 (by decide)
 have h3:=hS.val 7 (by decide)
 have hn:ins.length < 2 ^ 40:=by
  rw [h1]; unfold a23; split<;>(try split)<;>simp
 have e1:((a23 9:Nat):Int)=(ins.length:Int):=by rw [h1]
 have e2:((a2d 9:Nat):Int)=(args.length:Int):=by rw [h2]
 unfold a67
 generalize hr:(if (ins.length=2/\ins[0]! ≠ins[1]!)\/((9:Int)=10/\ins[0]!.wide=false)\/((9:Int)=11/\ins[0]!.wide=true) then bad 6 else if a16 9 args ins[0]!.wide=true then ((⟨ins[0]!.shape,a1w 9 ins[0]!.wide⟩,.nil):Dr) else bad 3)=r
 have hc:=a47 (G:=G) 9 (by omega)
 rw [e1,e2] at hc
 refine a1g rfl ?_
 simp (disch:=omega) [go_sem,a1x]
 refine a0i hc rfl rfl ?_
 simp (disch:=omega) [go_sem]
 refine a8r hS.three (op:=9) (args:=args) (ins:=ins) (r:=r) hn hf (by simp (disch:=omega) [go_sem]) (fun e he hm s h=> ?_) (fun hm s h=> ?_)
 ·rw [hm]
  simp (disch:=omega) [go_sem,h,dn]
 rw [hm]
 clear hm hc e1 e2
 obtain ⟨a,rfl⟩:=b8u (h1.trans (by decide))
 have la:=hf a (by simp)
 rw [sl1] at h
 obtain ⟨x,y,rfl⟩:=b3k (h2.trans (by decide))
 have hr':r=if (decide (x<=y)&&(b8s x a.wide&&b8s y a.wide))=true then (a,.nil) else bad 3:=by rw [<-hr]; simp [a16,a1w]
 generalize hb:(decide (x<=y)&&(b8s x a.wide&&b8s y a.wide))=b at hr'
 rw [hr']
 clear hr hr'
 simp (disch:=omega) [go_sem,h]
 refine a0b ?_
 simp (disch:=omega) [go_sem,h]
 refine a0c (by decide) fun s2 hs2 hes2=> ?_
 simp (disch:=omega) [go_sem,hs2,h]
 refine a0b ?_
 simp (disch:=omega) [go_sem,hs2,h]
 refine a0c (by decide) fun s3 hs3 hes3=> ?_
 simp (disch:=omega) [go_sem,hs3,hs2,h]
 by_cases c:x<=y
 ·
  refine a0b ?_
  simp (disch:=omega) [go_sem,hs3,hs2,h,c]
  refine a0w (d2p x a.wide) rfl rfl (by simp (disch:=omega) [go_sem,a0v,a9d]) [103] (by simp) (by simp (disch:=omega) [go_sem,hs3,hs2,h,c]) ?_
  simp (disch:=omega) [go_sem,hs3,hs2,h,c,a0v,a9d]
  cases f1:b8s x a.wide
  ·have hb':b=false:=by rw [<-hb]; simp [f1]
   rw [hb',if_neg (by simp)]
   simp (disch:=omega) [go_sem,hs3,hs2,h,c,f1]
   refine a0c (by decide) fun s4 hs4 hes4=> ?_
   simp (disch:=omega) [go_sem,hs4,hs3,hs2,h,c,f1]
   refine a0b ?_
   simp (disch:=omega) [go_sem,hs4,hs3,hs2,h,h3,bad,dn,a0r]
   refine a0c (by decide) fun s9 hs9 hes9=> ?_
   simp (disch:=omega) [go_sem,hs9,hs4,hs3,hs2,h,h3,bad,dn,a0r]
  simp (disch:=omega) [go_sem,hs3,hs2,h,c,f1,a0v,a9d]
  refine a0w (d2p y a.wide) rfl rfl (by simp (disch:=omega) [go_sem,a0v,a9d]) [111] (by simp) (by simp (disch:=omega) [go_sem,hs3,hs2,h,c,f1]) ?_
  simp (disch:=omega) [go_sem,hs3,hs2,h,c,f1,a0v,a9d]
  cases f2:b8s y a.wide
  ·have hb':b=false:=by rw [<-hb]; simp [f2]
   rw [hb',if_neg (by simp)]
   refine a0c (by decide) fun s4 hs4 hes4=> ?_
   simp (disch:=omega) [go_sem,hs4,hs3,hs2,h,c,f1,f2]
   refine a0b ?_
   simp (disch:=omega) [go_sem,hs4,hs3,hs2,h,h3,bad,dn,a0r]
   refine a0c (by decide) fun s9 hs9 hes9=> ?_
   simp (disch:=omega) [go_sem,hs9,hs4,hs3,hs2,h,h3,bad,dn,a0r]
  have hb':b=true:=by rw [<-hb]; simp [c,f1,f2]
  rw [hb',if_pos rfl]
  refine a0c (by decide) fun s4 hs4 hes4=> ?_
  simp (disch:=omega) [go_sem,hs4,hs3,hs2,h,c,f1,f2]
  refine a0i (a2b a.shape a.wide la) rfl (by simp only [owI,a0y,a0z,a1i,Bool.and_true]) ?_
  simp (disch:=omega) [go_sem,hs4,hs3,hs2,h,a0r]
 ·have hb':b=false:=by rw [<-hb]; simp [c]
  rw [hb',if_neg (by simp)]
  refine a0b ?_
  simp (disch:=omega) [go_sem,hs3,hs2,h,c]
  refine a0c (by decide) fun s4 hs4 hes4=> ?_
  simp (disch:=omega) [go_sem,hs4,hs3,hs2,h,c]
  refine a0b ?_
  simp (disch:=omega) [go_sem,hs4,hs3,hs2,h,h3,bad,dn,a0r]
  refine a0c (by decide) fun s9 hs9 hes9=> ?_
  simp (disch:=omega) [go_sem,hs9,hs4,hs3,hs2,h,h3,bad,dn,a0r]
end
end Go.Ideal.Tryd
end
