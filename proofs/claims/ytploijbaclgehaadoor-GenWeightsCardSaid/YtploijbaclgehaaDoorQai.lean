/- Part Qai of the proof: walks on a machine that is proved sound. -/
import Derived.Test.YtploijbaclgehaaDoorQah
set_option linter.unusedVariables false
set_option linter.unusedSimpArgs false
set_option maxRecDepth 10000
section
namespace Go.Ideal.Tryd
def eqP {α:Type} (p:α->α->Bool):List α->List α->Bool
 | [],[]=>true
 | x::xs,y::ys=>p x y&&eqP p xs ys
 | _,_=>false
theorem d3u {α:Type} [DecidableEq α] {p:α->α->Bool}:∀ {a b:List α},(∀ x∈a,∀ y∈b,p x y=decide (x=y))->eqP p a b=decide (a=b)
 | [],[],h=>by simp [eqP]
 | [],_::_,_=>by simp [eqP]
 | _::_,[],_=>by simp [eqP]
 | x::xs,y::ys,h=>by
  rw [eqP,h x (by simp) y (by simp),d3u fun a ha b hb=>h a (by simp [ha]) b (by simp [hb])]
  by_cases h1:x=y<;>by_cases h2:xs=ys<;>simp [h1,h2]
theorem d1m {α:Type} {p:α->α->Bool} {a b:List α} {i:Nat} (h:i < a.length) (h2:i < b.length):eqP p (a.drop i) (b.drop i)=(p a[i] b[i]&&eqP p (a.drop (i+1)) (b.drop (i+1))):=by
 rw [List.drop_eq_getElem_cons h,List.drop_eq_getElem_cons h2]; rfl
section
variable {G:GG} {bk:Nat->Nat×Nat} {Q:Exit->St->Prop} {st:St}
theorem d1n (a b:List Int) (ha:a.length < 2 ^ 62) (hb:b.length < 2 ^ 62):ACalls pg G b0e [slI a,slI b] (lb (decide (a=b))):=by
 refine a88 rfl ?_
 by_cases hl:a.length=b.length
 ·have hl':(a.length:Int)=b.length:=by omega
  simp (disch:=omega) [go_sem,a4j,hl']
  refine a0x Nat (fun i st=>i<=a.length/\eqP (fun x y=>decide (x=y)) (a.drop i) (b.drop i)=decide (a=b)/\st.s 0=slI a/\st.s 1=slI b/\st.s 11=slI a/\st.s 12=li a.length/\st.s 13=li i) (fun i=>a.length - i) 0 ⟨by simp,d3u fun _ _ _ _=>rfl,by simp (disch:=omega) [go_sem,hl']⟩ ?_
  rintro i st K ⟨hi,hm,h⟩ hK
  by_cases hlt:i < a.length
  ·have hlt2:i < b.length:=by omega
   rw [d1m hlt hlt2] at hm
   simp (disch:=omega) [go_sem,a30,h,hlt]
   refine a0b ?_
   simp (disch:=omega) [go_sem,h,hlt]
   refine a0c (by decide) fun s2 hs he=> ?_
   by_cases k:a[i]=b[i]
   ·rw [decide_eq_true k,Bool.true_and] at hm
    simp (disch:=omega) [go_sem,hs,h,k]
    exact hK (i+1) _ ⟨by omega,hm,by simp (disch:=omega) [go_sem,hs,h]⟩ (by omega)
   ·rw [decide_eq_false k,Bool.false_and] at hm
    simp (disch:=omega) [go_sem,hs,h,k,<-hm]
  ·obtain rfl:i=a.length:=by omega
   rw [List.drop_length,hl,List.drop_length,eqP] at hm
   simp (disch:=omega) [go_sem,a30,h,<-hm]
 ·have hl':¬ (a.length:Int)=b.length:=by omega
  have hn:a≠b:=fun h=>hl (by rw [h])
  simp (disch:=omega) [go_sem,a4j,hl',hn]
theorem a6b (a b:Ds) (ha:a.shape.length < 2 ^ 62) (hb:b.shape.length < 2 ^ 62):ACalls pg G b88 [.agg (eD a),.agg (eD b)] (lb (decide (a=b))):=by
 refine b47 rfl ?_
 obtain ⟨s1,w1⟩:=a
 obtain ⟨s2,w2⟩:=b
 by_cases k:w1=w2
 ·simp (disch:=omega) [go_sem,a86,eD,k]
  refine a0i (d1n s1 s2 ha hb) rfl rfl ?_
  simp (disch:=omega) [go_sem,Ds.mk.injEq,k]
 ·simp (disch:=omega) [go_sem,a86,eD,k,Ds.mk.injEq]
structure Pl.fin (p:Pl):Prop where
 vl:p.views.length < 2 ^ 62
 cl:p.consts.length < 2 ^ 62
 wl:p.weights.length < 2 ^ 62
 il:p.code.length < 2 ^ 62
 vs:∀ x∈p.views,x.shape.length < 2 ^ 62
 cs:∀ x∈p.consts,x.shape.length < 2 ^ 62/\x.data.length < 2 ^ 62
 ws:∀ x∈p.weights,x.shape.length < 2 ^ 62
 is:∀ x∈p.code,x.ins.length < 2 ^ 62/\x.args.length < 2 ^ 62
end
end Go.Ideal.Tryd
end
section
namespace Go.Ideal
theorem ACalls.frz {P:Program} {G:GG} {f:FuncId} {pre:List AV} {res:AV} (h:ACalls P G f pre res):ACalls P G f pre (Ideal.frz res):=by
 intro w args A ow h1 h2 h3 h4 h5
 refine (h w args A ow h1 h2 h3 h4 h5).mono ?_
 rintro e w' ⟨v,rfl,hr⟩
 refine ⟨v,rfl,hr.le,hr.os,hr.tape,hr.output,hr.frame,noB,fun _ h=>h.elim,?_⟩
 obtain ⟨F,hF,hR⟩:=hr.own
 exact c2g (fun b hb=>⟨hb.1,fun h=>h,hb.2.2⟩) res (fun b hb=>⟨(hF b hb).2,fun h=>h,(hF b hb).1.elim (fun h=> .inr (.inl h)) fun h=> .inr (.inr h)⟩) hR
theorem ACalls.shown {P:Program} {G:GG} {f:FuncId} {pre:List AV} {res res':AV} (h:ACalls P G f pre res) (he:Ideal.frz res=res'):ACalls P G f pre res':=he ▸ h.frz
section
variable {N:Nat} {st st1 st2:St} {P:Program} {G:GG} {K:St->Prop}
def b0t (N:Nat) (a b:St):Prop:=(∀ u,u < N->b.s u=a.s u)/\∀ u,b.ep u=a.ep u
@[congr] theorem d5m {a b b':St} (h:b=b'):b0t N a b=b0t N a b':=by rw [h]
@[go_sem] theorem d89:b0t N st st=True:=by simp [b0t]
def d3t (N:Nat) (a b:St):Prop:=b0t N a b
@[go_sem] theorem e3f {t:Nat} {v:AV}:b0t N st1 (st2.put t v)=frI (decide (N<=t)&& !nm v) (b0t N st1 st2) (d3t N st1 (st2.put t v)):=by
 simp only [frI,d3t]
 split
 ·rename_i h
  simp only [Bool.and_eq_true,decide_eq_true_eq,Bool.not_eq_true'] at h
  apply propext
  simp only [b0t,St.put_s,St.put_ep,h.2,Bool.false_eq_true,and_false,if_false]
  constructor
  ·rintro ⟨h1,h2⟩
   exact ⟨fun u hu=>by have:=h1 u hu; rwa [if_neg (by omega)] at this,h2⟩
  ·rintro ⟨h1,h2⟩
   exact ⟨fun u hu=>by rw [if_neg (by omega)]; exact h1 u hu,h2⟩
 ·rfl
theorem b6c {T:List (Nat×AV)} {d:Option Nat} {res:AV} (h:b0t N st1 st2):c5q st2 N T d res=c5q st1 N T d res:=by
 have e:st2.lentS N T=st1.lentS N T:=by
  refine St.ext' (fun u=> ?_) (fun u=>h.2 u)
  simp only [St.lentS]
  by_cases hu:u < N
  ·simp [hu,h.1 u hu]
  ·simp [hu]
 cases d<;>simp only [c5q,e]
theorem b1u {d:Option Nat} {res:AV} (h:b0t N st1 st2):b0u st2 N d res=b0u st1 N d res:=by
 have e:st2.clear N=st1.clear N:=by
  refine St.ext' (fun u=> ?_) (fun u=>h.2 u)
  simp only [St.clear]
  by_cases hu:u < N
  ·simp [hu,h.1 u hu]
  ·simp [hu]
 cases d<;>simp only [b0u,e]
theorem b7h {d:Option Nat} {f:FuncId} {pre:List AV} {L:List (Nat×Nat)} {res:AV} {posts:List (Nat×AV)} (hA:ACallsX P G f pre res posts) (hn:noRef res=true) (hp:posts.map (·.1)=L.map (·.2)) (hv:(posts.all fun p=>c6r pre p)=true) (h12:b0t N st1 st2)
  (h:K (c5q st1 N ((L.map (·.1)).zip (posts.map (·.2))) d res)):clx P G N d f pre L st1 st2 K:=d47 hA hn hp hv h (by rw [b6c h12]; exact h)
theorem a0k {d:Option Nat} {f:FuncId} {pre:List AV} {res:AV} (hA:ACalls P G f pre res) (hn:noRef res=true) (h12:b0t N st1 st2) (h:K (b0u st1 N d res)):cal P G N d f pre st1 st2 K:=a7t hA hn h (by rw [b1u h12]; exact h)
theorem a8q {aft:DA} {rest:List AO} {fps:List (List Nat×List Nat)} {d:Option Nat} {f:FuncId} {st:St} {pre:List AV} {rd:List Nat} {res:AV} (hA:ACalls P G f pre res) (hn:noRef res=true) (h12:b0t N st1 st2) (hrd:∀ t∈rd,t < N) (W:List Nat) (hW:∀ t∈W,t < N) (hf:fr N W st (b0u st1 N d res)) (h:a62 aft.2 (b0u st1 N d res)/\a65 P G N aft rest (fps++[(rd,W)]) K (b0u st1 N d res)):c31 P G N aft d f pre rd rest fps K st st1 st2:=by
 cases hi:a0y res with
 | true=>exact a0w hA hn hi hrd W hW hf h
 | false=>exact d1a hA hn hi hrd W hW (by rw [b1u h12]; exact hf) (by rw [b1u h12]; exact h)
end
namespace Tryd
section
variable {bk:Nat->Nat×Nat} {e:Er} {st:St} {N d t j:Nat} {x:X}
@[go_sem] theorem f8b:nm (a0r bk e)=false:=by cases e<;>rfl
@[go_sem] theorem e00:a0p (a0r bk e)=none:=by cases e<;>rfl
@[go_sem] theorem d4r:a2o (a0r bk e)=none:=by cases e<;>rfl
@[go_sem] theorem f01:frz (a0r bk e)=a0r bk e:=by cases e<;>simp only [a0r,frz]
@[go_sem] theorem d9s {kl:Nat->List Nat->Bool}:a08 kl (a0r bk e)=a0r bk e:=by cases e<;>simp only [a0r,a08]
@[go_sem] theorem f1z:mvS st d x (a0r bk e)=some (st.put d (a0r bk e)):=by cases e<;>simp [a0r,mvS,a0n]
@[go_sem] theorem e1u:b7g st N d (.t t) (a0r bk e)=some (st.put d (a0r bk e)):=by cases e<;>simp [a0r,go_sem]
@[go_sem] theorem f1e {q:List Nat} {o:Nat}:ldK st t q o (some (a0r bk e))=some (a0r bk e):=by cases e<;>simp [a0r,ldK,a0n]
@[go_sem] theorem f2r:psS st N (.t t) j (a0r bk e)=some (st.put j (a0r bk e)):=by cases e<;>simp [a0r,go_sem]
@[go_sem] theorem f06:gvS st N (.t t) j (a0r bk e)=some (st.put j (a0r bk e)):=by cases e<;>simp [a0r,go_sem]
@[go_sem] theorem e3u {i:Nat} {ks:List AV}:d5o st N d (.t t) i ks (some (a0r bk e))=some (st.put d (a0r bk e)):=by cases e<;>simp [a0r,go_sem]
@[go_sem] theorem f0k:a3g .eql 2 (a0r bk e) (.lit .nilIface)=some (.lit (.bool e.isNil)):=by cases e<;>rfl
@[go_sem] theorem f12:a3g .neq 2 (a0r bk e) (.lit .nilIface)=some (.lit (.bool !e.isNil)):=by cases e<;>rfl
def kE (st:St) (t:Nat):Er->St
 | .at _ _=>st.put t .dead
 | _=>st
@[go_sem] theorem f05:giv st N (.t t) (a0r bk e)=some (kE st t e,[a0r bk e]):=by cases e<;>simp [a0r,go_sem,kE,d0f]
@[go_sem] theorem g6k {u:Nat} (h:u≠t):(kE st t e).s u=st.s u:=by cases e<;>simp [kE,h]
@[go_sem] theorem g5j {u:Nat}:(kE st t e).ep u=st.ep u:=by cases e<;>simp [kE,St.put_ep,a0p]
end
end Tryd
end Go.Ideal
end
