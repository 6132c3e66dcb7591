/- Part Qai of the proof: walks on a machine that is proved sound. -/
import Derived.Test.YtlemfkimffoiiaaGreatDoorQah
set_option linter.unusedVariables false
set_option linter.unusedSimpArgs false
set_option maxRecDepth 10000
section
namespace Go.Ideal.Tryz
structure Ds where
 shape:List Int
 wide:Bool
 deriving DecidableEq
structure Tn where
 shape:List Int
 wide:Bool
 data:List Int
 deriving DecidableEq
structure Vw where
 off:Int
 shape:List Int
 wide:Bool
 deriving DecidableEq
structure In where
 op:Int
 dst:Int
 ins:List Int
 args:List Int
 frm:Int
 to:Int
 deriving DecidableEq
structure Pl where
 size:Int
 views:List Vw
 consts:List Tn
 weights:List Ds
 code:List In
 input:Int
 output:Int
 deriving DecidableEq
def eD (d:Ds):List AV:=[slI d.shape,lb d.wide]
def eT (d:Tn):List AV:=[slI d.shape,lb d.wide,slI d.data]
def eV (d:Vw):List AV:=[li d.off,slI d.shape,lb d.wide]
def eI (d:In):List AV:=[li d.op,li d.dst,slI d.ins,slI d.args,li d.frm,li d.to]
def oD (d:Ds):List AV:=[owI d.shape,lb d.wide]
def oT (d:Tn):List AV:=[owI d.shape,lb d.wide,owI d.data]
def oV (d:Vw):List AV:=[li d.off,owI d.shape,lb d.wide]
def oI (d:In):List AV:=[li d.op,li d.dst,owI d.ins,owI d.args,li d.frm,li d.to]
@[go_sem] theorem f9z {xs:List Ds}:(fm eD xs).length=xs.length*2:=a4s fun _=>rfl
@[go_sem] theorem f9y {xs:List Ds} {i:Nat} (h:i < xs.length):((fm eD xs).drop (i*2)).take 2=[slI xs[i].shape,lb xs[i].wide]:=a81 (f:=eD) (k:=2) (fun _=>rfl) h
@[go_sem] theorem f2w {xs:List Ds}:(fm eD xs).take (xs.length*2)=fm eD xs:=a4f fun _=>rfl
@[go_sem] theorem e73 {xs:List Ds}:a0m (fm eD xs)=true:=a8o fun _=>rfl
@[go_sem] theorem f9x {xs:List Ds}:a1k (fm eD xs)=fm eD xs:=by
 rw [a7g]; congr 1
@[go_sem] theorem g1s {xs:List Ds}:(fm oD xs).length=xs.length*2:=a4s fun _=>rfl
@[go_sem] theorem f6r {xs:List Ds}:(fm oD xs).take (xs.length*2)=fm oD xs:=a4f fun _=>rfl
@[go_sem] theorem g1r {xs:List Ds}:a1k (fm oD xs)=fm eD xs:=by
 rw [a7g]
 congr 1
 funext n
 simp [oD,eD,go_sem]
@[go_sem] theorem f0a {xs:List Ds}:a03 (fm oD xs)=true:=a8n fun n=>by simp [oD,go_sem]
@[go_sem] theorem f98 {xs:List Tn}:(fm eT xs).length=xs.length*3:=a4s fun _=>rfl
@[go_sem] theorem f97 {xs:List Tn} {i:Nat} (h:i < xs.length):((fm eT xs).drop (i*3)).take 3=[slI xs[i].shape,lb xs[i].wide,slI xs[i].data]:=a81 (f:=eT) (k:=3) (fun _=>rfl) h
@[go_sem] theorem f3b {xs:List Tn}:(fm eT xs).take (xs.length*3)=fm eT xs:=a4f fun _=>rfl
@[go_sem] theorem e79 {xs:List Tn}:a0m (fm eT xs)=true:=a8o fun _=>rfl
@[go_sem] theorem f96 {xs:List Tn}:a1k (fm eT xs)=fm eT xs:=by
 rw [a7g]; congr 1
@[go_sem] theorem g1v {xs:List Tn}:(fm oT xs).length=xs.length*3:=a4s fun _=>rfl
@[go_sem] theorem d40 {xs:List Tn}:(fm oT xs).take (xs.length*3)=fm oT xs:=a4f fun _=>rfl
@[go_sem] theorem d2o {xs:List Tn}:a1k (fm oT xs)=fm eT xs:=by
 rw [a7g]
 congr 1
 funext n
 simp [oT,eT,go_sem]
@[go_sem] theorem d06 {xs:List Tn}:a03 (fm oT xs)=true:=a8n fun n=>by simp [oT,go_sem]
@[go_sem] theorem g0a {xs:List Vw}:(fm eV xs).length=xs.length*3:=a4s fun _=>rfl
@[go_sem] theorem e09 {xs:List Vw} {i:Nat} (h:i < xs.length):((fm eV xs).drop (i*3)).take 3=[li xs[i].off,slI xs[i].shape,lb xs[i].wide]:=a81 (f:=eV) (k:=3) (fun _=>rfl) h
@[go_sem] theorem f3e {xs:List Vw}:(fm eV xs).take (xs.length*3)=fm eV xs:=a4f fun _=>rfl
@[go_sem] theorem e8a {xs:List Vw}:a0m (fm eV xs)=true:=a8o fun _=>rfl
@[go_sem] theorem f99 {xs:List Vw}:a1k (fm eV xs)=fm eV xs:=by
 rw [a7g]; congr 1
@[go_sem] theorem g1x {xs:List Vw}:(fm oV xs).length=xs.length*3:=a4s fun _=>rfl
@[go_sem] theorem f6v {xs:List Vw}:(fm oV xs).take (xs.length*3)=fm oV xs:=a4f fun _=>rfl
@[go_sem] theorem g1w {xs:List Vw}:a1k (fm oV xs)=fm eV xs:=by
 rw [a7g]
 congr 1
 funext n
 simp [oV,eV,go_sem]
@[go_sem] theorem f0d {xs:List Vw}:a03 (fm oV xs)=true:=a8n fun n=>by simp [oV,go_sem]
@[go_sem] theorem f92 {xs:List In}:(fm eI xs).length=xs.length*6:=a4s fun _=>rfl
@[go_sem] theorem f91 {xs:List In} {i:Nat} (h:i < xs.length):((fm eI xs).drop (i*6)).take 6=[li xs[i].op,li xs[i].dst,slI xs[i].ins,slI xs[i].args,li xs[i].frm,li xs[i].to]:=a81 (f:=eI) (k:=6) (fun _=>rfl) h
@[go_sem] theorem f2y {xs:List In}:(fm eI xs).take (xs.length*6)=fm eI xs:=a4f fun _=>rfl
@[go_sem] theorem e74 {xs:List In}:a0m (fm eI xs)=true:=a8o fun _=>rfl
@[go_sem] theorem f90 {xs:List In}:a1k (fm eI xs)=fm eI xs:=by
 rw [a7g]; congr 1
@[go_sem] theorem g1u {xs:List In}:(fm oI xs).length=xs.length*6:=a4s fun _=>rfl
@[go_sem] theorem f6s {xs:List In}:(fm oI xs).take (xs.length*6)=fm oI xs:=a4f fun _=>rfl
@[go_sem] theorem g1t {xs:List In}:a1k (fm oI xs)=fm eI xs:=by
 rw [a7g]
 congr 1
 funext n
 simp [oI,eI,go_sem]
@[go_sem] theorem f0b {xs:List In}:a03 (fm oI xs)=true:=a8n fun n=>by simp [oI,go_sem]
abbrev slD (xs:List Ds):AV:= .sl xs.length (fm eD xs)
abbrev slT (xs:List Tn):AV:= .sl xs.length (fm eT xs)
abbrev slV (xs:List Vw):AV:= .sl xs.length (fm eV xs)
abbrev slJ (xs:List In):AV:= .sl xs.length (fm eI xs)
def eP (p:Pl):List AV:=[li p.size,slV p.views,slT p.consts,slD p.weights,slJ p.code,li p.input,li p.output]
section
variable {G:GG} {bk:Nat->Nat×Nat} {Q:Exit->St->Prop} {st:St}
theorem b1f (xs:List Int) (h:xs.length < 2 ^ 40):ACalls pg G a90 [slI xs] (owI xs):=by
 refine a8e rfl ?_
 simp (disch:=omega) [go_sem,a52]
 refine f6q fun b hb=> ?_
 cases b with
 | true=>
  have:xs=[]:=by simpa using hb rfl
  subst this
  simp (disch:=omega) [go_sem]
 | false=>simp (disch:=omega) [go_sem]
theorem a2s (sh:List Int) (w:Bool) (hlen:sh.length < 2 ^ 40):ACalls pg G b6q [.agg [slI sh,lb w]] (.agg [owI sh,lb w]):=by
 refine b2z rfl ?_
 simp (disch:=omega) [go_sem,b02]
 refine a0b ?_
 simp (disch:=omega) [go_sem]
 refine a0y (b1f sh hlen) rfl (a6n _) (by simp) [5] (by simp) (by simp (disch:=omega) [go_sem]) ?_
 simp (disch:=omega) [go_sem]
 refine a0d (by decide) fun s2 hs he=> ?_
 simp (disch:=omega) [go_sem,hs]
theorem b6y (sh:List Int) (w:Bool) (data:List Int) (hlen:sh.length < 2 ^ 40) (hl:data.length < 2 ^ 40):ACalls pg G b8m [e6w sh w data] (.agg [owI sh,lb w,owI data]):=by
 refine b4y rfl ?_
 simp (disch:=omega) [go_sem,b2n]
 refine a0b ?_
 simp (disch:=omega) [go_sem]
 refine a0y (a2s sh w hlen) rfl (by simp [a0x,a03,a1q]) (by simp) [5] (by simp) (by simp (disch:=omega) [go_sem]) ?_
 simp (disch:=omega) [go_sem]
 refine a0y (b1f data hl) rfl (a6n _) (by simp) [8] (by simp) (by simp (disch:=omega) [go_sem]) ?_
 simp (disch:=omega) [go_sem]
 refine a0d (by decide) fun s2 hs he=> ?_
 simp (disch:=omega) [go_sem,hs]
end
def eqP {α:Type} (p:α->α->Bool):List α->List α->Bool
 | [],[]=>true
 | x::xs,y::ys=>p x y&&eqP p xs ys
 | _,_=>false
theorem d2c {α:Type} [DecidableEq α] {p:α->α->Bool}:∀ {a b:List α},(∀ x∈a,∀ y∈b,p x y=decide (x=y))->eqP p a b=decide (a=b)
 | [],[],h=>by simp [eqP]
 | [],_::_,_=>by simp [eqP]
 | _::_,[],_=>by simp [eqP]
 | x::xs,y::ys,h=>by
  rw [eqP,h x (by simp) y (by simp),d2c fun a ha b hb=>h a (by simp [ha]) b (by simp [hb])]
  by_cases h1:x=y<;>by_cases h2:xs=ys<;>simp [h1,h2]
theorem c97 {α:Type} {p:α->α->Bool} {a b:List α} {i:Nat} (h:i < a.length) (h2:i < b.length):eqP p (a.drop i) (b.drop i)=(p a[i] b[i]&&eqP p (a.drop (i+1)) (b.drop (i+1))):=by
 rw [List.drop_eq_getElem_cons h,List.drop_eq_getElem_cons h2]; rfl
section
variable {G:GG} {bk:Nat->Nat×Nat} {Q:Exit->St->Prop} {st:St}
theorem c98 (a b:List Int) (ha:a.length < 2 ^ 62) (hb:b.length < 2 ^ 62):ACalls pg G a91 [slI a,slI b] (lb (decide (a=b))):=by
 refine a8f rfl ?_
 by_cases hl:a.length=b.length
 ·have hl':(a.length:Int)=b.length:=by omega
  simp (disch:=omega) [go_sem,a36,hl']
  refine a1c Nat (fun i st=>i<=a.length/\eqP (fun x y=>decide (x=y)) (a.drop i) (b.drop i)=decide (a=b)/\st.s 0=slI a/\st.s 1=slI b/\st.s 11=slI a/\st.s 12=li a.length/\st.s 13=li i) (fun i=>a.length - i) 0 ⟨by simp,d2c fun _ _ _ _=>rfl,by simp (disch:=omega) [go_sem,hl']⟩ ?_
  rintro i st K ⟨hi,hm,h⟩ hK
  by_cases hlt:i < a.length
  ·have hlt2:i < b.length:=by omega
   rw [c97 hlt hlt2] at hm
   simp (disch:=omega) [go_sem,a3s,h,hlt]
   refine a0b ?_
   simp (disch:=omega) [go_sem,h,hlt]
   refine a0d (by decide) fun s2 hs he=> ?_
   by_cases k:a[i]=b[i]
   ·rw [decide_eq_true k,Bool.true_and] at hm
    simp (disch:=omega) [go_sem,hs,h,k]
    exact hK (i+1) _ ⟨by omega,hm,by simp (disch:=omega) [go_sem,hs,h]⟩ (by omega)
   ·rw [decide_eq_false k,Bool.false_and] at hm
    simp (disch:=omega) [go_sem,hs,h,k,<-hm]
  ·obtain rfl:i=a.length:=by omega
   rw [List.drop_length,hl,List.drop_length,eqP] at hm
   simp (disch:=omega) [go_sem,a3s,h,<-hm]
 ·have hl':¬ (a.length:Int)=b.length:=by omega
  have hn:a≠b:=fun h=>hl (by rw [h])
  simp (disch:=omega) [go_sem,a36,hl',hn]
theorem a40 (a b:Ds) (ha:a.shape.length < 2 ^ 62) (hb:b.shape.length < 2 ^ 62):ACalls pg G b10 [.agg (eD a),.agg (eD b)] (lb (decide (a=b))):=by
 refine b4s rfl ?_
 obtain ⟨s1,w1⟩:=a
 obtain ⟨s2,w2⟩:=b
 by_cases k:w1=w2
 ·simp (disch:=omega) [go_sem,a8d,eD,k]
  refine a0e (c98 s1 s2 ha hb) rfl rfl ?_
  simp (disch:=omega) [go_sem,Ds.mk.injEq,k]
 ·simp (disch:=omega) [go_sem,a8d,eD,k,Ds.mk.injEq]
structure Pl.fin (p:Pl):Prop where
 vl:p.views.length < 2 ^ 62
 cl:p.consts.length < 2 ^ 62
 wl:p.weights.length < 2 ^ 62
 il:p.code.length < 2 ^ 62
 vs:∀ x∈p.views,x.shape.length < 2 ^ 62
 cs:∀ x∈p.consts,x.shape.length < 2 ^ 62/\x.data.length < 2 ^ 62
 ws:∀ x∈p.weights,x.shape.length < 2 ^ 62
 is:∀ x∈p.code,x.ins.length < 2 ^ 62/\x.args.length < 2 ^ 62
end
end Go.Ideal.Tryz
end
section
namespace Go.Ideal
theorem ACalls.frz {P:Program} {G:GG} {f:FuncId} {pre:List AV} {res:AV} (h:ACalls P G f pre res):ACalls P G f pre (Ideal.frz res):=by
 intro w args A ow h1 h2 h3 h4 h5
 refine (h w args A ow h1 h2 h3 h4 h5).mono ?_
 rintro e w' ⟨v,rfl,hr⟩
 refine ⟨v,rfl,hr.le,hr.os,hr.tape,hr.output,hr.frame,noB,fun _ h=>h.elim,?_⟩
 obtain ⟨F,hF,hR⟩:=hr.own
 exact c1r (fun b hb=>⟨hb.1,fun h=>h,hb.2.2⟩) res (fun b hb=>⟨(hF b hb).2,fun h=>h,(hF b hb).1.elim (fun h=> .inr (.inl h)) fun h=> .inr (.inr h)⟩) hR
theorem ACalls.shown {P:Program} {G:GG} {f:FuncId} {pre:List AV} {res res':AV} (h:ACalls P G f pre res) (he:Ideal.frz res=res'):ACalls P G f pre res':=he ▸ h.frz
end Go.Ideal
end
section
namespace Go.Ideal.Tryz
def b0o:IC:=(.seq (.reg [oo 4 (.asg (.c (.bool false)))]) (.seq (.reg [om 5 0,
 om 6 1,
 oc 7 14 [(false,(.t 6))] [3],
 oc 8 13 [(false,(.t 5)),(false,(.t 7))] [38,51],
 oo 4 (.asg (.t 8))]) .ret))
abbrev a9z:Nat:=9
theorem b2x:fnC pg 9 9 [(.tmp 4)] b0o:=a0w Go.Proofs.Tryz.f9 [(.tmp 4)] (by kernel_rfl)
@[go_sem] theorem c7i:fnB pg 9=true:=by kernel_rfl
def b40:IC:=(.seq (.reg [oo 2 (.asg (.n 0))]) (.seq (.reg [om 3 0,
 oo 4 (.conv 3 36 (.int .u64) (.t 3)),
 oo 5 (.conv 36 35 (.int .u32) (.t 4)),
 oo 6 (.conv 35 21 (.int .i32) (.t 5)),
 oo 7 (.conv 21 3 (.int .i64) (.t 6)),
 oo 2 (.asg (.t 7))]) .ret))
abbrev c0t:Nat:=67
theorem b5h:fnC pg 67 8 [(.tmp 2)] b40:=a0w Go.Proofs.Tryz.f67 [(.tmp 2)] (by kernel_rfl)
@[go_sem] theorem d1p:fnB pg 67=true:=by kernel_rfl
end Go.Ideal.Tryz
end
section
namespace Go.Ideal
section
variable {N:Nat} {st st1 st2:St} {P:Program} {G:GG} {K:St->Prop}
def b1j (N:Nat) (a b:St):Prop:=(∀ u,u < N->b.s u=a.s u)/\∀ u,b.ep u=a.ep u
@[congr] theorem d31 {a b b':St} (h:b=b'):b1j N a b=b1j N a b':=by rw [h]
@[go_sem] theorem d7d:b1j N st st=True:=by simp [b1j]
def d2b (N:Nat) (a b:St):Prop:=b1j N a b
@[go_sem] theorem e1e {t:Nat} {v:AV}:b1j N st1 (st2.put t v)=frI (decide (N<=t)&& !nm v) (b1j N st1 st2) (d2b N st1 (st2.put t v)):=by
 simp only [frI,d2b]
 split
 ·rename_i h
  simp only [Bool.and_eq_true,decide_eq_true_eq,Bool.not_eq_true'] at h
  apply propext
  simp only [b1j,St.put_s,St.put_ep,h.2,Bool.false_eq_true,and_false,if_false]
  constructor
  ·rintro ⟨h1,h2⟩
   exact ⟨fun u hu=>by have:=h1 u hu; rwa [if_neg (by omega)] at this,h2⟩
  ·rintro ⟨h1,h2⟩
   exact ⟨fun u hu=>by rw [if_neg (by omega)]; exact h1 u hu,h2⟩
 ·rfl
theorem c4i {T:List (Nat×AV)} {d:Option Nat} {res:AV} (h:b1j N st1 st2):c4l st2 N T d res=c4l st1 N T d res:=by
 have e:st2.lentS N T=st1.lentS N T:=by
  refine St.ext' (fun u=> ?_) (fun u=>h.2 u)
  simp only [St.lentS]
  by_cases hu:u < N
  ·simp [hu,h.1 u hu]
  ·simp [hu]
 cases d<;>simp only [c4l,e]
theorem b1k {d:Option Nat} {res:AV} (h:b1j N st1 st2):a9w st2 N d res=a9w st1 N d res:=by
 have e:st2.clear N=st1.clear N:=by
  refine St.ext' (fun u=> ?_) (fun u=>h.2 u)
  simp only [St.clear]
  by_cases hu:u < N
  ·simp [hu,h.1 u hu]
  ·simp [hu]
 cases d<;>simp only [a9w,e]
theorem b6z {d:Option Nat} {f:FuncId} {pre:List AV} {L:List (Nat×Nat)} {res:AV} {posts:List (Nat×AV)} (hA:ACallsX P G f pre res posts) (hn:noRef res=true) (hp:posts.map (·.1)=L.map (·.2)) (hv:(posts.all fun p=>c0h pre p)=true) (h12:b1j N st1 st2)
  (h:K (c4l st1 N ((L.map (·.1)).zip (posts.map (·.2))) d res)):clx P G N d f pre L st1 st2 K:=d3n hA hn hp hv h (by rw [c4i h12]; exact h)
theorem a0j {d:Option Nat} {f:FuncId} {pre:List AV} {res:AV} (hA:ACalls P G f pre res) (hn:noRef res=true) (h12:b1j N st1 st2) (h:K (a9w st1 N d res)):cal P G N d f pre st1 st2 K:=b1d hA hn h (by rw [b1k h12]; exact h)
theorem a99 {aft:DA} {rest:List AO} {fps:List (List Nat×List Nat)} {d:Option Nat} {f:FuncId} {st:St} {pre:List AV} {rd:List Nat} {res:AV} (hA:ACalls P G f pre res) (hn:noRef res=true) (h12:b1j N st1 st2) (hrd:∀ t∈rd,t < N) (W:List Nat) (hW:∀ t∈W,t < N) (hf:fr N W st (a9w st1 N d res)) (h:a6b aft.2 (a9w st1 N d res)/\a6c P G N aft rest (fps++[(rd,W)]) K (a9w st1 N d res)):c25 P G N aft d f pre rd rest fps K st st1 st2:=by
 cases hi:a0x res with
 | true=>exact a0y hA hn hi hrd W hW hf h
 | false=>exact c26 hA hn hi hrd W hW (by rw [b1k h12]; exact hf) (by rw [b1k h12]; exact h)
end
namespace Tryz
section
variable {bk:Nat->Nat×Nat} {e:Er} {st:St} {N d t j:Nat} {x:X}
@[go_sem] theorem f6k:nm (a0t bk e)=false:=by cases e<;>rfl
@[go_sem] theorem d81:a0q (a0t bk e)=none:=by cases e<;>rfl
@[go_sem] theorem d27:a2m (a0t bk e)=none:=by cases e<;>rfl
@[go_sem] theorem e8y:frz (a0t bk e)=a0t bk e:=by cases e<;>simp only [a0t,frz]
@[go_sem] theorem d7v {kl:Nat->List Nat->Bool}:a06 kl (a0t bk e)=a0t bk e:=by cases e<;>simp only [a0t,a06]
@[go_sem] theorem e9x:mvS st d x (a0t bk e)=some (st.put d (a0t bk e)):=by cases e<;>simp [a0t,mvS,a0n]
@[go_sem] theorem d9x:b6x st N d (.t t) (a0t bk e)=some (st.put d (a0t bk e)):=by cases e<;>simp [a0t,go_sem]
@[go_sem] theorem e9b {q:List Nat} {o:Nat}:ldK st t q o (some (a0t bk e))=some (a0t bk e):=by cases e<;>simp [a0t,ldK,a0n]
@[go_sem] theorem f0l:psS st N (.t t) j (a0t bk e)=some (st.put j (a0t bk e)):=by cases e<;>simp [a0t,go_sem]
@[go_sem] theorem e83:gvS st N (.t t) j (a0t bk e)=some (st.put j (a0t bk e)):=by cases e<;>simp [a0t,go_sem]
@[go_sem] theorem e1t {i:Nat} {ks:List AV}:d33 st N d (.t t) i ks (some (a0t bk e))=some (st.put d (a0t bk e)):=by cases e<;>simp [a0t,go_sem]
@[go_sem] theorem e8h:a28 .eql 2 (a0t bk e) (.lit .nilIface)=some (.lit (.bool e.isNil)):=by cases e<;>rfl
@[go_sem] theorem e90:a28 .neq 2 (a0t bk e) (.lit .nilIface)=some (.lit (.bool !e.isNil)):=by cases e<;>rfl
def kE (st:St) (t:Nat):Er->St
 | .at _ _=>st.put t .dead
 | _=>st
@[go_sem] theorem e82:giv st N (.t t) (a0t bk e)=some (kE st t e,[a0t bk e]):=by cases e<;>simp [a0t,go_sem,kE,c8z]
@[go_sem] theorem g4j {u:Nat} (h:u≠t):(kE st t e).s u=st.s u:=by cases e<;>simp [kE,h]
@[go_sem] theorem g3g {u:Nat}:(kE st t e).ep u=st.ep u:=by cases e<;>simp [kE,St.put_ep,a0q]
end
end Tryz
end Go.Ideal
end
