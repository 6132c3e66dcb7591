/- Part Qau of the proof: walks on a machine that is proved sound. -/
import Derived.Test.YtploijbaclgehaaDoorQal
import Derived.Test.YtploijbaclgehaaDoorQam
import Derived.Test.YtploijbaclgehaaDoorQan
import Derived.Test.YtploijbaclgehaaDoorQao
import Derived.Test.YtploijbaclgehaaDoorQap
import Derived.Test.YtploijbaclgehaaDoorQaq
import Derived.Test.YtploijbaclgehaaDoorQar
import Derived.Test.YtploijbaclgehaaDoorQas
import Derived.Test.YtploijbaclgehaaDoorQat
import Derived.Test.YtploijbaclgehaaDoorQag
import Derived.Test.YtploijbaclgehaaDoorQah
import Derived.Test.YtploijbaclgehaaDoorQaj
set_option linter.unusedVariables false
set_option linter.unusedSimpArgs false
set_option maxHeartbeats 2000000
set_option maxRecDepth 200000
section
namespace Go.Ideal.Tryd
attribute [local go_sem] eD
def lkD (l:Lk) (ks:List Int):List Ds:=ks.map fun k=>l.descs[k.toNat]!
@[simp] theorem e5u {l:Lk} {ks:List Int}:(lkD l ks).length=ks.length:=by simp [lkD]
structure Lk.fin (l:Lk):Prop where
 descs:∀ d∈l.descs,d.shape.length < 2 ^ 40
 hin:l.hin.shape.length < 2 ^ 36
 vals:∀ d∈l.vals,d.shape.length < 2 ^ 36
 ws:l.ws.length<=8
theorem b73 {α:Type} {f:α->List AV} {k j:Nat} {xs:List α} (hf:∀ x,(f x).length=k) (h:xs.length=j):(fm f xs).take (j*k)=fm f xs:=by rw [<-h]; exact a2o hf
section
variable {G:GG} {bk:Nat->Nat×Nat} {Q:Exit->St->Prop} {st:St}
end
end Go.Ideal.Tryd
end
section
namespace Go.Ideal.Tryd
attribute [local go_sem] eD eI eV eT
section
variable {G:GG} {bk:Nat->Nat×Nat} {Q:Exit->St->Prop} {st:St}
theorem e22 {p:Pl} (hn:p.views.length < 2 ^ 30) (hs:∀ v∈p.views,v.shape.length < 2 ^ 40)
  (h:st.s 1= .var (eP p)/\st.s 2= .var [li 0,.own 3 0 [],.own 3 0 [],.own 2 0 [],.own 6 0 [],li 0,li 0]/\st.s 3= .var [li p.size,.own 3 0 [],.own 3 0 [],.own 2 0 [],.own 6 0 [],li p.input,li p.output]/\st.s 20=slV p.views/\st.s 21=li p.views.length/\st.s 22=li 0)
  (hex:∀ s:St,(s.s 1= .var (eP p)/\s.s 2= .var [li 0,.own 3 0 [],.own 3 0 [],.own 2 0 [],.own 6 0 [],li 0,li 0]/\s.s 3= .var [li p.size,owV p.views,.own 3 0 [],.own 2 0 [],.own 6 0 [],li p.input,li p.output])->Q (.exit 0) s):AW pg G 91 (.loop a4m) Q st:=by
 refine a03 (Nat×List Vw) (fun q st=>q.1<=p.views.length/\q.2++p.views.drop q.1=p.views/\q.2.length=q.1/\st.s 1= .var (eP p)/\st.s 2= .var [li 0,.own 3 0 [],.own 3 0 [],.own 2 0 [],.own 6 0 [],li 0,li 0]/\st.s 3= .var [li p.size,.own 3 q.1 (fm oV q.2),.own 3 0 [],.own 2 0 [],.own 6 0 [],li p.input,li p.output]/\st.s 20=slV p.views/\st.s 21=li p.views.length/\st.s 22=li q.1) (fun q=>p.views.length - q.1) (0,[]) ⟨by simp,rfl,rfl,by simpa [b0r] using h⟩ ?_
 clear h
 rintro ⟨i,l⟩ st K1 ⟨hi,hm,hl,h⟩ hK
 simp only at hi hm hl h
 by_cases c:i < p.views.length
 ·rw [List.drop_eq_getElem_cons c,List.append_cons] at hm
  have spec:=b3a (G:=G) p.views[i].shape p.views[i].wide (hs _ (List.getElem_mem c))
  have e1:fm oV (l++[p.views[i]])=fm oV l++[li p.views[i].off,owI p.views[i].shape,lb p.views[i].wide]:=by rw [b4z,b40]; rfl
  have ht:(fm oV l).take (i*3)=fm oV l:=by rw [<-hl]; exact a2o fun _=>rfl
  generalize fm oV l=v at *
  simp (disch:=omega) [go_sem,a4m,h,c]
  refine a3e ?_
  simp (disch:=omega) [go_sem,h,c,ht]
  refine a1o spec rfl (by simp [a0v,a01,a7d]) (by simp) [32] (by simp) (by simp (disch:=omega) [go_sem,h,c,ht]) ?_
  simp (disch:=omega) [go_sem,h,c,ht]
  refine a5h (by decide) fun s2 hs2 hep=> ?_
  simp (disch:=omega) [go_sem,hs2,hep,h]
  refine hK (i+1,l++[p.views[i]]) _ ⟨by simp only; omega,hm,by simp [hl],?_⟩ (by simp only; omega)
  simp only [e1]
  simp (disch:=omega) [go_sem,hs2,hep,h,ht]
 ·obtain rfl:i=p.views.length:=by omega
  rw [List.drop_length,List.append_nil] at hm
  subst hm
  simp (disch:=omega) [go_sem,a4m,h]
  exact hex _ (by simp (disch:=omega) [go_sem,h])
theorem e23 {p:Pl} {v1:List AV} {n1:Nat} (hn:p.consts.length < 2 ^ 30) (hs:∀ v∈p.consts,v.shape.length < 2 ^ 40/\v.data.length < 2 ^ 40)
  (h:st.s 1= .var (eP p)/\st.s 2= .var [li 0,.own 3 0 [],.own 3 0 [],.own 2 0 [],.own 6 0 [],li 0,li 0]/\st.s 3= .var [li p.size,.own 3 n1 v1,.own 3 0 [],.own 2 0 [],.own 6 0 [],li p.input,li p.output]/\st.s 39=slT p.consts/\st.s 40=li p.consts.length/\st.s 41=li 0)
  (hex:∀ s:St,(s.s 1= .var (eP p)/\s.s 2= .var [li 0,.own 3 0 [],.own 3 0 [],.own 2 0 [],.own 6 0 [],li 0,li 0]/\s.s 3= .var [li p.size,.own 3 n1 v1,owT p.consts,.own 2 0 [],.own 6 0 [],li p.input,li p.output])->Q (.exit 2) s):AW pg G 91 (.loop a4n) Q st:=by
 refine a03 (Nat×List Tn) (fun q st=>q.1<=p.consts.length/\q.2++p.consts.drop q.1=p.consts/\q.2.length=q.1/\st.s 1= .var (eP p)/\st.s 2= .var [li 0,.own 3 0 [],.own 3 0 [],.own 2 0 [],.own 6 0 [],li 0,li 0]/\st.s 3= .var [li p.size,.own 3 n1 v1,.own 3 q.1 (fm oT q.2),.own 2 0 [],.own 6 0 [],li p.input,li p.output]/\st.s 39=slT p.consts/\st.s 40=li p.consts.length/\st.s 41=li q.1) (fun q=>p.consts.length - q.1) (0,[]) ⟨by simp,rfl,rfl,by simpa [b0r] using h⟩ ?_
 clear h
 rintro ⟨i,l⟩ st K1 ⟨hi,hm,hl,h⟩ hK
 simp only at hi hm hl h
 by_cases c:i < p.consts.length
 ·rw [List.drop_eq_getElem_cons c,List.append_cons] at hm
  have spec:=c19 (G:=G) p.consts[i].shape p.consts[i].wide p.consts[i].data (hs _ (List.getElem_mem c)).1 (hs _ (List.getElem_mem c)).2
  have e1:fm oT (l++[p.consts[i]])=fm oT l++[owI p.consts[i].shape,lb p.consts[i].wide,owI p.consts[i].data]:=by rw [b4z,b40]; rfl
  have ht:(fm oT l).take (i*3)=fm oT l:=by rw [<-hl]; exact a2o fun _=>rfl
  generalize fm oT l=v at *
  simp (disch:=omega) [go_sem,a4n,h,c]
  refine a3e ?_
  simp (disch:=omega) [go_sem,h,c,ht]
  refine a1o spec rfl (by simp [a0v,a01,a7d]) (by simp) [48] (by simp) (by simp (disch:=omega) [go_sem,h,c,ht]) ?_
  simp (disch:=omega) [go_sem,h,c,ht]
  refine a5h (by decide) fun s2 hs2 hep=> ?_
  simp (disch:=omega) [go_sem,hs2,hep,h]
  refine hK (i+1,l++[p.consts[i]]) _ ⟨by simp only; omega,hm,by simp [hl],?_⟩ (by simp only; omega)
  simp only [e1]
  simp (disch:=omega) [go_sem,hs2,hep,h,ht]
 ·obtain rfl:i=p.consts.length:=by omega
  rw [List.drop_length,List.append_nil] at hm
  subst hm
  simp (disch:=omega) [go_sem,a4n,h]
  exact hex _ (by simp (disch:=omega) [go_sem,h])
theorem e24 {p:Pl} {v1 v2:List AV} {n1 n2:Nat} (hn:p.weights.length < 2 ^ 30) (hs:∀ v∈p.weights,v.shape.length < 2 ^ 40)
  (h:st.s 1= .var (eP p)/\st.s 2= .var [li 0,.own 3 0 [],.own 3 0 [],.own 2 0 [],.own 6 0 [],li 0,li 0]/\st.s 3= .var [li p.size,.own 3 n1 v1,.own 3 n2 v2,.own 2 0 [],.own 6 0 [],li p.input,li p.output]/\st.s 54=slD p.weights/\st.s 55=li p.weights.length/\st.s 56=li 0)
  (hex:∀ s:St,(s.s 1= .var (eP p)/\s.s 2= .var [li 0,.own 3 0 [],.own 3 0 [],.own 2 0 [],.own 6 0 [],li 0,li 0]/\s.s 3= .var [li p.size,.own 3 n1 v1,.own 3 n2 v2,owD p.weights,.own 6 0 [],li p.input,li p.output])->Q (.exit 4) s):AW pg G 91 (.loop a4o) Q st:=by
 refine a03 (Nat×List Ds) (fun q st=>q.1<=p.weights.length/\q.2++p.weights.drop q.1=p.weights/\q.2.length=q.1/\st.s 1= .var (eP p)/\st.s 2= .var [li 0,.own 3 0 [],.own 3 0 [],.own 2 0 [],.own 6 0 [],li 0,li 0]/\st.s 3= .var [li p.size,.own 3 n1 v1,.own 3 n2 v2,.own 2 q.1 (fm oD q.2),.own 6 0 [],li p.input,li p.output]/\st.s 54=slD p.weights/\st.s 55=li p.weights.length/\st.s 56=li q.1) (fun q=>p.weights.length - q.1) (0,[]) ⟨by simp,rfl,rfl,by simpa [b0r] using h⟩ ?_
 clear h
 rintro ⟨i,l⟩ st K1 ⟨hi,hm,hl,h⟩ hK
 simp only at hi hm hl h
 by_cases c:i < p.weights.length
 ·rw [List.drop_eq_getElem_cons c,List.append_cons] at hm
  have spec:=b3a (G:=G) p.weights[i].shape p.weights[i].wide (hs _ (List.getElem_mem c))
  have e1:fm oD (l++[p.weights[i]])=fm oD l++[owI p.weights[i].shape,lb p.weights[i].wide]:=by rw [b4z,b40]; rfl
  have ht:(fm oD l).take (i*2)=fm oD l:=by rw [<-hl]; exact a2o fun _=>rfl
  generalize fm oD l=v at *
  simp (disch:=omega) [go_sem,a4o,h,c]
  refine a3e ?_
  simp (disch:=omega) [go_sem,h,c,ht]
  refine a1o spec rfl (by simp [a0v,a01,a7d]) (by simp) [63] (by simp) (by simp (disch:=omega) [go_sem,h,c,ht]) ?_
  simp (disch:=omega) [go_sem,h,c,ht]
  refine a5h (by decide) fun s2 hs2 hep=> ?_
  simp (disch:=omega) [go_sem,hs2,hep,h]
  refine hK (i+1,l++[p.weights[i]]) _ ⟨by simp only; omega,hm,by simp [hl],?_⟩ (by simp only; omega)
  simp only [e1]
  simp (disch:=omega) [go_sem,hs2,hep,h,ht]
 ·obtain rfl:i=p.weights.length:=by omega
  rw [List.drop_length,List.append_nil] at hm
  subst hm
  simp (disch:=omega) [go_sem,a4o,h]
  exact hex _ (by simp (disch:=omega) [go_sem,h])
theorem e25 {p:Pl} {v1 v2 v3:List AV} {n1 n2 n3:Nat} (hn:p.code.length < 2 ^ 30) (hs:∀ v∈p.code,v.ins.length < 2 ^ 40/\v.args.length < 2 ^ 40)
  (h:st.s 1= .var (eP p)/\st.s 2= .var [li 0,.own 3 0 [],.own 3 0 [],.own 2 0 [],.own 6 0 [],li 0,li 0]/\st.s 3= .var [li p.size,.own 3 n1 v1,.own 3 n2 v2,.own 2 n3 v3,.own 6 0 [],li p.input,li p.output]/\st.s 69=slJ p.code/\st.s 70=li p.code.length/\st.s 71=li 0)
  (hex:∀ s:St,(s.s 1= .var (eP p)/\s.s 2= .var [li 0,.own 3 0 [],.own 3 0 [],.own 2 0 [],.own 6 0 [],li 0,li 0]/\s.s 3= .var [li p.size,.own 3 n1 v1,.own 3 n2 v2,.own 2 n3 v3,owJ p.code,li p.input,li p.output])->Q (.exit 6) s):AW pg G 91 (.loop a4p) Q st:=by
 refine a03 (Nat×List In) (fun q st=>q.1<=p.code.length/\q.2++p.code.drop q.1=p.code/\q.2.length=q.1/\st.s 1= .var (eP p)/\st.s 2= .var [li 0,.own 3 0 [],.own 3 0 [],.own 2 0 [],.own 6 0 [],li 0,li 0]/\st.s 3= .var [li p.size,.own 3 n1 v1,.own 3 n2 v2,.own 2 n3 v3,.own 6 q.1 (fm oI q.2),li p.input,li p.output]/\st.s 69=slJ p.code/\st.s 70=li p.code.length/\st.s 71=li q.1) (fun q=>p.code.length - q.1) (0,[]) ⟨by simp,rfl,rfl,by simpa [b0r] using h⟩ ?_
 clear h
 rintro ⟨i,l⟩ st K1 ⟨hi,hm,hl,h⟩ hK
 simp only at hi hm hl h
 by_cases c:i < p.code.length
 ·rw [List.drop_eq_getElem_cons c,List.append_cons] at hm
  have s1:=b3b (G:=G) p.code[i].ins (hs _ (List.getElem_mem c)).1
  have s2:=b3b (G:=G) p.code[i].args (hs _ (List.getElem_mem c)).2
  have e1:fm oI (l++[p.code[i]])=fm oI l++[li p.code[i].op,li p.code[i].dst,owI p.code[i].ins,owI p.code[i].args,li p.code[i].frm,li p.code[i].to]:=by rw [b4z,b40]; rfl
  have ht:(fm oI l).take (i*6)=fm oI l:=by rw [<-hl]; exact a2o fun _=>rfl
  generalize fm oI l=v at *
  simp (disch:=omega) [go_sem,a4p,h,c]
  refine a3e ?_
  simp (disch:=omega) [go_sem,h,c,ht]
  refine a1o s1 rfl (a8y _) (by simp) [77] (by simp) (by simp (disch:=omega) [go_sem,h,c,ht]) ?_
  simp (disch:=omega) [go_sem,h,c,ht]
  refine a1o s2 rfl (a8y _) (by simp) [80] (by simp) (by simp (disch:=omega) [go_sem,h,c,ht]) ?_
  simp (disch:=omega) [go_sem,h,c,ht]
  refine a5h (by decide) fun s2 hs2 hep=> ?_
  simp (disch:=omega) [go_sem,hs2,hep,h,ht]
  refine hK (i+1,l++[p.code[i]]) _ ⟨by simp only; omega,hm,by simp [hl],?_⟩ (by simp only; omega)
  simp only [e1]
  simp (disch:=omega) [go_sem,hs2,hep,h,ht]
 ·obtain rfl:i=p.code.length:=by omega
  rw [List.drop_length,List.append_nil] at hm
  subst hm
  simp (disch:=omega) [go_sem,a4p,h]
  exact hex _ (by simp (disch:=omega) [go_sem,h])
theorem c46 (p:Pl) (hv:p.views.length < 2 ^ 30) (hc:p.consts.length < 2 ^ 30) (hw:p.weights.length < 2 ^ 30) (hi:p.code.length < 2 ^ 30) (sv:∀ v∈p.views,v.shape.length < 2 ^ 40) (sc:∀ v∈p.consts,v.shape.length < 2 ^ 40/\v.data.length < 2 ^ 40)
  (sw:∀ v∈p.weights,v.shape.length < 2 ^ 40) (si:∀ v∈p.code,v.ins.length < 2 ^ 40/\v.args.length < 2 ^ 40):ACalls pg G b4g [.agg (eP p)] (.agg (oP p)):=by
 refine b06 rfl ?_
 simp (disch:=omega) [go_sem,a92,eP]
 refine e22 (p:=p) hv sv (by simp (disch:=omega) [go_sem,eP]) (fun s h=> ?_)
 simp (disch:=omega) [go_sem,h,eP]
 refine e23 (p:=p) (n1:=p.views.length) (v1:=fm oV p.views) hc sc (by simp (disch:=omega) [go_sem,h,eP]) (fun s h=> ?_)
 simp (disch:=omega) [go_sem,h,eP]
 refine e24 (p:=p) (n1:=p.views.length) (v1:=fm oV p.views) (n2:=p.consts.length) (v2:=fm oT p.consts) hw sw (by simp (disch:=omega) [go_sem,h,eP]) (fun s h=> ?_)
 simp (disch:=omega) [go_sem,h,eP]
 refine e25 (p:=p) (n1:=p.views.length) (v1:=fm oV p.views) (n2:=p.consts.length) (v2:=fm oT p.consts) (n3:=p.weights.length) (v3:=fm oD p.weights) hi si (by simp (disch:=omega) [go_sem,h,eP]) (fun s h=> ?_)
 simp (disch:=omega) [go_sem,h,eP,oP]
end
end Go.Ideal.Tryd
end
section
namespace Go.Ideal.Tryd
attribute [local go_sem] eD eT eV eI eP
section
variable {G:GG} {bk:Nat->Nat×Nat} {Q:Exit->St->Prop} {st:St}
theorem c3k (v:Vw) (h:v.shape.length < 2 ^ 62):ACalls pg G a77 [.agg (eV v),.agg (eV v)] (lb true):=by
 refine a61 rfl ?_
 simp (disch:=omega) [go_sem,a41]
 refine a0p (b7n v.shape v.wide h) rfl rfl ?_
 simp (disch:=omega) [go_sem]
theorem c1k (i:In) (h:i.ins.length < 2 ^ 62) (h2:i.args.length < 2 ^ 62):ACalls pg G a4g [.agg (eI i),.agg (eI i)] (lb true):=by
 have:=c1f (G:=G) i i h h2
 simpa using this
theorem d7d (x:Tn) (h:x.shape.length < 2 ^ 62) (h2:x.data.length < 2 ^ 62):ACalls pg G a31 [.agg (eT x),.agg (eT x)] (lb true):=c3j x.shape x.wide x.data h h2
theorem d6y (x:Ds) (h:x.shape.length < 2 ^ 62):ACalls pg G a4v [.agg (eD x),.agg (eD x)] (lb true):=b7n x.shape x.wide h
theorem b7k (xs:List Vw) (hn:xs.length < 2 ^ 30) (hf:∀ x∈xs,x.shape.length < 2 ^ 62):ACalls pg G a7u [slV xs,slV xs] (lb true):=by
 refine a6g rfl ?_
 simp (disch:=omega) [go_sem,a4k]
 refine a03 Nat (fun i st=>i<=xs.length/\st.s 0=slV xs/\st.s 1=slV xs/\st.s 5=li i) (fun i=>xs.length - i) 0 ⟨by simp,by simp (disch:=omega) [go_sem]⟩ ?_
 rintro i st K ⟨hi,h⟩ hK
 by_cases hlt:i < xs.length
 ·simp (disch:=omega) [go_sem,a2g,h,hlt]
  refine a3e ?_
  simp (disch:=omega) [go_sem,h,hlt]
  refine a1o (c3k xs[i] (hf _ (List.getElem_mem hlt))) rfl rfl (by simp (disch:=omega) [go_sem,a0s,b50]) [26] (by simp) (by simp (disch:=omega) [go_sem,h]) ?_
  simp (disch:=omega) [go_sem,h,a0s,b50]
  refine a5h (by decide) fun s2 hs2 he2=> ?_
  simp (disch:=omega) [go_sem,hs2,h]
  exact hK (i+1) _ ⟨by omega,by simp (disch:=omega) [go_sem,hs2,h]⟩ (by omega)
 ·obtain rfl:i=xs.length:=by omega
  simp (disch:=omega) [go_sem,a2g,h]
theorem b3z (xs:List Tn) (hn:xs.length < 2 ^ 30) (hf:∀ x∈xs,x.shape.length < 2 ^ 62/\x.data.length < 2 ^ 62):ACalls pg G a6w [slT xs,slT xs] (lb true):=by
 refine a5q rfl ?_
 simp (disch:=omega) [go_sem,a3n]
 refine a03 Nat (fun i st=>i<=xs.length/\st.s 0=slT xs/\st.s 1=slT xs/\st.s 5=li i) (fun i=>xs.length - i) 0 ⟨by simp,by simp (disch:=omega) [go_sem]⟩ ?_
 rintro i st K ⟨hi,h⟩ hK
 by_cases hlt:i < xs.length
 ·simp (disch:=omega) [go_sem,a11,h,hlt]
  refine a3e ?_
  simp (disch:=omega) [go_sem,h,hlt]
  refine a1o (d7d xs[i] (hf _ (List.getElem_mem hlt)).1 (hf _ (List.getElem_mem hlt)).2) rfl rfl (by simp (disch:=omega) [go_sem,a0s,b50]) [26] (by simp) (by simp (disch:=omega) [go_sem,h]) ?_
  simp (disch:=omega) [go_sem,h,a0s,b50]
  refine a5h (by decide) fun s2 hs2 he2=> ?_
  simp (disch:=omega) [go_sem,hs2,h]
  exact hK (i+1) _ ⟨by omega,by simp (disch:=omega) [go_sem,hs2,h]⟩ (by omega)
 ·obtain rfl:i=xs.length:=by omega
  simp (disch:=omega) [go_sem,a11,h]
theorem b7j (xs:List Ds) (hn:xs.length < 2 ^ 30) (hf:∀ x∈xs,x.shape.length < 2 ^ 62):ACalls pg G a7t [slD xs,slD xs] (lb true):=by
 refine a6e rfl ?_
 simp (disch:=omega) [go_sem,a4i]
 refine a03 Nat (fun i st=>i<=xs.length/\st.s 0=slD xs/\st.s 1=slD xs/\st.s 5=li i) (fun i=>xs.length - i) 0 ⟨by simp,by simp (disch:=omega) [go_sem]⟩ ?_
 rintro i st K ⟨hi,h⟩ hK
 by_cases hlt:i < xs.length
 ·simp (disch:=omega) [go_sem,a2f,h,hlt]
  refine a3e ?_
  simp (disch:=omega) [go_sem,h,hlt]
  refine a1o (d6y xs[i] (hf _ (List.getElem_mem hlt))) rfl rfl (by simp (disch:=omega) [go_sem,a0s,b50]) [26] (by simp) (by simp (disch:=omega) [go_sem,h]) ?_
  simp (disch:=omega) [go_sem,h,a0s,b50]
  refine a5h (by decide) fun s2 hs2 he2=> ?_
  simp (disch:=omega) [go_sem,hs2,h]
  exact hK (i+1) _ ⟨by omega,by simp (disch:=omega) [go_sem,hs2,h]⟩ (by omega)
 ·obtain rfl:i=xs.length:=by omega
  simp (disch:=omega) [go_sem,a2f,h]
theorem b5m (xs:List In) (hn:xs.length < 2 ^ 30) (hf:∀ x∈xs,x.ins.length < 2 ^ 62/\x.args.length < 2 ^ 62):ACalls pg G a64 [slJ xs,slJ xs] (lb true):=by
 refine a50 rfl ?_
 simp (disch:=omega) [go_sem,a34]
 refine a03 Nat (fun i st=>i<=xs.length/\st.s 0=slJ xs/\st.s 1=slJ xs/\st.s 5=li i) (fun i=>xs.length - i) 0 ⟨by simp,by simp (disch:=omega) [go_sem]⟩ ?_
 rintro i st K ⟨hi,h⟩ hK
 by_cases hlt:i < xs.length
 ·simp (disch:=omega) [go_sem,a19,h,hlt]
  refine a3e ?_
  simp (disch:=omega) [go_sem,h,hlt]
  refine a1o (c1k xs[i] (hf _ (List.getElem_mem hlt)).1 (hf _ (List.getElem_mem hlt)).2) rfl rfl (by simp (disch:=omega) [go_sem,a0s,b50]) [26] (by simp) (by simp (disch:=omega) [go_sem,h]) ?_
  simp (disch:=omega) [go_sem,h,a0s,b50]
  refine a5h (by decide) fun s2 hs2 he2=> ?_
  simp (disch:=omega) [go_sem,hs2,h]
  exact hK (i+1) _ ⟨by omega,by simp (disch:=omega) [go_sem,hs2,h]⟩ (by omega)
 ·obtain rfl:i=xs.length:=by omega
  simp (disch:=omega) [go_sem,a19,h]
theorem c3g {p:Pl} (hp:p.fin) (l1:p.views.length < 2 ^ 30) (l2:p.consts.length < 2 ^ 30) (l3:p.weights.length < 2 ^ 30) (l4:p.code.length < 2 ^ 30):ACalls pg G a76 [.agg (eP p),.agg (eP p)] (lb true):=by
 have c1:=b7k (G:=G) p.views l1 hp.vs
 have c2:=b3z (G:=G) p.consts l2 hp.cs
 have c3:=b7j (G:=G) p.weights l3 hp.ws
 have c4:=b5m (G:=G) p.code l4 hp.is
 refine a60 rfl ?_
 simp (disch:=omega) [go_sem,a40]
 refine a0p c1 rfl rfl ?_
 simp (disch:=omega) [go_sem]
 refine a0p c2 rfl rfl ?_
 simp (disch:=omega) [go_sem]
 refine a0p c3 rfl rfl ?_
 simp (disch:=omega) [go_sem]
 refine a0p c4 rfl rfl ?_
 simp (disch:=omega) [go_sem]
theorem b8o (sh:List Int) (w:Bool):0<=b4u sh w/\b4u sh w<=65536:=by
 have hbr:=b8t sh
 unfold b4u
 split<;>omega
@[go_sem] theorem e3k {xs:List Tn} {i:Nat} (h:i < xs.length):((fm eT xs).drop (i*3)).take 2=[slI xs[i].shape,lb xs[i].wide]:=c32 (f:=eT) (k:=3) (j:=0) (fun _=>rfl) h (by omega)
structure PlB (p:Pl):Prop where
 views:p.views.length < 2 ^ 30
 consts:p.consts.length < 2 ^ 30
 weights:p.weights.length < 2 ^ 30
 code:p.code.length < 2 ^ 30
 v:∀ v∈p.views,v.shape.length < 2 ^ 30/\ -4611686018427387904<=v.off/\v.off < 4611686018427387904
 c:∀ v∈p.consts,v.shape.length < 2 ^ 30/\v.data.length < 2 ^ 30
 w:∀ v∈p.weights,v.shape.length < 2 ^ 30
structure PlL (p:Pl):Prop where
 views:p.views.length < 2 ^ 30
 consts:p.consts.length < 2 ^ 30
 weights:p.weights.length < 2 ^ 30
 code:p.code.length < 2 ^ 30
 v:∀ v∈p.views,v.shape.length < 2 ^ 30
 c:∀ v∈p.consts,v.shape.length < 2 ^ 30/\v.data.length < 2 ^ 30
 w:∀ v∈p.weights,v.shape.length < 2 ^ 30
theorem PlB.l {p:Pl} (h:PlB p):PlL p:=⟨h.views,h.consts,h.weights,h.code,fun v hv=>(h.v v hv).1,h.c,h.w⟩
structure InB (p:Pl) (i:In):Prop where
 ins:i.ins.length < 2 ^ 30
 args:i.args.length < 2 ^ 30
@[go_sem] theorem f4r {xs:List Vw} {i:Nat} (h:i < xs.length):(fm eV xs)[i*3+1]? =some (slI xs[i].shape):=b3i (f:=eV) (k:=3) (j:=1) (fun _=>rfl) h (by omega)
def Er.snt (e:Er):Prop:=e= .nil\/∃ g,g < 21/\e= .s g
def Around (G:GG) (bk:Nat->Nat×Nat):Prop:=(∀ (k:Int) (g:Nat),g < 21->ACalls pg G a3y [li k,a5c bk (.s g)] (a5c bk (.at k (.s g))))/\∀ (k q:Int) (g:Nat),g < 21->ACalls pg G a3y [li k,a5c bk (.at q (.s g))] (a5c bk (.at k (.s g)))
def Er.wb (e:Er):Prop:=e= .nil\/(∃ g,g < 21/\e= .s g)\/∃ p g,g < 21/\e= .at p (.s g)
theorem Er.snt.wb {e:Er} (h:e.snt):e.wb:=h.elim .inl fun h=> .inr (.inl h)
theorem Around.ofw {G:GG} {bk:Nat->Nat×Nat} (h:Around G bk) {e:Er} (he:e.wb) (hn:e.isNil=false) (k:Int):ACalls pg G a3y [li k,a5c bk e] (a5c bk (atE k e)):=by
 rcases he with rfl | ⟨g,hg,rfl⟩ | ⟨q,g,hg,rfl⟩
 ·simp [Er.isNil] at hn
 ·exact h.1 k g hg
 ·exact h.2 k q g hg
theorem Around.of {G:GG} {bk:Nat->Nat×Nat} (h:Around G bk) {e:Er} (he:e.snt) (hn:e.isNil=false) (k:Int):ACalls pg G a3y [li k,a5c bk e] (a5c bk (atE k e)):=h.ofw he.wb hn k
theorem b9w {k:Int} {e:Er}:(atE k e).isNil=e.isNil:=by cases e<;>rfl
theorem b2l {α:Type} {f:α->Er}:∀ {xs:List α} {k:Int},(b2k f xs k).isNil=true->∀ x∈xs,(f x).isNil=true
 | [],_,_,x,hx=>by simp at hx
 | y::ys,k,h,x,hx=>by
  simp only [b2k] at h
  cases hy:(f y).isNil
  ·rw [hy,if_neg (by simp),b9w,hy] at h; cases h
  ·rw [hy,if_pos rfl] at h
   rcases List.mem_cons.1 hx with rfl | hx
   ·exact hy
   ·exact b2l h x hx
theorem c58 {a b:Er} (h:(orE a b).isNil=true):a.isNil=true/\b.isNil=true:=by
 unfold orE at h
 cases ha:a.isNil
 ·rw [ha,if_neg (by simp),ha] at h; cases h
 ·rw [ha,if_pos rfl] at h; exact ⟨rfl,h⟩
theorem b9f {p:Pl} (h:(a52 p).isNil=true):p.views.length<=128/\p.code.length<=2048/\(0<=p.size/\p.size<=65536)/\(∀ v∈p.views,0<=v.off/\v.off+b4u v.shape v.wide<=p.size/\(c0b v.shape).isNil=true):=by
 unfold a52 at h
 split at h
 ·cases h
 ·split at h
  ·cases h
  ·refine ⟨by omega,by omega,by omega,fun v hv=> ?_⟩
   have h1:=b2l (c58 h).1 v hv
   unfold d7p at h1
   split at h1
   ·split at h1
    ·exact ⟨by omega,by omega,by assumption⟩
    ·cases h1
   ·rename_i hn; exact absurd h1 hn
theorem PlL.b {p:Pl} (h:PlL p) (hP:(a52 p).isNil=true):PlB p:=by
 have hf:=b9f hP
 refine ⟨h.views,h.consts,h.weights,h.code,fun v hv=>⟨h.v v hv,?_⟩,h.c,h.w⟩
 have:=hf.2.2.2 v hv
 have:=b8o v.shape v.wide
 omega
end
end Go.Ideal.Tryd
end
section
namespace Go.Ideal.Tryd
attribute [local go_sem] eD
instance:Inhabited Nd:=⟨⟨0,[],[],[],false,[]⟩⟩
structure Sn where
 ord:List Int
 descs:List Ds
 hin:Ds
 ws:List Ds
section
variable {G:GG} {bk:Nat->Nat×Nat} {Q:Exit->St->Prop} {st:St}
end
end Go.Ideal.Tryd
end
section
namespace Go.Ideal.Tryd
attribute [local go_sem] eD eI eV eT b11 c20 a3o
theorem b3j {α:Type} {f:α->List AV} {c:Nat} (hf:∀ x,(f x).length=c) (y:α) {j:Nat} {v:AV} (hj:j < c):∀ {xs:List α} {i:Nat} (h:i < xs.length),f y=(f xs[i]).set j v->(fm f xs).set (i*c+j) v=fm f (xs.set i y)
 | x::xs,0,h,e=>by
  simp only [List.getElem_cons_zero] at e
  rw [List.set_cons_zero,a4c,a4c,e,Nat.zero_mul,Nat.zero_add,List.set_append_left _ _ (by rw [hf]; exact hj)]
 | x::xs,i+1,h,e=>by
  simp only [List.getElem_cons_succ] at e
  rw [List.set_cons_succ,a4c,a4c,List.set_append_right _ _ (by rw [hf,Nat.succ_mul]; omega),hf,show (i+1)*c+j - c=i*c+j by rw [Nat.succ_mul]; omega,b3j hf y hj (by simpa using h) e]
theorem c4j (a:Int):∃ r:Int,r≠a/\a2e .xor 0 (.lit (.int .i64 a)) (.lit (.int .i64 1))=some (.lit (.int .i64 r)):=by
 refine ⟨IntKind.i64.wrap (BitVec.ofInt 64 a ^^^ BitVec.ofInt 64 1).toNat,fun he=> ?_,?_⟩
 ·rw [IntKind.wrap_i64] at he
  have hlt:=(BitVec.ofInt 64 a ^^^ BitVec.ofInt 64 1).isLt
  have h1:(BitVec.ofInt 64 a).toNat=(BitVec.ofInt 64 a ^^^ BitVec.ofInt 64 1).toNat:=by
   rw [BitVec.toNat_ofInt]
   generalize (BitVec.ofInt 64 a ^^^ BitVec.ofInt 64 1).toNat=x at *
   simp at hlt ⊢
   omega
  have h2:=BitVec.eq_of_toNat_eq h1
  have h3:=congrArg (fun c=>BitVec.ofInt 64 a ^^^ c) h2
  simp only [BitVec.xor_self,<-BitVec.xor_assoc,BitVec.zero_xor] at h3
  exact absurd h3 (by decide)
 ·have h2:Op.intBits .xor .i64 a 1=Sem.pure (.int .i64 (IntKind.i64.wrap (BitVec.ofInt 64 a ^^^ BitVec.ofInt 64 1).toNat)):=rfl
  simp only [a2e,b64,a1f,if_true,h2,a55,Option.map_some]
def c12 (G:GG) (bk:Nat->Nat×Nat):Prop:=True
section
variable {G:GG} {bk:Nat->Nat×Nat} {Q:Exit->St->Prop} {st:St}
theorem b04 (hS:c12 G bk) (p:Pl) (hp:p.fin) (what at1:Int):ACalls pg G a58 [.agg (eP p),li what,li at1] (lb true):=by
 refine a5e rfl ?_
 have w1:=c6s (G:=G) p hp
 have hE:eP p=[li p.size,slV p.views,slT p.consts,slD p.weights,slJ p.code,li p.input,li p.output]:=rfl
 rw [hE] at w1
 simp (disch:=omega) [go_sem,a3g,eP]
 refine a0p d2z rfl rfl ?_
 simp (disch:=omega) [go_sem]
 refine a0p w1 rfl rfl ?_
 cases hw:b1t p with
 | false=>simp (disch:=omega) [go_sem]
 | true=>
 have hw':=hw
 simp only [b1t,b5w,a97,a7o,a7n,a5b,Bool.and_eq_true,decide_eq_true_eq,List.all_eq_true] at hw'
 obtain ⟨⟨⟨⟨⟨⟨a1,a2⟩,a3⟩,a4,a5⟩,a6⟩,a7⟩,a8⟩:=hw'
 have c1:=c46 (G:=G) p (by omega) (by omega) (by omega) (by omega) (fun v hv=>by have:=a6 v hv; omega) (fun v hv=>by have:=a5 v hv; omega) (fun v hv=>by have:=a7 v hv; omega) (fun v hv=>by have:=a8 v hv; omega)
 have s0:=a6j (G:=G) p p hp hp
 have s1:=c3g (G:=G) hp (by omega) (by omega) (by omega) (by omega)
 rw [hE] at c1 s0 s1
 simp only [decide_true] at s0
 simp (disch:=omega) [go_sem,oP]
 refine a0p c1 rfl ?_ ?_
 ·simp (disch:=omega) [go_sem,oP,a0v,a01]
 simp (disch:=omega) [go_sem,oP]
 refine a0p s0 rfl rfl ?_
 simp (disch:=omega) [go_sem]
 refine a0p s1 rfl rfl ?_
 simp (disch:=omega) [go_sem]
 refine a0p (b3t what 4 (by decide) (by decide)) rfl rfl ?_
 have r3:=b3s (n:=what) (m:=4) (by decide)
 rcases (show b9d what 4=0\/b9d what 4=1\/b9d what 4=2\/b9d what 4=3 by omega) with e | e | e | e
 ·obtain ⟨r,hr,hx⟩:=c4j p.size
  have hne:¬ p={ p with size:=r }:=fun h=>hr (by have:=congrArg Pl.size h; exact this.symm)
  have t1:=a6j (G:=G) p { p with size:=r } hp ⟨hp.1,hp.2,hp.3,hp.4,hp.5,hp.6,hp.7,hp.8⟩
  have t2:=a6j (G:=G) { p with size:=r } p ⟨hp.1,hp.2,hp.3,hp.4,hp.5,hp.6,hp.7,hp.8⟩ hp
  simp only [eP,hne,fun h=>hne (Eq.symm h),decide_false] at t1 t2
  simp (disch:=omega) [go_sem,e,hx]
  refine a0p t1 rfl rfl ?_
  simp (disch:=omega) [go_sem]
  refine a0p t2 rfl rfl ?_
  simp (disch:=omega) [go_sem]
  exact fun h=>hne h.symm
 ·by_cases hc:p.code.length=0
  ·have hc':p.code=[]:=List.eq_nil_of_length_eq_zero hc
   simp (disch:=omega) [go_sem,e,hc,hc']
  have hc':¬ (p.code.length:Int)=0:=by omega
  have hc2:¬ p.code=[]:=fun h=>hc (by rw [h]; rfl)
  have r4:=b3s (n:=at1) (m:=p.code.length) (by omega)
  have k4:=b3t (G:=G) at1 p.code.length (by omega) (by omega)
  obtain ⟨k,hk⟩:∃ k:Nat,b9d at1 p.code.length=k:=⟨(b9d at1 p.code.length).toNat,by omega⟩
  rw [hk] at k4 r4
  have hk2:k < p.code.length:=by omega
  simp (disch:=omega) [go_sem,e,hc,hc',hc2]
  refine a3e ?_
  simp (disch:=omega) [go_sem,hc,hc',hc2]
  refine a1o k4 rfl rfl (by simp) [60] (by simp) (by simp (disch:=omega) [go_sem,hc,hc',hc2]) ?_
  simp (disch:=omega) [go_sem,hc,hc',hc2,hk2]
  refine a5h (by decide) fun s2 hs2 hep=> ?_
  have o3:(fm oI p.code)[k*6+3]? =some (owI p.code[k].args):=b3i (f:=oI) (k:=6) (j:=3) (fun _=>rfl) hk2 (by omega)
  have hal:p.code[k].args.length<=10:=(a8 _ (List.getElem_mem hk2)).2
  have ho:k*6+3 < p.code.length*6:=by omega
  have hol:(fm oI p.code).length=p.code.length*6:=a4x fun _=>rfl
  obtain ⟨iq,hiq⟩:∃ iq:In,iq={ p.code[k] with args:=p.code[k].args++[1] }:=⟨_,rfl⟩
  have hst:=b3j (f:=oI) (c:=6) (fun _=>rfl) iq (j:=3) (v:= .own 1 (p.code[k].args.length+1) (p.code[k].args.map li++[li 1])) (by omega) hk2 (by rw [hiq]; simp [oI])
  have hsp:a0o ((fm oI p.code).set (k*6+3) .dead) (k*6+3) [.own 1 (p.code[k].args.length+1) (p.code[k].args.map li++[li 1])]=fm oI (p.code.set k iq):=by
   rw [Go.Ideal.splice_one (by rw [List.length_set,hol]; exact ho),List.set_set]; exact hst
  have o3g:∀ h:k*6+3 < (fm oI p.code).length,(fm oI p.code)[k*6+3]=owI p.code[k].args:=fun h=>by
   have:=List.getElem?_eq_getElem h
   rw [o3] at this
   exact (Option.some.inj this).symm
  have hte:List.take (p.code.length*6) (fm eI (p.code.set k iq))=fm eI (p.code.set k iq):=b73 (fun _=>rfl) (by simp)
  have hne:¬ p={ p with code:=p.code.set k iq }:=fun h=>by
   have h1:=congrArg (fun q=>(q.code[k]?).map (fun i=>i.args.length)) h
   simp [hk2,hiq] at h1
  have hq:Pl.fin { p with code:=p.code.set k iq }:=⟨hp.1,hp.2,hp.3,by simpa using hp.4,hp.5,hp.6,hp.7,fun x hx=>by
   rcases List.mem_or_eq_of_mem_set hx with hx | hx
   ·exact hp.is x hx
   ·have:=hp.is _ (List.getElem_mem hk2)
    rw [hx,hiq]
    simp
    omega⟩
  have t1:=a6j (G:=G) p _ hp hq
  have t2:=a6j (G:=G) _ p hq hp
  simp only [eP,hne,fun h=>hne (Eq.symm h),decide_false,slJ,List.length_set] at t1 t2
  simp (disch:=omega) [go_sem,hs2,hep,hk2,o3g,hal,ho,hol,hsp,hte]
  refine a0p t1 rfl rfl ?_
  simp (disch:=omega) [go_sem,hs2,hep,hk2,hsp,hte]
  refine a0p t2 rfl rfl ?_
  simp (disch:=omega) [go_sem,hs2,hep]
  exact fun h=>hne h.symm
 ·by_cases hc:p.views.length=0
  ·have hc':p.views=[]:=List.eq_nil_of_length_eq_zero hc
   simp (disch:=omega) [go_sem,e,hc,hc']
  have hc':¬ (p.views.length:Int)=0:=by omega
  have hc2:¬ p.views=[]:=fun h=>hc (by rw [h]; rfl)
  have r4:=b3s (n:=at1) (m:=p.views.length) (by omega)
  have k4:=b3t (G:=G) at1 p.views.length (by omega) (by omega)
  obtain ⟨k,hk⟩:∃ k:Nat,b9d at1 p.views.length=k:=⟨(b9d at1 p.views.length).toNat,by omega⟩
  rw [hk] at k4 r4
  have hk2:k < p.views.length:=by omega
  simp (disch:=omega) [go_sem,e,hc,hc',hc2]
  refine a3e ?_
  simp (disch:=omega) [go_sem,hc,hc',hc2]
  refine a1o k4 rfl rfl (by simp) [83] (by simp) (by simp (disch:=omega) [go_sem,hc,hc',hc2]) ?_
  simp (disch:=omega) [go_sem,hc,hc',hc2,hk2]
  refine a5h (by decide) fun s2 hs2 hep=> ?_
  have o3:(fm oV p.views)[k*3+2]? =some (lb p.views[k].wide):=b3i (f:=oV) (k:=3) (j:=2) (fun _=>rfl) hk2 (by omega)
  have ho:k*3+2 < p.views.length*3:=by omega
  have hol:(fm oV p.views).length=p.views.length*3:=a4x fun _=>rfl
  obtain ⟨iq,hiq⟩:∃ iq:Vw,iq={ p.views[k] with wide:= !p.views[k].wide }:=⟨_,rfl⟩
  have hst:=b3j (f:=oV) (c:=3) (fun _=>rfl) iq (j:=2) (v:=lb (!p.views[k].wide)) (by omega) hk2 (by rw [hiq]; simp [oV])
  have hsp:a0o (fm oV p.views) (k*3+2) [lb (!p.views[k].wide)]=fm oV (p.views.set k iq):=by
   rw [Go.Ideal.splice_one (by rw [hol]; exact ho)]; exact hst
  have o3g:∀ h:k*3+2 < (fm oV p.views).length,(fm oV p.views)[k*3+2]=lb p.views[k].wide:=fun h=>by
   have:=List.getElem?_eq_getElem h
   rw [o3] at this
   exact (Option.some.inj this).symm
  have hte:List.take (p.views.length*3) (fm eV (p.views.set k iq))=fm eV (p.views.set k iq):=b73 (fun _=>rfl) (by simp)
  have hne:¬ p={ p with views:=p.views.set k iq }:=fun h=>by
   have h1:=congrArg (fun q=>(q.views[k]?).map (fun i=>i.wide)) h
   simp [hk2,hiq] at h1
  have hq:Pl.fin { p with views:=p.views.set k iq }:=⟨by simpa using hp.1,hp.2,hp.3,hp.4,fun x hx=>by
   rcases List.mem_or_eq_of_mem_set hx with hx | hx
   ·exact hp.vs x hx
   ·have:=hp.vs _ (List.getElem_mem hk2)
    rw [hx,hiq]
    exact this,hp.6,hp.7,hp.8⟩
  have t1:=a6j (G:=G) p _ hp hq
  have t2:=a6j (G:=G) _ p hq hp
  simp only [eP,hne,fun h=>hne (Eq.symm h),decide_false,slV,List.length_set] at t1 t2
  simp (disch:=omega) [go_sem,hs2,hep,hk2,o3g,ho,hol,hsp,hte]
  refine a0p t1 rfl rfl ?_
  simp (disch:=omega) [go_sem,hs2,hep,hk2,hsp,hte]
  refine a0p t2 rfl rfl ?_
  simp (disch:=omega) [go_sem,hs2,hep]
  exact fun h=>hne h.symm
 ·have hne:¬ p={ p with weights:=p.weights++[⟨[],false⟩] }:=fun h=>by have:=congrArg (fun q=>q.weights.length) h; simp at this
  have hq:Pl.fin { p with weights:=p.weights++[⟨[],false⟩] }:=⟨hp.1,hp.2,by simp; omega,hp.4,hp.5,hp.6,fun x hx=>by
   rcases List.mem_append.1 hx with hx | hx
   ·exact hp.ws x hx
   ·simp only [List.mem_singleton] at hx; subst hx; simp,hp.8⟩
  have t1:=a6j (G:=G) p _ hp hq
  have t2:=a6j (G:=G) _ p hq hp
  simp only [eP,hne,fun h=>hne (Eq.symm h),decide_false,slD,List.length_append,List.length_singleton,b4z,b40] at t1 t2
  have ht:∀ a b:AV,List.take ((p.weights.length+1)*2) (fm eD p.weights++[a,b])=fm eD p.weights++[a,b]:=fun a b=>List.take_of_length_le (by
   rw [List.length_append,a4x (k:=2) (fun _=>rfl)]; simp; omega)
  simp (disch:=omega) [go_sem,e,b3m,ht]
  refine a0p t1 rfl rfl ?_
  simp (disch:=omega) [go_sem,b3m,ht]
  refine a0p t2 rfl rfl ?_
  simp (disch:=omega) [go_sem]
  exact fun h=>hne h.symm
end
end Go.Ideal.Tryd
end
section
namespace Go.Ideal.Tryd
theorem a9c {laid:List (String×DataW Unit)} {hs:List (Nat×Value)} {W:World} (h:laidMet pg laid W) (hc:b5s [] laid=true) (hhs:∀ p∈hs,p.1 < W.heap.size/\∃ cur T fz,W.heap[p.1]? =some (.cells cur T fz)/\cur[0]? =some p.2):∃ (G:GG) (bk:Nat->Nat×Nat),G.hs=hs/\c12 G bk/\∀ g v,G.at g v->GC G W g v/\g < W.heap.size:=by
 obtain ⟨G,bk,h0,_,h4⟩:=b30 (L:=[]) (hs:=hs) (fun g hg=>by cases hg) h hc hhs
 exact ⟨G,bk,h0,trivial,h4⟩
end Go.Ideal.Tryd
end
