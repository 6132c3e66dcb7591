/- Part Qaj of the proof: walks on a machine that is proved sound. -/
import Derived.Test.YtploijbaclgehaaDoorQah
import Derived.Test.YtploijbaclgehaaDoorQag
import Derived.Test.YtploijbaclgehaaDoorQai
set_option linter.unusedVariables false
set_option linter.unusedSimpArgs false
set_option maxRecDepth 10000
section
namespace Go.Ideal.Tryd
def a97 (m:Nat) (t:Tn):Bool:=decide (t.shape.length<=8)&&decide (t.data.length<=m)
def b5w (k m:Nat) (ts:List Tn):Bool:=decide (ts.length<=k)&&ts.all (a97 m)
def a7o (v:Vw):Bool:=decide (v.shape.length<=8)
def a7n (v:Ds):Bool:=decide (v.shape.length<=8)
def a5b (v:In):Bool:=decide (v.ins.length<=10)&&decide (v.args.length<=10)
def b1t (p:Pl):Bool:=decide (p.views.length<=140)&&decide (p.weights.length<=10)&&decide (p.code.length<=300)&&b5w 70 300 p.consts&&p.views.all a7o&&p.weights.all a7n&&p.code.all a5b
@[go_sem] theorem e3m {xs:List Vw} {i:Nat} (h:i < xs.length):((fm eV xs).drop (i*3+1)).take 2=[slI xs[i].shape,lb xs[i].wide]:=by
 have:=congrArg (List.drop 1) (d15 h)
 rw [List.drop_take,List.drop_drop] at this
 exact this
@[go_sem] theorem f4m {xs:List In} {i:Nat} (h:i < xs.length):(fm eI xs)[i*6]? =some (li xs[i].op):=b3i (f:=eI) (k:=6) (j:=0) (fun _=>rfl) h (by omega)
@[go_sem] theorem f4n {xs:List In} {i:Nat} (h:i < xs.length):(fm eI xs)[i*6+2]? =some (slI xs[i].ins):=b3i (f:=eI) (k:=6) (fun _=>rfl) h (by omega)
@[go_sem] theorem f4o {xs:List In} {i:Nat} (h:i < xs.length):(fm eI xs)[i*6+3]? =some (slI xs[i].args):=b3i (f:=eI) (k:=6) (fun _=>rfl) h (by omega)
section
variable {G:GG} {bk:Nat->Nat×Nat} {Q:Exit->St->Prop} {st:St}
theorem b9m (ts:List Tn) (k m:Nat) (hn:ts.length < 2 ^ 62) (hf:∀ x∈ts,x.shape.length < 2 ^ 62/\x.data.length < 2 ^ 62):ACalls pg G a7v [slT ts,li k,li m] (lb (b5w k m ts)):=by
 refine a6h rfl ?_
 by_cases h70:ts.length<=k
 ·have h70':¬ (k:Int) < ts.length:=by omega
  simp (disch:=omega) [go_sem,a2q,h70']
  refine a03 Nat (fun i st=>i<=ts.length/\(ts.drop i).all (a97 m)=ts.all (a97 m)/\st.s 0=slT ts/\st.s 1=li k/\st.s 2=li m/\st.s 7=li i) (fun i=>ts.length - i) 0 ⟨by simp,rfl,by simp (disch:=omega) [go_sem]⟩ ?_
  rintro i st K ⟨hi,hm,h⟩ hK
  by_cases hlt:i < ts.length
  ·rw [List.drop_eq_getElem_cons hlt,List.all_cons] at hm
   have hfi:=hf _ (List.getElem_mem hlt)
   have c:=c6t (G:=G) ts[i].shape ts[i].wide ts[i].data m hfi.1
   simp (disch:=omega) [go_sem,a2h,h,hlt]
   refine a0p c rfl rfl ?_
   cases hb:(decide (ts[i].shape.length<=8)&&decide (ts[i].data.length<=m)) with
   | true=>
    rw [show a97 m ts[i]=true from hb] at hm
    simp (disch:=omega) [go_sem,h]
    exact hK (i+1) _ ⟨by omega,hm,by simp (disch:=omega) [go_sem,h]⟩ (by omega)
   | false=>
    rw [show a97 m ts[i]=false from hb] at hm
    have hm':ts.all (a97 m)=false:=hm.symm
    simp (disch:=omega) [go_sem,h,b5w,hm']
  ·obtain rfl:i=ts.length:=by omega
   rw [List.drop_length] at hm
   have hm':ts.all (a97 m)=true:=hm.symm
   simp (disch:=omega) [go_sem,a2h,h,b5w,h70,hm']
 ·have h70':(k:Int) < ts.length:=by omega
  simp (disch:=omega) [go_sem,a2q,h70',b5w,h70]
theorem c3n {p:Pl} (hf:p.fin) (h:st.s 1= .var (eP p)/\st.s 3=li 0) (hbad:p.views.all a7o=false->∀ s,s.s 2=lb false->Q .ret s) (hex:p.views.all a7o=true->∀ s,s.s 1= .var (eP p)->Q (.exit 0) s):AW pg G 82 (.loop a1p) Q st:=by
 refine a03 Nat (fun i st=>i<=p.views.length/\(p.views.drop i).all a7o=p.views.all a7o/\st.s 1= .var (eP p)/\st.s 3=li i) (fun i=>p.views.length - i) 0 ⟨by simp,rfl,by simp (disch:=omega) [go_sem,h]⟩ ?_
 clear h
 rintro i st K ⟨hi,hm,h⟩ hK
 have hl:=hf.vl
 by_cases hlt:i < p.views.length
 ·rw [List.drop_eq_getElem_cons hlt,List.all_cons] at hm
  have c:=b7t (G:=G) p.views[i].shape p.views[i].wide (hf.vs _ (List.getElem_mem hlt))
  simp (disch:=omega) [go_sem,a1p,h,hlt,eP]
  refine a0p c rfl rfl ?_
  cases hb:decide (p.views[i].shape.length<=8) with
  | true=>
   rw [show a7o p.views[i]=true from hb] at hm
   simp (disch:=omega) [go_sem,h]
   exact hK (i+1) _ ⟨by omega,hm,by simp (disch:=omega) [go_sem,h,eP]⟩ (by omega)
  | false=>
   rw [show a7o p.views[i]=false from hb] at hm
   simp (disch:=omega) [go_sem,h]
   exact hbad hm.symm _ (by simp (disch:=omega) [go_sem,h])
 ·obtain rfl:i=p.views.length:=by omega
  rw [List.drop_length] at hm
  simp (disch:=omega) [go_sem,a1p,h,eP]
  exact hex hm.symm _ (by simp (disch:=omega) [go_sem,h,eP])
theorem c3o {p:Pl} (hf:p.fin) (h:st.s 1= .var (eP p)/\st.s 4=li 0) (hbad:p.weights.all a7n=false->∀ s,s.s 2=lb false->Q .ret s) (hex:p.weights.all a7n=true->∀ s,s.s 1= .var (eP p)->Q (.exit 2) s):AW pg G 82 (.loop a1q) Q st:=by
 refine a03 Nat (fun i st=>i<=p.weights.length/\(p.weights.drop i).all a7n=p.weights.all a7n/\st.s 1= .var (eP p)/\st.s 4=li i) (fun i=>p.weights.length - i) 0 ⟨by simp,rfl,by simp (disch:=omega) [go_sem,h]⟩ ?_
 clear h
 rintro i st K ⟨hi,hm,h⟩ hK
 have hl:=hf.wl
 by_cases hlt:i < p.weights.length
 ·rw [List.drop_eq_getElem_cons hlt,List.all_cons] at hm
  have c:=b7t (G:=G) p.weights[i].shape p.weights[i].wide (hf.ws _ (List.getElem_mem hlt))
  simp (disch:=omega) [go_sem,a1q,h,hlt,eP]
  refine a0p c rfl rfl ?_
  cases hb:decide (p.weights[i].shape.length<=8) with
  | true=>
   rw [show a7n p.weights[i]=true from hb] at hm
   simp (disch:=omega) [go_sem,h]
   exact hK (i+1) _ ⟨by omega,hm,by simp (disch:=omega) [go_sem,h,eP]⟩ (by omega)
  | false=>
   rw [show a7n p.weights[i]=false from hb] at hm
   simp (disch:=omega) [go_sem,h]
   exact hbad hm.symm _ (by simp (disch:=omega) [go_sem,h])
 ·obtain rfl:i=p.weights.length:=by omega
  rw [List.drop_length] at hm
  simp (disch:=omega) [go_sem,a1q,h,eP]
  exact hex hm.symm _ (by simp (disch:=omega) [go_sem,h,eP])
theorem c3p {p:Pl} (hf:p.fin) (h:st.s 1= .var (eP p)/\st.s 5=li 0) (hbad:p.code.all a5b=false->∀ s,s.s 2=lb false->Q .ret s) (hex:p.code.all a5b=true->∀ s,Q (.exit 4) s):AW pg G 82 (.loop a05) Q st:=by
 refine a03 Nat (fun i st=>i<=p.code.length/\(p.code.drop i).all a5b=p.code.all a5b/\st.s 1= .var (eP p)/\st.s 5=li i) (fun i=>p.code.length - i) 0 ⟨by simp,rfl,by simp (disch:=omega) [go_sem,h]⟩ ?_
 clear h
 rintro i st K ⟨hi,hm,h⟩ hK
 have hl:=hf.il
 by_cases hlt:i < p.code.length
 ·rw [List.drop_eq_getElem_cons hlt,List.all_cons] at hm
  obtain ⟨f1,f2⟩:=hf.is _ (List.getElem_mem hlt)
  by_cases k1:p.code[i].ins.length<=10
  ·have k1':¬ (10:Int) < p.code[i].ins.length:=by omega
   by_cases k2:p.code[i].args.length<=10
   ·have k2':¬ (10:Int) < p.code[i].args.length:=by omega
    rw [show a5b p.code[i]=true by simp [a5b,k1,k2]] at hm
    simp (disch:=omega) [go_sem,a05,h,hlt,eP,k1',k2']
    exact hK (i+1) _ ⟨by omega,hm,by simp (disch:=omega) [go_sem,h,eP]⟩ (by omega)
   ·have k2':(10:Int) < p.code[i].args.length:=by omega
    rw [show a5b p.code[i]=false by simp [a5b,k2]] at hm
    simp (disch:=omega) [go_sem,a05,h,hlt,eP,k1',k2']
    exact hbad hm.symm _ (by simp (disch:=omega) [go_sem,h])
  ·have k1':(10:Int) < p.code[i].ins.length:=by omega
   rw [show a5b p.code[i]=false by simp [a5b,k1]] at hm
   simp (disch:=omega) [go_sem,a05,h,hlt,eP,k1']
   exact hbad hm.symm _ (by simp (disch:=omega) [go_sem,h])
 ·obtain rfl:i=p.code.length:=by omega
  rw [List.drop_length] at hm
  simp (disch:=omega) [go_sem,a05,h,eP]
  exact hex hm.symm _
theorem d7q {p:Pl} (k1:p.views.length<=140) (k2:p.weights.length<=10) (k3:p.code.length<=300) (hb:b5w 70 300 p.consts=true):b1t p=(p.views.all a7o&&p.weights.all a7n&&p.code.all a5b):=by
 unfold b1t
 rw [decide_eq_true k1,decide_eq_true k2,decide_eq_true k3,hb]
 rfl
theorem c6s (p:Pl) (hf:p.fin):ACalls pg G a9i [.agg (eP p)] (lb (b1t p)):=by
 refine a7z rfl ?_
 obtain ⟨hl1,hl2,hl3,hl4,-⟩:=id hf
 have cT:=b9m (G:=G) p.consts 70 300 hf.cl hf.cs
 have rest:∀ {Q:Exit->St->Prop} {st:St},st.s 1= .var (eP p)->((p.views.all a7o&&p.weights.all a7n&&p.code.all a5b)=true->∀ s,s.s 2=lb true->Q .ret s)->((p.views.all a7o&&p.weights.all a7n&&p.code.all a5b)=false->∀ s,s.s 2=lb false->Q .ret s)->AW pg G 82 (.seq (.seq (.reg lodgeworld_Plan_r3) (.block 0 (.loop a1p))) (.seq (.seq (.reg lodgeworld_Plan_r8) (.block 2 (.loop a1q))) (.seq (.seq (.reg lodgeworld_Plan_r13) (.block 4 (.loop a05))) (.seq (.reg lodgeworld_Plan_r18) .ret)))) Q st:=by
  intro Q st h ht hfal
  simp (disch:=omega) [go_sem,h]
  refine c3n hf (by simp (disch:=omega) [go_sem,h]) (fun e s h=> ?_) fun e s h=> ?_
  ·exact hfal (by rw [e]; rfl) _ (by simp (disch:=omega) [go_sem,h])
  ·simp (disch:=omega) [go_sem,h]
   refine c3o hf (by simp (disch:=omega) [go_sem,h]) (fun e2 s h=> ?_) fun e2 s h=> ?_
   ·exact hfal (by rw [e,e2]; rfl) _ (by simp (disch:=omega) [go_sem,h])
   ·simp (disch:=omega) [go_sem,h]
    refine c3p hf (by simp (disch:=omega) [go_sem,h]) (fun e3 s h=> ?_) fun e3 s=> ?_
    ·exact hfal (by rw [e,e2,e3]; rfl) _ (by simp (disch:=omega) [go_sem,h])
    ·simp (disch:=omega) [go_sem]
     exact ht (by rw [e,e2,e3]; rfl) _ (by simp (disch:=omega) [go_sem])
 by_cases k1:p.views.length<=140
 ·have k1':¬ (140:Int) < p.views.length:=by omega
  by_cases k2:p.weights.length<=10
  ·have k2':¬ (10:Int) < p.weights.length:=by omega
   by_cases k3:p.code.length<=300
   ·have k3':¬ (300:Int) < p.code.length:=by omega
    cases hb:b5w 70 300 p.consts with
    | true=>
     rw [hb] at cT
     simp (disch:=omega) [go_sem,a1h,eP,k1',k2',k3']
     refine a0p cT rfl rfl ?_
     simp (disch:=omega) [go_sem]
     refine rest (by simp (disch:=omega) [go_sem,eP]) (fun e s h=> ?_) fun e s h=> ?_
     ·have ew:b1t p=true:=by rw [d7q k1 k2 k3 hb]; exact e
      simp (disch:=omega) [go_sem,h,ew]
     ·have ew:b1t p=false:=by rw [d7q k1 k2 k3 hb]; exact e
      simp (disch:=omega) [go_sem,h,ew]
    | false=>
     rw [hb] at cT
     simp (disch:=omega) [go_sem,a1h,eP,k1',k2',k3']
     refine a0p cT rfl rfl ?_
     simp (disch:=omega) [go_sem,b1t,hb]
   ·have k3':(300:Int) < p.code.length:=by omega
    simp (disch:=omega) [go_sem,a1h,eP,k1',k2',k3',b1t,k3]
  ·have k2':(10:Int) < p.weights.length:=by omega
   simp (disch:=omega) [go_sem,a1h,eP,k1',k2',b1t,k2]
 ·have k1':(140:Int) < p.views.length:=by omega
  simp (disch:=omega) [go_sem,a1h,eP,k1',b1t,k1]
theorem c1f (a b:In) (ha:a.ins.length < 2 ^ 62) (ha2:a.args.length < 2 ^ 62):ACalls pg G a4g [.agg (eI a),.agg (eI b)] (lb (decide (a=b))):=by
 refine a6f rfl ?_
 obtain ⟨o1,d1,i1,a1,f1,t1⟩:=a
 obtain ⟨o2,d2,i2,a2,f2,t2⟩:=b
 simp only at ha ha2
 simp (disch:=omega) [go_sem,a4j,eI]
 refine a0p (a7r ha) rfl rfl ?_
 simp (disch:=omega) [go_sem]
 refine a0p (a7r ha2) rfl rfl ?_
 by_cases k3:i1=i2
 ·subst k3
  by_cases k4:a1=a2
  ·subst k4
   by_cases k1:o1=o2
   ·subst k1
    by_cases k2:d1=d2
    ·subst k2
     by_cases k5:f1=f2
     ·subst k5
      by_cases k6:t1=t2<;>simp (disch:=omega) [go_sem,k6,In.mk.injEq]
     ·simp (disch:=omega) [go_sem,k5,In.mk.injEq]
    ·simp (disch:=omega) [go_sem,k2,In.mk.injEq]
   ·simp (disch:=omega) [go_sem,k1,In.mk.injEq]
  ·simp (disch:=omega) [go_sem,k4,In.mk.injEq]
 ·simp (disch:=omega) [go_sem,k3,In.mk.injEq]
end
abbrev Dr:=Ds×Er
def dn:Ds:=⟨[],false⟩
def bad (g:Nat):Dr:=(dn,.s g)
instance:Inhabited Ds:=⟨dn⟩
def atE (k:Int):Er->Er
 | .nil=> .nil
 | .s g=> .at k (.s g)
 | .at _ e=> .at k e
def orE (a b:Er):Er:=if a.isNil=true then b else a
def b2k {α:Type} (f:α->Er):List α->Int->Er
 | [],_=> .nil
 | x::xs,k=>if (f x).isNil=true then b2k f xs (k+1) else atE k (f x)
def d7p (size:Int) (v:Vw):Er:=if (c0b v.shape).isNil=true then (if 0<=v.off/\v.off<=size/\b4u v.shape v.wide<=size - v.off then .nil else .s 3) else c0b v.shape
def tE (t:Tn):Er:=d7m t.shape t.wide t.data
def dE (d:Ds):Er:=c0b d.shape
def c37 (p:Pl) (k:Int):Bool:=decide (0<=k)&&decide (k < (p.views.length:Int))
def a52 (p:Pl):Er:=
 if 128 < p.views.length\/64 < p.consts.length\/8 < p.weights.length\/2048 < p.code.length then .s 2
 else if p.size < 0\/65536 < p.size then .s 3
 else orE (b2k (d7p p.size) p.views 0) (orE (b2k tE p.consts 0) (orE (b2k dE p.weights 0) (if (c37 p p.input&&c37 p p.output)=true then .nil else .s 3)))
instance:Inhabited Vw:=⟨⟨0,[],false⟩⟩
instance:Inhabited Tn:=⟨⟨[],false,[]⟩⟩
instance:Inhabited In:=⟨⟨0,0,[],[],0,0⟩⟩
def Vw.ds (v:Vw):Ds:=⟨v.shape,v.wide⟩
def Tn.ds (v:Tn):Ds:=⟨v.shape,v.wide⟩
end Go.Ideal.Tryd
end
section
namespace Go.Ideal.Tryd
abbrev a3y:Nat:=68
end Go.Ideal.Tryd
end
