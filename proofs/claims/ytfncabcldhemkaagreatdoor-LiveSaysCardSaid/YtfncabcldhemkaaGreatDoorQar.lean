/- Part Qar of the proof: walks on a machine that is proved sound. -/
import Derived.Test.YtfncabcldhemkaaGreatDoorQaq
set_option linter.unusedVariables false
set_option linter.unusedSimpArgs false
set_option maxHeartbeats 4000000
set_option maxRecDepth 100000
section
namespace Go.Ideal.Tryz
theorem b0q {a b:Int}:(if a < b then b else a)=max a b:=by split<;>omega
theorem a8d {α:Type} [Inhabited α] {l:List α} {i:Nat} (h:i < l.length):l[i]! =l[i]:=by simp [h]
structure Sp where
 a:Int
 b:Int
 off:Int
 len:Int
 deriving DecidableEq
instance:Inhabited Sp:=⟨⟨0,0,0,0⟩⟩
def eS (s:Sp):List AV:=[li s.a,li s.b,li s.off,li s.len]
@[go_sem] theorem c2a {xs:List Sp}:(fm eS xs).length=xs.length*4:=c2h fun _=>rfl
@[go_sem] theorem f4a {xs:List Sp} {i:Nat} (h:i < xs.length):((fm eS xs).drop (i*4)).take 4=[li xs[i].a,li xs[i].b,li xs[i].off,li xs[i].len]:=c55 (f:=eS) (k:=4) (fun _=>rfl) h
@[go_sem] theorem e9o {xs:List Sp}:(fm eS xs).take (xs.length*4)=fm eS xs:=c0g fun _=>rfl
@[go_sem] theorem f36 {xs:List Sp}:a2z (fm eS xs)=fm eS xs:=by
 rw [c9c]; congr 1
theorem d11 {xs:List Sp} {i:Nat} (h:i<=xs.length):(fm eS xs).take (i*4)=fm eS (xs.take i):=by
 have e:fm eS xs=fm eS (xs.take i)++fm eS (xs.drop i):=by rw [<-b17,List.take_append_drop]
 rw [e,List.take_append_of_le_length (by rw [c2a,List.length_take]; omega),List.take_of_length_le (by rw [c2a,List.length_take]; omega)]
abbrev slS (l:List Sp):AV:= .sl l.length (fm eS l)
abbrev owS (l:List Sp):AV:= .own 4 l.length (fm eS l)
def c09 (s x:Sp) (o off:Int):Bool:=decide (0 < x.len)&&decide (max s.a x.a<=min s.b x.b)&&(decide (off < b8s o x.len)&&decide (o < b8s off s.len)&&decide (off < upI (b8s o x.len)))
def a6n (s:Sp) (off:Int):List Sp->List Int->Option Int
 | [],_=>none
 | _::_,[]=>none
 | x::xs,o::os=>if c09 s x o off=true then some (upI (b8s o x.len)) else a6n s off xs os
def a4l (s:Sp) (xs:List Sp) (os:List Int):Nat->Int->Int
 | 0,off=>off
 | n+1,off=>match a6n s off xs os with
  | none=>off
  | some o=>a4l s xs os n o
def d0c (N:Nat):List Sp->List Int->Int->List Sp->List Int×Int
 | _,os,m,[]=>(os,m)
 | ds,os,m,s::ss=>if s.len < 1 then d0c N (ds++[s]) (os++[0]) m ss else d0c N (ds++[s]) (os++[a4l s ds os N 0]) (max m (b8s (a4l s ds os N 0) s.len)) ss
def b6g:Nat:=2 ^ 63
def a5k (l:List Sp):List Int×Int:=d0c b6g [] [] 0 l
theorem d1d {n:Int} (h:0<=n/\n < 2 ^ 63):0<=upI n/\upI n < 2 ^ 63:=by
 unfold upI; split<;>omega
theorem c51 {a n:Int} (h:0<=a/\a < 2 ^ 63) (h2:0<=n/\n < 2 ^ 63):0<=b8s a n/\b8s a n < 2 ^ 63:=by
 unfold b8s; split<;>omega
theorem b7g {s:Sp} {off:Int}:∀ {xs:List Sp} {os:List Int} {o:Int},(∀ x∈xs,x.len < 2 ^ 63)->(∀ o∈os,0<=o/\o < 2 ^ 63)->a6n s off xs os=some o->off < o/\0<=o/\o < 2 ^ 63
 | [],_,o,_,_,h=>by simp [a6n] at h
 | _::_,[],o,_,_,h=>by simp [a6n] at h
 | x::xs,y::os,o,hx,ho,h=>by
  rw [a6n] at h
  split at h
  ·rename_i hb
   simp only [c09,Bool.and_eq_true,decide_eq_true_eq] at hb
   have h1:=hx x (by simp)
   have h2:=ho y (by simp)
   have:=d1d (c51 h2 ⟨by omega,h1⟩)
   simp only [Option.some.injEq] at h
   omega
  ·exact b7g (fun x hx2=>hx x (by simp [hx2])) (fun x hx2=>ho x (by simp [hx2])) h
theorem c2z {s:Sp} {off:Int}:∀ {xs:List Sp} {os zs:List Int},os.length=xs.length->a6n s off xs (os++zs)=a6n s off xs os
 | [],[],zs,_=>by cases zs<;>rfl
 | x::xs,y::os,zs,h=>by rw [List.cons_append,a6n,a6n,c2z (by simpa using h)]
theorem c20 {s:Sp} {xs:List Sp} {os zs:List Int} (h:os.length=xs.length):∀ {n:Nat} {off:Int},a4l s xs (os++zs) n off=a4l s xs os n off
 | 0,off=>rfl
 | n+1,off=>by
  rw [a4l,a4l,c2z h]
  split
  ·rfl
  ·exact c20 h
theorem c21 {s:Sp} {xs:List Sp} {os:List Int} (hx:∀ x∈xs,x.len < 2 ^ 63) (ho:∀ o∈os,0<=o/\o < 2 ^ 63):∀ {n:Nat} {off:Int},0<=off/\off < 2 ^ 63->0<=a4l s xs os n off/\a4l s xs os n off < 2 ^ 63
 | 0,off,h=>h
 | n+1,off,h=>by
  rw [a4l]
  split
  ·exact h
  ·rename_i o e
   exact c21 hx ho (b7g hx ho e).2
section
variable {G:GG} {bk:Nat->Nat×Nat} {Q:Exit->St->Prop} {st:St}
theorem d3i {l ds:List Sp} {s:Sp} {os:List Int} {off most:Int} {i:Nat} (hds:ds.length=i) (hl:l.length < 2 ^ 40) (hos:ds.length<=os.length) (hol:os.length < 2 ^ 40) (hx:∀ x∈ds,x.len < 2 ^ 63) (ho:∀ o∈os,0<=o/\o < 2 ^ 63) (hs:s.len < 2 ^ 63/\1<=s.len) (hoff:0<=off/\off < 2 ^ 63)
  (h:st.s 0=slS l/\st.s 4=owI os/\st.s 5=li most/\st.s 6=li i/\st.s 7= .var (eS s)/\st.s 8=li off/\st.s 15=slS l/\st.s 16=li l.length/\st.s 17=li i/\st.s 27= .sl i (fm eS ds)/\st.s 28=li i/\st.s 29=li 0)
  (hhit:∀ o,a6n s off ds os=some o->∀ s':St,s'.s 0=slS l/\s'.s 4=owI os/\s'.s 5=li most/\s'.s 6=li i/\s'.s 7= .var (eS s)/\s'.s 8=li o/\s'.s 15=slS l/\s'.s 16=li l.length/\s'.s 17=li i->Q (.exit 3) s')
  (hex:a6n s off ds os=none->∀ s':St,s'.s 0=slS l/\s'.s 4=owI os/\s'.s 5=li most/\s'.s 6=li i/\s'.s 7= .var (eS s)/\s'.s 8=li off/\s'.s 15=slS l/\s'.s 16=li l.length/\s'.s 17=li i->Q (.exit 4) s'):AW pg G 107 (.loop a38) Q st:=by
 subst hds
 refine a0u Nat (fun k st=>k<=ds.length/\a6n s off (ds.drop k) (os.drop k)=a6n s off ds os/\st.s 0=slS l/\st.s 4=owI os/\st.s 5=li most/\st.s 6=li ds.length/\st.s 7= .var (eS s)/\st.s 8=li off/\st.s 15=slS l/\st.s 16=li l.length/\st.s 17=li ds.length/\st.s 27=slS ds/\st.s 28=li ds.length/\st.s 29=li k) (fun k=>ds.length - k) 0 ⟨by omega,by simp,by simpa using h⟩ ?_
 clear h
 rintro k st K ⟨hk,hm,h⟩ hK
 by_cases c:k < ds.length
 ·have c2:k < os.length:=by omega
  have h1:=hx _ (List.getElem_mem c)
  have h2:=ho _ (List.getElem_mem c2)
  rw [List.drop_eq_getElem_cons c,List.drop_eq_getElem_cons c2,a6n] at hm
  generalize hxv:ds[k]=x at *
  generalize hov:os[k]=o at *
  simp only [eS] at h ⊢
  have hend1:=fun (hh:0 < x.len)=>d51 (G:=G) o x.len h2 ⟨by omega,h1⟩
  have hend2:=d51 (G:=G) off s.len hoff ⟨by omega,hs.1⟩
  have hup:=fun (hh:0 < x.len)=>f5l (G:=G) (b8s o x.len) (c51 h2 ⟨by omega,h1⟩)
  have hno:c09 s x o off=false->a6n s off (ds.drop (k+1)) (os.drop (k+1))=a6n s off ds os:=by
   intro hb; rw [hb] at hm; simpa using hm
  have hyes:c09 s x o off=true->a6n s off ds os=some (upI (b8s o x.len)):=by
   intro hb; rw [hb] at hm; simpa using hm.symm
  by_cases c1:0 < x.len
  ·by_cases c3:max s.a x.a<=min s.b x.b
   ·simp (disch:=omega) [go_sem,a38,h,c,hxv,c1,c3]
    refine a0b ?_
    simp (disch:=omega) [go_sem,h,c,c2,hxv,hov,c1,c3]
    refine a0m (hend1 c1) rfl rfl (by simp) [59] (by simp) (by simp (disch:=omega) [go_sem]) ?_
    by_cases c4:off < b8s o x.len
    ·simp (disch:=omega) [go_sem,h,c,c2,hxv,hov,c4]
     refine a0m hend2 rfl rfl (by simp) [70] (by simp) (by simp (disch:=omega) [go_sem]) ?_
     by_cases c5:o < b8s off s.len
     ·simp (disch:=omega) [go_sem,h,c,c2,hxv,hov,c4,c5]
      refine a0m (hend1 c1) rfl rfl (by simp) [81] (by simp) (by simp (disch:=omega) [go_sem]) ?_
      simp (disch:=omega) [go_sem,h,c,c2,hxv,hov,c4,c5]
      refine a0m (hup c1) rfl rfl (by simp) [82] (by simp) (by simp (disch:=omega) [go_sem]) ?_
      by_cases c6:off < upI (b8s o x.len)
      ·have hb:c09 s x o off=true:=by simp [c09,c1,c3,c4,c5,c6]
       simp (disch:=omega) [go_sem,h,c,c2,hxv,hov,c4,c5,c6]
       refine a0d (by decide) fun s2 hs2 hep=> ?_
       have f:s2.s 0=slS l/\s2.s 4=owI os/\s2.s 5=li most/\s2.s 6=li ds.length/\s2.s 7= .var (eS s)/\s2.s 9=li k/\s2.s 10= .var [li x.a,li x.b,li x.off,li x.len]/\s2.s 15=slS l/\s2.s 16=li l.length/\s2.s 17=li ds.length/\s2.s 84=lb true:=by
        refine ⟨?_,?_,?_,?_,?_,?_,?_,?_,?_,?_,?_⟩<;>simp (disch:=omega) [go_sem,hs2,h,eS]
       clear hs2 hep h
       simp (disch:=omega) [go_sem,f]
       refine a0b ?_
       simp (disch:=omega) [go_sem,f,c2,hov]
       refine a0m (hend1 c1) rfl rfl (by simp) [91] (by simp) (by simp (disch:=omega) [go_sem]) ?_
       simp (disch:=omega) [go_sem,f]
       refine a0m (hup c1) rfl rfl (by simp) [92] (by simp) (by simp (disch:=omega) [go_sem]) ?_
       simp (disch:=omega) [go_sem,f]
       refine a0d (by decide) fun s3 hs3 hep3=> ?_
       simp (disch:=omega) [go_sem,hs3,f]
       exact hhit _ (hyes hb) _ (by simp (disch:=omega) [go_sem,hs3,f])
      ·have hb:c09 s x o off=false:=by simp [c09,c6]
       simp (disch:=omega) [go_sem,h,c,c2,hxv,hov,c4,c5,c6]
       refine a0d (by decide) fun s2 hs2 hep=> ?_
       have f:s2.s 0=slS l/\s2.s 4=owI os/\s2.s 5=li most/\s2.s 6=li ds.length/\s2.s 7= .var (eS s)/\s2.s 8=li off/\s2.s 15=slS l/\s2.s 16=li l.length/\s2.s 17=li ds.length/\s2.s 27=slS ds/\s2.s 28=li ds.length/\s2.s 29=li k/\s2.s 84=lb false:=by
        refine ⟨?_,?_,?_,?_,?_,?_,?_,?_,?_,?_,?_,?_,?_⟩<;>simp (disch:=omega) [go_sem,hs2,h,eS]
       clear hs2 hep h
       simp (disch:=omega) [go_sem,f]
       exact hK (k+1) _ ⟨by omega,hno hb,by simp (disch:=omega) [go_sem,f]⟩ (by omega)
     ·have hb:c09 s x o off=false:=by simp [c09,c5]
      simp (disch:=omega) [go_sem,h,c,c2,hxv,hov,c4,c5]
      refine a0d (by decide) fun s2 hs2 hep=> ?_
      have f:s2.s 0=slS l/\s2.s 4=owI os/\s2.s 5=li most/\s2.s 6=li ds.length/\s2.s 7= .var (eS s)/\s2.s 8=li off/\s2.s 15=slS l/\s2.s 16=li l.length/\s2.s 17=li ds.length/\s2.s 27=slS ds/\s2.s 28=li ds.length/\s2.s 29=li k/\s2.s 84=lb false:=by
       refine ⟨?_,?_,?_,?_,?_,?_,?_,?_,?_,?_,?_,?_,?_⟩<;>simp (disch:=omega) [go_sem,hs2,h,eS]
      clear hs2 hep h
      simp (disch:=omega) [go_sem,f]
      exact hK (k+1) _ ⟨by omega,hno hb,by simp (disch:=omega) [go_sem,f]⟩ (by omega)
    ·have hb:c09 s x o off=false:=by simp [c09,c4]
     simp (disch:=omega) [go_sem,h,c,c2,hxv,hov,c4]
     refine a0d (by decide) fun s2 hs2 hep=> ?_
     have f:s2.s 0=slS l/\s2.s 4=owI os/\s2.s 5=li most/\s2.s 6=li ds.length/\s2.s 7= .var (eS s)/\s2.s 8=li off/\s2.s 15=slS l/\s2.s 16=li l.length/\s2.s 17=li ds.length/\s2.s 27=slS ds/\s2.s 28=li ds.length/\s2.s 29=li k/\s2.s 84=lb false:=by
      refine ⟨?_,?_,?_,?_,?_,?_,?_,?_,?_,?_,?_,?_,?_⟩<;>simp (disch:=omega) [go_sem,hs2,h,eS]
     clear hs2 hep h
     simp (disch:=omega) [go_sem,f]
     exact hK (k+1) _ ⟨by omega,hno hb,by simp (disch:=omega) [go_sem,f]⟩ (by omega)
   ·have hb:c09 s x o off=false:=by simp only [c09,c3,decide_false,Bool.and_false,Bool.false_and]
    simp (disch:=omega) [go_sem,a38,h,c,hxv,c1,c3]
    refine a0b ?_
    simp (disch:=omega) [go_sem,h,c,c2,hxv,hov,c1,c3]
    refine a0d (by decide) fun s2 hs2 hep=> ?_
    have f:s2.s 0=slS l/\s2.s 4=owI os/\s2.s 5=li most/\s2.s 6=li ds.length/\s2.s 7= .var (eS s)/\s2.s 8=li off/\s2.s 15=slS l/\s2.s 16=li l.length/\s2.s 17=li ds.length/\s2.s 27=slS ds/\s2.s 28=li ds.length/\s2.s 29=li k/\s2.s 84=lb false:=by
     refine ⟨?_,?_,?_,?_,?_,?_,?_,?_,?_,?_,?_,?_,?_⟩<;>simp (disch:=omega) [go_sem,hs2,h,eS]
    clear hs2 hep h
    simp (disch:=omega) [go_sem,f]
    exact hK (k+1) _ ⟨by omega,hno hb,by simp (disch:=omega) [go_sem,f]⟩ (by omega)
  ·have hb:c09 s x o off=false:=by simp only [c09,c1,decide_false,Bool.false_and]
   simp (disch:=omega) [go_sem,a38,h,c,hxv,c1]
   refine a0b ?_
   simp (disch:=omega) [go_sem,h,c,c2,hxv,hov,c1]
   refine a0d (by decide) fun s2 hs2 hep=> ?_
   have f:s2.s 0=slS l/\s2.s 4=owI os/\s2.s 5=li most/\s2.s 6=li ds.length/\s2.s 7= .var (eS s)/\s2.s 8=li off/\s2.s 15=slS l/\s2.s 16=li l.length/\s2.s 17=li ds.length/\s2.s 27=slS ds/\s2.s 28=li ds.length/\s2.s 29=li k/\s2.s 84=lb false:=by
    refine ⟨?_,?_,?_,?_,?_,?_,?_,?_,?_,?_,?_,?_,?_⟩<;>simp (disch:=omega) [go_sem,hs2,h,eS]
   clear hs2 hep h
   simp (disch:=omega) [go_sem,f]
   exact hK (k+1) _ ⟨by omega,hno hb,by simp (disch:=omega) [go_sem,f]⟩ (by omega)
 ·have:k=ds.length:=by omega
  subst this
  rw [List.drop_length,a6n] at hm
  simp (disch:=omega) [go_sem,a38,h]
  exact hex hm.symm _ (by simp (disch:=omega) [go_sem,h])
end
end Go.Ideal.Tryz
end
