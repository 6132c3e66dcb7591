/- Part Qaw of the proof: walks on a machine that is proved sound. -/
import Derived.Test.YtploijbaclgehaaDoorQav
set_option linter.unusedVariables false
set_option linter.unusedSimpArgs false
set_option maxHeartbeats 4000000
set_option maxRecDepth 100000
section
namespace Go.Ideal.Tryd
theorem b7v {a b:Int}:(if a < b then b else a)=max a b:=by split<;>omega
theorem a3q {α:Type} [Inhabited α] {l:List α} {i:Nat} (h:i < l.length):l[i]! =l[i]:=by simp [h]
structure Sp where
 a:Int
 b:Int
 off:Int
 len:Int
 deriving DecidableEq
instance:Inhabited Sp:=⟨⟨0,0,0,0⟩⟩
def eS (s:Sp):List AV:=[li s.a,li s.b,li s.off,li s.len]
@[go_sem] theorem c33 {xs:List Sp}:(fm eS xs).length=xs.length*4:=a6i fun _=>rfl
@[go_sem] theorem g1x {xs:List Sp} {i:Nat} (h:i < xs.length):((fm eS xs).drop (i*4)).take 4=[li xs[i].a,li xs[i].b,li xs[i].off,li xs[i].len]:=b0z (f:=eS) (k:=4) (fun _=>rfl) h
@[go_sem] theorem f4z {xs:List Sp}:(fm eS xs).take (xs.length*4)=fm eS xs:=a38 fun _=>rfl
@[go_sem] theorem f0b {xs:List Sp}:a0m (fm eS xs)=true:=a7w fun _=>rfl
@[go_sem] theorem g1w {xs:List Sp}:a1k (fm eS xs)=fm eS xs:=by
 rw [a69]; congr 1
@[go_sem] theorem f0a {xs:List Sp}:a0z (fm eS xs)=true:=a7v fun n=>by simp [eS,go_sem]
theorem d1d {xs:List Sp} {i:Nat} (h:i<=xs.length):(fm eS xs).take (i*4)=fm eS (xs.take i):=by
 have e:fm eS xs=fm eS (xs.take i)++fm eS (xs.drop i):=by rw [<-a5k,List.take_append_drop]
 rw [e,List.take_append_of_le_length (by rw [c33,List.length_take]; omega),List.take_of_length_le (by rw [c33,List.length_take]; omega)]
abbrev slS (l:List Sp):AV:= .sl l.length (fm eS l)
abbrev owS (l:List Sp):AV:= .own 4 l.length (fm eS l)
def b8t (s x:Sp) (o off:Int):Bool:=decide (0 < x.len)&&decide (max s.a x.a<=min s.b x.b)&&(decide (off < b5v o x.len)&&decide (o < b5v off s.len)&&decide (off < upI (b5v o x.len)))
def a5h (s:Sp) (off:Int):List Sp->List Int->Option Int
 | [],_=>none
 | _::_,[]=>none
 | x::xs,o::os=>if b8t s x o off=true then some (upI (b5v o x.len)) else a5h s off xs os
def a49 (s:Sp) (xs:List Sp) (os:List Int):Nat->Int->Int
 | 0,off=>off
 | n+1,off=>match a5h s off xs os with
  | none=>off
  | some o=>a49 s xs os n o
def c81 (N:Nat):List Sp->List Int->Int->List Sp->List Int×Int
 | _,os,m,[]=>(os,m)
 | ds,os,m,s::ss=>if s.len < 1 then c81 N (ds++[s]) (os++[0]) m ss else c81 N (ds++[s]) (os++[a49 s ds os N 0]) (max m (b5v (a49 s ds os N 0) s.len)) ss
def c1b:Nat:=2 ^ 63
def a5n (l:List Sp):List Int×Int:=c81 c1b [] [] 0 l
theorem c97 {n:Int} (h:0<=n/\n < 2 ^ 63):0<=upI n/\upI n < 2 ^ 63:=by
 unfold upI; split<;>omega
theorem c36 {a n:Int} (h:0<=a/\a < 2 ^ 63) (h2:0<=n/\n < 2 ^ 63):0<=b5v a n/\b5v a n < 2 ^ 63:=by
 unfold b5v; split<;>omega
theorem b4f {s:Sp} {off:Int}:∀ {xs:List Sp} {os:List Int} {o:Int},(∀ x∈xs,x.len < 2 ^ 63)->(∀ o∈os,0<=o/\o < 2 ^ 63)->a5h s off xs os=some o->off < o/\0<=o/\o < 2 ^ 63
 | [],_,o,_,_,h=>by simp [a5h] at h
 | _::_,[],o,_,_,h=>by simp [a5h] at h
 | x::xs,y::os,o,hx,ho,h=>by
  rw [a5h] at h
  split at h
  ·rename_i hb
   simp only [b8t,Bool.and_eq_true,decide_eq_true_eq] at hb
   have h1:=hx x (by simp)
   have h2:=ho y (by simp)
   have:=c97 (c36 h2 ⟨by omega,h1⟩)
   simp only [Option.some.injEq] at h
   omega
  ·exact b4f (fun x hx2=>hx x (by simp [hx2])) (fun x hx2=>ho x (by simp [hx2])) h
theorem b99 {s:Sp} {off:Int}:∀ {xs:List Sp} {os zs:List Int},os.length=xs.length->a5h s off xs (os++zs)=a5h s off xs os
 | [],[],zs,_=>by cases zs<;>rfl
 | x::xs,y::os,zs,h=>by rw [List.cons_append,a5h,a5h,b99 (by simpa using h)]
theorem c0a {s:Sp} {xs:List Sp} {os zs:List Int} (h:os.length=xs.length):∀ {n:Nat} {off:Int},a49 s xs (os++zs) n off=a49 s xs os n off
 | 0,off=>rfl
 | n+1,off=>by
  rw [a49,a49,b99 h]
  split
  ·rfl
  ·exact c0a h
theorem c0b {s:Sp} {xs:List Sp} {os:List Int} (hx:∀ x∈xs,x.len < 2 ^ 63) (ho:∀ o∈os,0<=o/\o < 2 ^ 63):∀ {n:Nat} {off:Int},0<=off/\off < 2 ^ 63->0<=a49 s xs os n off/\a49 s xs os n off < 2 ^ 63
 | 0,off,h=>h
 | n+1,off,h=>by
  rw [a49]
  split
  ·exact h
  ·rename_i o e
   exact c0b hx ho (b4f hx ho e).2
section
variable {G:GG} {bk:Nat->Nat×Nat} {Q:Exit->St->Prop} {st:St}
theorem d2u {l ds:List Sp} {s:Sp} {os:List Int} {off most:Int} {i:Nat} (hds:ds.length=i) (hl:l.length < 2 ^ 40) (hos:ds.length<=os.length) (hol:os.length < 2 ^ 40) (hx:∀ x∈ds,x.len < 2 ^ 63) (ho:∀ o∈os,0<=o/\o < 2 ^ 63) (hs:s.len < 2 ^ 63/\1<=s.len) (hoff:0<=off/\off < 2 ^ 63)
  (h:st.s 0=slS l/\st.s 4=owI os/\st.s 5=li most/\st.s 6=li i/\st.s 7= .var (eS s)/\st.s 8=li off/\st.s 15=slS l/\st.s 16=li l.length/\st.s 17=li i/\st.s 27= .sl i (fm eS ds)/\st.s 28=li i/\st.s 29=li 0)
  (hhit:∀ o,a5h s off ds os=some o->∀ s':St,s'.s 0=slS l/\s'.s 4=owI os/\s'.s 5=li most/\s'.s 6=li i/\s'.s 7= .var (eS s)/\s'.s 8=li o/\s'.s 15=slS l/\s'.s 16=li l.length/\s'.s 17=li i->Q (.exit 3) s')
  (hex:a5h s off ds os=none->∀ s':St,s'.s 0=slS l/\s'.s 4=owI os/\s'.s 5=li most/\s'.s 6=li i/\s'.s 7= .var (eS s)/\s'.s 8=li off/\s'.s 15=slS l/\s'.s 16=li l.length/\s'.s 17=li i->Q (.exit 4) s'):AW pg G 107 (.loop a3a) Q st:=by
 subst hds
 refine a0x Nat (fun k st=>k<=ds.length/\a5h s off (ds.drop k) (os.drop k)=a5h s off ds os/\st.s 0=slS l/\st.s 4=owI os/\st.s 5=li most/\st.s 6=li ds.length/\st.s 7= .var (eS s)/\st.s 8=li off/\st.s 15=slS l/\st.s 16=li l.length/\st.s 17=li ds.length/\st.s 27=slS ds/\st.s 28=li ds.length/\st.s 29=li k) (fun k=>ds.length - k) 0 ⟨by omega,by simp,by simpa using h⟩ ?_
 clear h
 rintro k st K ⟨hk,hm,h⟩ hK
 by_cases c:k < ds.length
 ·have c2:k < os.length:=by omega
  have h1:=hx _ (List.getElem_mem c)
  have h2:=ho _ (List.getElem_mem c2)
  rw [List.drop_eq_getElem_cons c,List.drop_eq_getElem_cons c2,a5h] at hm
  generalize hxv:ds[k]=x at *
  generalize hov:os[k]=o at *
  simp only [eS] at h ⊢
  have hend1:=fun (hh:0 < x.len)=>d5j (G:=G) o x.len h2 ⟨by omega,h1⟩
  have hend2:=d5j (G:=G) off s.len hoff ⟨by omega,hs.1⟩
  have hup:=fun (hh:0 < x.len)=>g4o (G:=G) (b5v o x.len) (c36 h2 ⟨by omega,h1⟩)
  have hno:b8t s x o off=false->a5h s off (ds.drop (k+1)) (os.drop (k+1))=a5h s off ds os:=by
   intro hb; rw [hb] at hm; simpa using hm
  have hyes:b8t s x o off=true->a5h s off ds os=some (upI (b5v o x.len)):=by
   intro hb; rw [hb] at hm; simpa using hm.symm
  by_cases c1:0 < x.len
  ·by_cases c3:max s.a x.a<=min s.b x.b
   ·simp (disch:=omega) [go_sem,a3a,h,c,hxv,c1,c3]
    refine a0b ?_
    simp (disch:=omega) [go_sem,h,c,c2,hxv,hov,c1,c3]
    refine a0w (hend1 c1) rfl rfl (by simp) [59] (by simp) (by simp (disch:=omega) [go_sem]) ?_
    by_cases c4:off < b5v o x.len
    ·simp (disch:=omega) [go_sem,h,c,c2,hxv,hov,c4]
     refine a0w hend2 rfl rfl (by simp) [70] (by simp) (by simp (disch:=omega) [go_sem]) ?_
     by_cases c5:o < b5v off s.len
     ·simp (disch:=omega) [go_sem,h,c,c2,hxv,hov,c4,c5]
      refine a0w (hend1 c1) rfl rfl (by simp) [81] (by simp) (by simp (disch:=omega) [go_sem]) ?_
      simp (disch:=omega) [go_sem,h,c,c2,hxv,hov,c4,c5]
      refine a0w (hup c1) rfl rfl (by simp) [82] (by simp) (by simp (disch:=omega) [go_sem]) ?_
      by_cases c6:off < upI (b5v o x.len)
      ·have hb:b8t s x o off=true:=by simp [b8t,c1,c3,c4,c5,c6]
       simp (disch:=omega) [go_sem,h,c,c2,hxv,hov,c4,c5,c6]
       refine a0c (by decide) fun s2 hs2 hep=> ?_
       have f:s2.s 0=slS l/\s2.s 4=owI os/\s2.s 5=li most/\s2.s 6=li ds.length/\s2.s 7= .var (eS s)/\s2.s 9=li k/\s2.s 10= .var [li x.a,li x.b,li x.off,li x.len]/\s2.s 15=slS l/\s2.s 16=li l.length/\s2.s 17=li ds.length/\s2.s 84=lb true:=by
        refine ⟨?_,?_,?_,?_,?_,?_,?_,?_,?_,?_,?_⟩<;>simp (disch:=omega) [go_sem,hs2,h,eS]
       clear hs2 hep h
       simp (disch:=omega) [go_sem,f]
       refine a0b ?_
       simp (disch:=omega) [go_sem,f,c2,hov]
       refine a0w (hend1 c1) rfl rfl (by simp) [91] (by simp) (by simp (disch:=omega) [go_sem]) ?_
       simp (disch:=omega) [go_sem,f]
       refine a0w (hup c1) rfl rfl (by simp) [92] (by simp) (by simp (disch:=omega) [go_sem]) ?_
       simp (disch:=omega) [go_sem,f]
       refine a0c (by decide) fun s3 hs3 hep3=> ?_
       simp (disch:=omega) [go_sem,hs3,f]
       exact hhit _ (hyes hb) _ (by simp (disch:=omega) [go_sem,hs3,f])
      ·have hb:b8t s x o off=false:=by simp [b8t,c6]
       simp (disch:=omega) [go_sem,h,c,c2,hxv,hov,c4,c5,c6]
       refine a0c (by decide) fun s2 hs2 hep=> ?_
       have f:s2.s 0=slS l/\s2.s 4=owI os/\s2.s 5=li most/\s2.s 6=li ds.length/\s2.s 7= .var (eS s)/\s2.s 8=li off/\s2.s 15=slS l/\s2.s 16=li l.length/\s2.s 17=li ds.length/\s2.s 27=slS ds/\s2.s 28=li ds.length/\s2.s 29=li k/\s2.s 84=lb false:=by
        refine ⟨?_,?_,?_,?_,?_,?_,?_,?_,?_,?_,?_,?_,?_⟩<;>simp (disch:=omega) [go_sem,hs2,h,eS]
       clear hs2 hep h
       simp (disch:=omega) [go_sem,f]
       exact hK (k+1) _ ⟨by omega,hno hb,by simp (disch:=omega) [go_sem,f]⟩ (by omega)
     ·have hb:b8t s x o off=false:=by simp [b8t,c5]
      simp (disch:=omega) [go_sem,h,c,c2,hxv,hov,c4,c5]
      refine a0c (by decide) fun s2 hs2 hep=> ?_
      have f:s2.s 0=slS l/\s2.s 4=owI os/\s2.s 5=li most/\s2.s 6=li ds.length/\s2.s 7= .var (eS s)/\s2.s 8=li off/\s2.s 15=slS l/\s2.s 16=li l.length/\s2.s 17=li ds.length/\s2.s 27=slS ds/\s2.s 28=li ds.length/\s2.s 29=li k/\s2.s 84=lb false:=by
       refine ⟨?_,?_,?_,?_,?_,?_,?_,?_,?_,?_,?_,?_,?_⟩<;>simp (disch:=omega) [go_sem,hs2,h,eS]
      clear hs2 hep h
      simp (disch:=omega) [go_sem,f]
      exact hK (k+1) _ ⟨by omega,hno hb,by simp (disch:=omega) [go_sem,f]⟩ (by omega)
    ·have hb:b8t s x o off=false:=by simp [b8t,c4]
     simp (disch:=omega) [go_sem,h,c,c2,hxv,hov,c4]
     refine a0c (by decide) fun s2 hs2 hep=> ?_
     have f:s2.s 0=slS l/\s2.s 4=owI os/\s2.s 5=li most/\s2.s 6=li ds.length/\s2.s 7= .var (eS s)/\s2.s 8=li off/\s2.s 15=slS l/\s2.s 16=li l.length/\s2.s 17=li ds.length/\s2.s 27=slS ds/\s2.s 28=li ds.length/\s2.s 29=li k/\s2.s 84=lb false:=by
      refine ⟨?_,?_,?_,?_,?_,?_,?_,?_,?_,?_,?_,?_,?_⟩<;>simp (disch:=omega) [go_sem,hs2,h,eS]
     clear hs2 hep h
     simp (disch:=omega) [go_sem,f]
     exact hK (k+1) _ ⟨by omega,hno hb,by simp (disch:=omega) [go_sem,f]⟩ (by omega)
   ·have hb:b8t s x o off=false:=by simp only [b8t,c3,decide_false,Bool.and_false,Bool.false_and]
    simp (disch:=omega) [go_sem,a3a,h,c,hxv,c1,c3]
    refine a0b ?_
    simp (disch:=omega) [go_sem,h,c,c2,hxv,hov,c1,c3]
    refine a0c (by decide) fun s2 hs2 hep=> ?_
    have f:s2.s 0=slS l/\s2.s 4=owI os/\s2.s 5=li most/\s2.s 6=li ds.length/\s2.s 7= .var (eS s)/\s2.s 8=li off/\s2.s 15=slS l/\s2.s 16=li l.length/\s2.s 17=li ds.length/\s2.s 27=slS ds/\s2.s 28=li ds.length/\s2.s 29=li k/\s2.s 84=lb false:=by
     refine ⟨?_,?_,?_,?_,?_,?_,?_,?_,?_,?_,?_,?_,?_⟩<;>simp (disch:=omega) [go_sem,hs2,h,eS]
    clear hs2 hep h
    simp (disch:=omega) [go_sem,f]
    exact hK (k+1) _ ⟨by omega,hno hb,by simp (disch:=omega) [go_sem,f]⟩ (by omega)
  ·have hb:b8t s x o off=false:=by simp only [b8t,c1,decide_false,Bool.false_and]
   simp (disch:=omega) [go_sem,a3a,h,c,hxv,c1]
   refine a0b ?_
   simp (disch:=omega) [go_sem,h,c,c2,hxv,hov,c1]
   refine a0c (by decide) fun s2 hs2 hep=> ?_
   have f:s2.s 0=slS l/\s2.s 4=owI os/\s2.s 5=li most/\s2.s 6=li ds.length/\s2.s 7= .var (eS s)/\s2.s 8=li off/\s2.s 15=slS l/\s2.s 16=li l.length/\s2.s 17=li ds.length/\s2.s 27=slS ds/\s2.s 28=li ds.length/\s2.s 29=li k/\s2.s 84=lb false:=by
    refine ⟨?_,?_,?_,?_,?_,?_,?_,?_,?_,?_,?_,?_,?_⟩<;>simp (disch:=omega) [go_sem,hs2,h,eS]
   clear hs2 hep h
   simp (disch:=omega) [go_sem,f]
   exact hK (k+1) _ ⟨by omega,hno hb,by simp (disch:=omega) [go_sem,f]⟩ (by omega)
 ·have:k=ds.length:=by omega
  subst this
  rw [List.drop_length,a5h] at hm
  simp (disch:=omega) [go_sem,a3a,h]
  exact hex hm.symm _ (by simp (disch:=omega) [go_sem,h])
end
end Go.Ideal.Tryd
end
