/- Part Qah of the proof: walks on a machine that is proved sound. -/
import Derived.Test.YtlemfkimffoiiaaGreatDoorQag
import Derived.Test.YtlemfkimffoiiaaGreatDoorProg
set_option linter.unusedVariables false
set_option linter.unusedSimpArgs false
set_option maxRecDepth 10000
section
namespace Go.Ideal
section
variable {P:Program} {G:GG} {N:Nat} {st:St} {K:St->Prop} {T:List (Nat×AV)} {u:Nat}
def cvK (N d:Nat) (o:Option (St×Nat×Nat×List AV)):Option St:=match o with
 | some r=>gO (r.2.1=1/\0 < r.2.2.1) (some ((r.1.put N (.own r.2.1 r.2.2.1 r.2.2.2)).thru N d (.own r.2.1 r.2.2.1 r.2.2.2)))
 | none=>none
@[congr] theorem e0u {d:Nat} {o o':Option (St×Nat×Nat×List AV)} (h:o=o'):cvK N d o=cvK N d o':=by rw [h]
@[go_sem] theorem e70 {d sz n:Nat} {ks:List AV}:cvK N d (some (st,sz,n,ks))=gO (sz=1/\0 < n) (some ((st.put N (.own sz n ks)).thru N d (.own sz n ks))):=(rfl)
@[go_sem] theorem e1k {d:Nat} {s t:TypeId} {x:X}:evS G N (some d) (.conv s t .keep x) st=cvK N d (tkS st N x (rdv st x)):=by
 simp only [evS,a05,Ev.run_bind,b96,Option.bind]
 cases tkS st N x (rdv st x) with
 | none=>rfl
 | some r=>
  simp only [Option.map,a1m,St.put_s,if_true,a0g,Ev.run_bind,Option.bind,cvK,gO]
  by_cases h1:r.2.1=1
  ·by_cases h2:0 < r.2.2.1
   ·simp only [h1,h2,beq_self_eq_true,decide_true,Bool.and_self,if_true,and_self,a6v]
   ·simp only [h1,h2,beq_self_eq_true,decide_false,Bool.and_false,Bool.false_eq_true,if_false,and_false]
  ·have:(r.2.1==1)=false:=by simpa using h1
   simp only [this,Bool.false_and,Bool.false_eq_true,if_false,h1,false_and]
def lkB {α:Type} (b:Bool) (v:α) (o:Option α):Option α:=if b then some v else o
@[congr] theorem e26 {α:Type} {b b':Bool} {v:α} {o:Option α} (h:b=b'):lkB b v o=lkB b' v o:=by rw [h]
@[go_sem] theorem g3j {α:Type} {v:α} {o:Option α}:lkB true v o=some v:=(rfl)
@[go_sem] theorem g3i {α:Type} {v:α} {o:Option α}:lkB false v o=o:=(rfl)
@[go_sem] theorem e9q {α:Type} {a b:Nat} {v:α} {T:List (Nat×α)}:List.lookup a ((b,v)::T)=lkB (a==b) v (List.lookup a T):=by
 simp only [List.lookup_cons,lkB]
 cases a==b<;>rfl
def d4m (b:Bool) (o:Option AV) (T:List (Nat×AV)) (v:AV):AV:=if b then (match o with
 | some av=>av
 | none=>a06 (a7z T) v) else .dead
@[congr] theorem d71 {b b':Bool} {o o':Option AV} {v:AV} (h:b=b') (h2:o=o'):d4m b o T v=d4m b' o' T v:=by rw [h,h2]
@[go_sem] theorem g1h {o:Option AV} {v:AV}:d4m false o T v= .dead:=(rfl)
@[go_sem] theorem g1j {av v:AV}:d4m true (some av) T v=av:=(rfl)
@[go_sem] theorem g1i {v:AV}:d4m true none T v=a06 (a7z T) v:=(rfl)
@[go_sem] theorem f5u:(st.lentS N T).s u=d4m (decide (u < N)) (T.lookup u) T (st.s u):=by
 simp only [St.lentS,d4m,decide_eq_true_eq]
 cases T.lookup u<;>rfl
@[go_sem] theorem e9h:(st.lentS N T).ep u=st.ep u:=(rfl)
def b7e (o:Option AV):Bool:=match o with
 | some (.var ks)=> !a0m ks
 | some (.own _ _ ks)=> !a0m ks
 | _=>false
@[congr] theorem d4n {o o':Option AV} (h:o=o'):b7e o=b7e o':=by rw [h]
@[go_sem] theorem f5r:b7e none=false:=(rfl)
@[go_sem] theorem f5t {ks:List AV}:b7e (some (.var ks))= !a0m ks:=(rfl)
@[go_sem] theorem f5s {sz n:Nat} {ks:List AV}:b7e (some (.own sz n ks))= !a0m ks:=(rfl)
theorem b54 {t i:Nat} {q:List Nat}:a7z T t (i::q)=b7e (T.lookup t):=by
 simp only [a7z,b7e]
 cases T.lookup t with
 | none=>rfl
 | some av=>cases av<;>rfl
def d2l (b:Bool) (v:AV):AV:=if b then .dead else v
@[congr] theorem d7r {b b':Bool} {v:AV} (h:b=b'):d2l b v=d2l b' v:=by rw [h]
@[go_sem] theorem g1c {v:AV}:d2l true v= .dead:=(rfl)
@[go_sem] theorem g1b {v:AV}:d2l false v=v:=(rfl)
@[go_sem] theorem d7w {t o e:Nat}:a06 (a7z T) (.ref t [] o e)= .ref t [] o e:=by simp [a06,a7z]
@[go_sem] theorem d7x {t i o e:Nat} {q:List Nat}:a06 (a7z T) (.ref t (i::q) o e)=d2l (b7e (T.lookup t)) (.ref t (i::q) o e):=by simp only [a06,b54,d2l]
@[go_sem] theorem d7s {t lo n e:Nat}:a06 (a7z T) (.bor t [] lo n e)= .bor t [] lo n e:=by simp [a06,a7z]
@[go_sem] theorem d7t {t i lo n e:Nat} {q:List Nat}:a06 (a7z T) (.bor t (i::q) lo n e)=d2l (b7e (T.lookup t)) (.bor t (i::q) lo n e):=by simp only [a06,b54,d2l]
def b7m (b:Bool) (o:Option (List AV×List (Nat×Nat))):Option (List AV×List (Nat×Nat)):=if b then o else none
@[congr] theorem d8g {b b':Bool} {o:Option (List AV×List (Nat×Nat))} (h:b=b'):b7m b o=b7m b' o:=by rw [h]
@[go_sem] theorem g10 {o:Option (List AV×List (Nat×Nat))}:b7m true o=o:=(rfl)
section
variable {st1:St} {acc:List AV} {L:List (Nat×Nat)} {es:List (Option Nat×AV)}
def pxV (N:Nat) (st1 st:St) (acc:List AV) (L:List (Nat×Nat)) (t:Nat) (v v1:AV) (es:List (Option Nat×AV)):Option (List AV×List (Nat×Nat)):=match v,v1 with
 | .var (k::ks),.var (_::_)=>pX N st1 st (acc++[.var (k::ks)]) (L++[(t,acc.length)]) es
 | _,_=>none
def pxR (N:Nat) (st1 st:St) (acc:List AV) (L:List (Nat×Nat)) (t e:Nat) (o:Option Nat) (es:List (Option Nat×AV)):Option (List AV×List (Nat×Nat)):=match o with
 | some j=>b7m (decide (e=st.ep t)) (pX N st1 st (acc++[.ref j [] 0 0]) L es)
 | none=>b7m (decide (e=st.ep t)&&decide (t < N)) (pxV N st1 st acc L t (st.s t) (st1.s t) es)
def pxT (N:Nat) (st1 st:St) (acc:List AV) (L:List (Nat×Nat)) (o:Option AV) (es:List (Option Nat×AV)):Option (List AV×List (Nat×Nat)):=match o with
 | some p=>pX N st1 st (acc++[p]) L es
 | none=>none
@[congr] theorem e5f {t:Nat} {v v' v1 v1':AV} (h:v=v') (h1:v1=v1'):pxV N st1 st acc L t v v1 es=pxV N st1 st acc L t v' v1' es:=by rw [h,h1]
@[congr] theorem e5d {t e:Nat} {o o':Option Nat} (h:o=o'):pxR N st1 st acc L t e o es=pxR N st1 st acc L t e o' es:=by rw [h]
@[congr] theorem e5e {o o':Option AV} (h:o=o'):pxT N st1 st acc L o es=pxT N st1 st acc L o' es:=by rw [h]
@[congr] theorem f0g {acc':List AV} {L':List (Nat×Nat)} {es':List (Option Nat×AV)} (h1:acc=acc') (h2:L=L') (h3:es=es'):pX N st1 st acc L es=pX N st1 st acc' L' es':=by rw [h1,h2,h3]
@[go_sem] theorem f7q {t:Nat} {k k1:AV} {ks ks1:List AV}:pxV N st1 st acc L t (.var (k::ks)) (.var (k1::ks1)) es=pX N st1 st (acc++[.var (k::ks)]) (L++[(t,acc.length)]) es:=(rfl)
@[go_sem] theorem g3s {t e j:Nat}:pxR N st1 st acc L t e (some j) es=b7m (decide (e=st.ep t)) (pX N st1 st (acc++[.ref j [] 0 0]) L es):=(rfl)
@[go_sem] theorem g3r {t e:Nat}:pxR N st1 st acc L t e none es=b7m (decide (e=st.ep t)&&decide (t < N)) (pxV N st1 st acc L t (st.s t) (st1.s t) es):=(rfl)
@[go_sem] theorem g3t {p:AV}:pxT N st1 st acc L (some p) es=pX N st1 st (acc++[p]) L es:=(rfl)
@[go_sem] theorem g15:pX N st1 st acc L []=some (acc,L):=(rfl)
@[go_sem] theorem g4k {k:Nat} {av:AV}:pX N st1 st acc L ((some k,av)::es)=b7m (noRef av) (pX N st1 st (acc++[av]) L es):=by
 simp only [pX,b7m]
@[go_sem] theorem g16 {t e:Nat}:pX N st1 st acc L ((none,.ref t [] 0 e)::es)=pxR N st1 st acc L t e (L.lookup t) es:=by
 simp only [pX,pxR,b7m,pxV,decide_eq_true_eq,Bool.and_eq_true]
 cases L.lookup t<;>rfl
@[go_sem] theorem e3r {t e sz n:Nat} {ks:List AV}:c46 t e (.own sz n ks)= .bor t [] 0 n e:=(rfl)
@[go_sem] theorem e3s {t e:Nat} {ks:List AV}:c46 t e (.var ks)= .ref t [] 0 e:=(rfl)
def pxO (N:Nat) (st1 st:St) (acc:List AV) (L:List (Nat×Nat)) (t n:Nat) (v v1:AV) (es:List (Option Nat×AV)):Option (List AV×List (Nat×Nat)):=match v,v1 with
 | .own sz n0 ks,.own sz1 n1 _=>b7m (decide (n=n0)&&(decide (sz1=sz)&&decide (n1=n0))) (pX N st1 st (acc++[.own sz n0 ks]) (L++[(t,acc.length)]) es)
 | _,_=>none
def pxB (N:Nat) (st1 st:St) (acc:List AV) (L:List (Nat×Nat)) (t n e:Nat) (o:Option Nat) (es:List (Option Nat×AV)):Option (List AV×List (Nat×Nat)):=match o with
 | some _=>none
 | none=>b7m (decide (e=st.ep t)&&decide (t < N)) (pxO N st1 st acc L t n (st.s t) (st1.s t) es)
@[congr] theorem e5b {t n n':Nat} {v v' v1 v1':AV} (hn:n=n') (h:v=v') (h1:v1=v1'):pxO N st1 st acc L t n v v1 es=pxO N st1 st acc L t n' v' v1' es:=by rw [hn,h,h1]
@[congr] theorem e5a {t n e:Nat} {o o':Option Nat} (h:o=o'):pxB N st1 st acc L t n e o es=pxB N st1 st acc L t n e o' es:=by rw [h]
@[go_sem] theorem f7p {t n sz n0 sz1 n1:Nat} {ks ks1:List AV}:pxO N st1 st acc L t n (.own sz n0 ks) (.own sz1 n1 ks1) es=b7m (decide (n=n0)&&(decide (sz1=sz)&&decide (n1=n0))) (pX N st1 st (acc++[.own sz n0 ks]) (L++[(t,acc.length)]) es):=(rfl)
@[go_sem] theorem g3q {t n e:Nat}:pxB N st1 st acc L t n e none es=b7m (decide (e=st.ep t)&&decide (t < N)) (pxO N st1 st acc L t n (st.s t) (st1.s t) es):=(rfl)
@[go_sem] theorem g12 {t n e:Nat}:pX N st1 st acc L ((none,.bor t [] 0 n e)::es)=pxB N st1 st acc L t n e (L.lookup t) es:=by
 simp only [pX,pxB,b7m,pxO,decide_eq_true_eq,Bool.and_eq_true]
 cases L.lookup t<;>rfl
@[go_sem] theorem g14 {v:Value}:pX N st1 st acc L ((none,.lit v)::es)=pX N st1 st (acc++[.lit v]) L es:=(rfl)
@[go_sem] theorem g3n {n:Nat} {ks:List AV}:pX N st1 st acc L ((none,.sl n ks)::es)=pX N st1 st (acc++[.sl n ks]) L es:=(rfl)
@[go_sem] theorem g3m {n:Nat} {ks:List AV}:pX N st1 st acc L ((none,.ip ks n)::es)=pX N st1 st (acc++[.ip ks n]) L es:=(rfl)
@[go_sem] theorem g11 {ks:List AV}:pX N st1 st acc L ((none,.agg ks)::es)=b7m (a0m ks) (pX N st1 st (acc++[.agg ks]) L es):=by
 simp only [pX,trA,a0n,b7m]
 by_cases h:a0m ks=true<;>simp [h]
@[go_sem] theorem g13 {t:TypeId} {k:AV}:pX N st1 st acc L ((none,.ifc t k)::es)=b7m (a0n k) (pX N st1 st (acc++[.ifc t k]) L es):=by
 simp only [pX,trA,a0n,b7m]
 by_cases h:a0n k=true<;>simp [h]
@[go_sem] theorem g3l {f:FuncId} {fs cs:List AV}:pX N st1 st acc L ((none,.fn f fs cs)::es)=pxT N st1 st acc L (trA st L (.fn f fs cs)) es:=(rfl)
def fn2 (f:FuncId) (a b:Option (List AV)):Option AV:=match a,b with
 | some a,some b=>some (.fn f a b)
 | _,_=>none
@[go_sem] theorem g29 {f:FuncId} {a b:List AV}:fn2 f (some a) (some b)=some (.fn f a b):=(rfl)
@[go_sem] theorem g2m {f:FuncId} {fs cs:List AV}:trA st L (.fn f fs cs)=fn2 f (trL st L fs) (trL st L cs):=by
 simp only [trA,fn2]
 cases trL st L fs<;>cases trL st L cs<;>rfl
@[go_sem] theorem f8u:trL st L []=some []:=by simp only [trL]
@[go_sem] theorem f1n {k:AV} {ks:List AV}:trL st L (k::ks)=avs (trA st L k) (trL st L ks):=by
 simp only [trL,avs]
 cases trA st L k<;>cases trL st L ks<;>rfl
@[go_sem] theorem f8s {v:Value}:trA st L (.lit v)=some (.lit v):=by simp only [trA,a0n,if_true]
@[go_sem] theorem g2o {n:Nat} {ks:List AV}:trA st L (.sl n ks)=some (.sl n ks):=by simp only [trA,a0n,if_true]
@[go_sem] theorem g2n {n:Nat} {ks:List AV}:trA st L (.ip ks n)=some (.ip ks n):=by simp only [trA,a0n,if_true]
def e6y (b:Bool) (l:Option Nat) (o:Nat):Option AV:=if b then l.map fun i=> .ref i [] o 0 else none
@[congr] theorem d9h {b b':Bool} {l l':Option Nat} {o:Nat} (h:b=b') (h2:l=l'):e6y b l o=e6y b' l' o:=by rw [h,h2]
@[go_sem] theorem g2p {i o:Nat}:e6y true (some i) o=some (.ref i [] o 0):=(rfl)
@[go_sem] theorem f8t {t o e:Nat}:trA st L (.ref t [] o e)=e6y (decide (e=st.ep t)) (L.lookup t) o:=by simp [trA,e6y]
@[go_sem] theorem g4o {t:Nat}:xv st (.t t)=st.s t:=(rfl)
@[go_sem] theorem g4l {v:Value}:xv st (.c v)= .lit v:=(rfl)
@[go_sem] theorem g4m {n:Nat}:xv st (.f n)= .fn n [] []:=(rfl)
@[go_sem] theorem g4n {n:Nat}:xv st (.g n)= .lit (.pointer (some ⟨n,0,none⟩)):=(rfl)
@[go_sem] theorem f3f {fs cs:List AV} {lay:List CS}:b5t N st fs lay cs=fs.map (fun a=>(none,a))++(lay.map (c23 N st)++cs.map (fun a=>(none,a))):=(rfl)
@[go_sem] theorem f9k {k:Nat}:c23 N st (.p k)=(some k,st.s (N+2+k)):=(rfl)
@[go_sem] theorem f9j {t:Nat}:c23 N st (.l t)=(none,c46 t (st.ep t) (st.s t)):=(rfl)
@[go_sem] theorem f9l {y:X}:c23 N st (.x y)=(none,xv st y):=(rfl)
end
def c4l (st:St) (N:Nat) (T:List (Nat×AV)) (d:Option Nat) (res:AV):St:=match d with
 | some d=>(st.lentS N T).thru N d res
 | none=>st.lentS N T
@[go_sem] theorem e1z {d:Nat} {res:AV}:c4l st N T (some d) res=(st.lentS N T).thru N d res:=(rfl)
@[go_sem] theorem e1y {res:AV}:c4l st N T none res=st.lentS N T:=(rfl)
def c1x:AV->Bool
 | .var _=>true
 | _=>false
def d1y (pre:List AV) (posts:List (Nat×AV)):Prop:=∀ i av,(i,av)∈posts->∃ p,pre[i]? =some p/\c52 p av
def c69:Option AV->Bool
 | some v=>c1x v
 | none=>false
def c0h (pre:List AV) (p:Nat×AV):Bool:=c1x p.2&&c69 pre[p.1]?
@[go_sem] theorem e2s {ks:List AV}:c1x (.var ks)=true:=(rfl)
@[go_sem] theorem d4j {v:AV}:c69 (some v)=c1x v:=(rfl)
@[go_sem] theorem f1o {pre:List AV} {i:Nat} {v:AV}:c0h pre (i,v)=(c1x v&&c69 pre[i]?):=(rfl)
theorem c3f {v:AV} (h:c1x v=true):∃ ks,v= .var ks:=by cases v<;>simp [c1x] at h; exact ⟨_,rfl⟩
theorem c3z {pre:List AV} {p:Nat×AV} (h:c0h pre p=true):∃ ks ks0,p.2= .var ks/\pre[p.1]? =some (.var ks0):=by
 simp only [c0h,Bool.and_eq_true] at h
 obtain ⟨ks,h1⟩:=c3f h.1
 cases h2:pre[p.1]? with
 | none=>rw [h2] at h; cases h.2
 | some v=>
  rw [h2] at h
  obtain ⟨ks0,rfl⟩:=c3f h.2
  exact ⟨ks,ks0,h1,rfl⟩
theorem b3l {pre:List AV} {posts:List (Nat×AV)} (h:(posts.all fun p=>c0h pre p)=true):d1y pre posts:=fun i av hm=>by
 obtain ⟨ks,ks0,h1,h2⟩:=c3z (List.all_eq_true.1 h _ hm)
 simp only at h1 h2
 subst h1
 exact ⟨_,h2,trivial⟩
def clx (P:Program) (G:GG) (N:Nat) (d:Option Nat) (f:FuncId) (pre:List AV) (L:List (Nat×Nat)) (st1 st2:St) (K:St->Prop):Prop:=
 ∃ res posts,ACallsX P G f pre res posts/\noRef res=true/\posts.map (·.1)=L.map (·.2)/\d1y pre posts/\K (c4l (if a0x res&&posts.all fun p=>a0x p.2 then st1 else st2) N ((L.map (·.1)).zip (posts.map (·.2))) d res)
def d6q (P:Program) (G:GG) (N:Nat) (d:Option Nat) (f:FuncId) (st1 st2:St) (o:Option (List AV×List (Nat×Nat))) (K:St->Prop):Prop:=match o with
 | some x=>clx P G N d f x.1 x.2 st1 st2 K
 | none=>False
def d3l (P:Program) (G:GG) (N:Nat) (d:Option Nat) (v:AV) (lay:List CS) (st1 st2:St) (K:St->Prop):Prop:=match v with
 | .fn f fs cs=>fnB P f=true/\d6q P G N d f st1 st2 (pX N st1 st2 [] [] (b5t N st2 fs lay cs)) K
 | _=>False
def c9q (P:Program) (G:GG) (N:Nat) (d:Option Nat) (cv:X) (lay:List CS) (o1 o2:Option St) (K:St->Prop):Prop:=match o1,o2 with
 | some st1,some st2=>d3l P G N d (xv st2 cv) lay st1 st2 K
 | _,_=>False
def d3m (P:Program) (G:GG) (N:Nat) (d:Option Nat) (cv:X) (args:List (Bool×X)) (lay:List CS) (o1:Option St) (K:St->Prop):Prop:=c9q P G N d cv lay o1 (pss N (N+2) args o1) K
section
variable {d:Option Nat} {cv:X} {args:List (Bool×X)} {lay:List CS} {st1 st2:St} {f:FuncId}
@[congr] theorem d6o {o o':Option St} (h:o=o'):d3m P G N d cv args lay o K=d3m P G N d cv args lay o' K:=by rw [h]
@[congr] theorem d6p {o1 o o':Option St} (h:o=o'):c9q P G N d cv lay o1 o K=c9q P G N d cv lay o1 o' K:=by rw [h]
@[congr] theorem d6n {v v':AV} (h:v=v'):d3l P G N d v lay st1 st2 K=d3l P G N d v' lay st1 st2 K:=by rw [h]
@[congr] theorem d6r {o o':Option (List AV×List (Nat×Nat))} (h:o=o'):d6q P G N d f st1 st2 o K=d6q P G N d f st1 st2 o' K:=by rw [h]
@[congr] theorem e0r {pre pre':List AV} {L L':List (Nat×Nat)} (h:pre=pre') (h2:L=L'):clx P G N d f pre L st1 st2 K=clx P G N d f pre' L' st1 st2 K:=by rw [h,h2]
@[go_sem] theorem e0o:d3m P G N d cv args lay (some st) K=c9q P G N d cv lay (some st) (pss N (N+2) args (some st)) K:=(rfl)
@[go_sem] theorem e0p:c9q P G N d cv lay (some st1) (some st2) K=d3l P G N d (xv st2 cv) lay st1 st2 K:=(rfl)
@[go_sem] theorem f2j {fs cs:List AV}:d3l P G N d (.fn f fs cs) lay st1 st2 K=(fnB P f=true/\d6q P G N d f st1 st2 (pX N st1 st2 [] [] (b5t N st2 fs lay cs)) K):=(rfl)
@[go_sem] theorem e0q {pre:List AV} {L:List (Nat×Nat)}:d6q P G N d f st1 st2 (some (pre,L)) K=clx P G N d f pre L st1 st2 K:=(rfl)
@[go_sem] theorem d53 {tys:List TypeId} {rest:List AO}:a8z P G N (⟨d,.callx cv args lay tys,none⟩::rest) K st=d3m P G N d cv args lay (gvs N (N+2) args (some st)) (a8z P G N rest K):=by
 simp only [a8z,a9e,b48,c2y]
 rw [<-a6u]
 apply propext
 constructor
 ·rintro ⟨f,fs,cs,st1,st2,L,pre,res,posts,st3,h1,h2,h3,h4,h5,h6,h7,h8,h9,h10,h11⟩
  have e2:=a3r (N:=N) args (N+2) st1
  rw [h2] at e2
  simp only [h1,Option.map,d3m,c9q,<-e2,h3,d3l,h5,d6q]
  refine ⟨h4,res,posts,h6,h7,h8,h9,?_⟩
  have:c4l (if a0x res&&posts.all fun p=>a0x p.2 then st1 else st2) N ((L.map (·.1)).zip (posts.map (·.2))) d res=st3:=by
   cases d with
   | none=>
    simp only [c0k,Ev.run_pure,Option.some.injEq,Prod.mk.injEq,true_and] at h10
    exact h10
   | some d=>
    simp only [c0k,a6v,Option.some.injEq,Prod.mk.injEq,true_and] at h10
    exact h10
  rw [this]; exact h11
 ·cases h1:(a41 N (N+2) args).run st with
  | none=>intro h; simp only [Option.map,d3m,c9q] at h
  | some r=>
   obtain ⟨_,st1⟩:=r
   simp only [Option.map,d3m]
   rw [<-a3r]
   cases h2:(a3e N (N+2) args).run st1 with
   | none=>intro h; simp only [Option.map,c9q] at h
   | some r2=>
    obtain ⟨_,st2⟩:=r2
    simp only [Option.map,c9q]
    cases h3:xv st2 cv<;>simp only [d3l]<;>try exact False.elim
    rename_i f fs cs
    rintro ⟨h4,h⟩
    cases h5:pX N st1 st2 [] [] (b5t N st2 fs lay cs) with
    | none=>rw [h5] at h; exact h.elim
    | some x=>
     obtain ⟨pre,L⟩:=x
     rw [h5] at h
     obtain ⟨res,posts,h6,h7,h8,h9,h10⟩:=h
     refine ⟨f,fs,cs,st1,st2,L,pre,res,posts,_,rfl,h2,h3,h4,h5,h6,h7,h8,h9,?_,h10⟩
     cases d<;>rfl
theorem c9r {pre:List AV} {L:List (Nat×Nat)} {res:AV} {posts:List (Nat×AV)} (hA:ACallsX P G f pre res posts) (hn:noRef res=true) (hp:posts.map (·.1)=L.map (·.2)) (hv:(posts.all fun p=>c0h pre p)=true) (hi:(a0x res&&posts.all fun p=>a0x p.2)=true)
  (h:K (c4l st1 N ((L.map (·.1)).zip (posts.map (·.2))) d res)):clx P G N d f pre L st1 st2 K:=⟨res,posts,hA,hn,hp,b3l hv,by rw [hi]; exact h⟩
theorem d3n {pre:List AV} {L:List (Nat×Nat)} {res:AV} {posts:List (Nat×AV)} (hA:ACallsX P G f pre res posts) (hn:noRef res=true) (hp:posts.map (·.1)=L.map (·.2)) (hv:(posts.all fun p=>c0h pre p)=true)
  (h:K (c4l st1 N ((L.map (·.1)).zip (posts.map (·.2))) d res)) (h2:K (c4l st2 N ((L.map (·.1)).zip (posts.map (·.2))) d res)):clx P G N d f pre L st1 st2 K:=⟨res,posts,hA,hn,hp,b3l hv,by split; exact h; exact h2⟩
end
section
variable {d:Option Nat} {cv:X} {args:List (Bool×X)} {lay:List CS} {f:FuncId} {aft:DA} {rest:List AO} {fps:List (List Nat×List Nat)} {K:St->Prop} {ex:List Nat}
def e61:AV->Bool
 | .var ks=>a0m ks
 | _=>false
@[go_sem] theorem e62 {ks:List AV}:e61 (.var ks)=a0m ks:=(rfl)
@[go_sem] theorem e9i {v:Value}:d0x (.lit v)=true:=(rfl)
@[go_sem] theorem e6k {rd:List Nat} {n:Nat}:a4i rd (.t n)=rd.contains n:=(rfl)
@[go_sem] theorem e6h {rd:List Nat} {v:Value}:a4i rd (.c v)=true:=(rfl)
@[go_sem] theorem e6i {rd:List Nat} {n:Nat}:a4i rd (.f n)=true:=(rfl)
@[go_sem] theorem e6j {rd:List Nat} {n:Nat}:a4i rd (.g n)=true:=(rfl)
@[go_sem] theorem d8z {rd:List Nat} {t:Nat} {q:List Nat} {o e:Nat}:a2g rd (.ref t q o e)=rd.contains t:=by simp only [a2g]
@[go_sem] theorem d8x {rd:List Nat} {t:Nat} {q:List Nat} {lo n e:Nat}:a2g rd (.bor t q lo n e)=rd.contains t:=by simp only [a2g]
@[go_sem] theorem e5l {rd:List Nat} {f:FuncId} {a c:List AV}:a2g rd (.fn f a c)=(a2c rd a&&a2c rd c):=by simp only [a2g]
@[go_sem] theorem d8y {rd:List Nat} {v:Value}:a2g rd (.lit v)=true:=by simp only [a2g]
@[go_sem] theorem e5n {rd:List Nat} {n:Nat} {ks:List AV}:a2g rd (.sl n ks)=true:=by simp only [a2g]
@[go_sem] theorem d5e {rd:List Nat}:a2c rd []=true:=by simp only [a2c]
@[go_sem] theorem d2x {rd:List Nat} {k:AV} {ks:List AV}:a2c rd (k::ks)=(a2g rd k&&a2c rd ks):=by simp only [a2c]
@[go_sem] theorem d72 {rd:List Nat}:b7g st rd args=args.all fun p=> !p.1&&(d0x (rdv st p.2)&&a4i rd p.2):=(rfl)
@[go_sem] theorem d49 {j:Nat}:a1f st j []=st:=(rfl)
@[go_sem] theorem d2u {j:Nat} {p:Bool×X}:a1f st j (p::args)=a1f (st.put j (rdv st p.2)) (j+1) args:=(rfl)
@[go_sem] theorem e22 {rd:List Nat} {n:Nat}:b9i st rd n []=true:=(rfl)
@[go_sem] theorem f5m {rd:List Nat} {n k:Nat}:b9i st rd n (.p k::lay)=(decide (k < n)&&b9i st rd n lay):=(rfl)
@[go_sem] theorem f5n {rd:List Nat} {n:Nat} {y:X}:b9i st rd n (.x y::lay)=((a4i rd y&&a2g rd (xv st y))&&b9i st rd n lay):=(rfl)
def dCx (P:Program) (G:GG) (N:Nat) (aft:DA) (ex:List Nat) (d:Option Nat) (cv:X) (args:List (Bool×X)) (lay:List CS) (rest:List AO) (fps:List (List Nat×List Nat)) (K:St->Prop) (st:St):Prop:=
 c6g P G N aft ex d (.callx cv args lay []) fps (fun fps st=>a6b aft.2 st/\a6c P G N aft rest fps K st) st
@[congr] theorem e0y {st':St} (h:st=st'):dCx P G N aft ex d cv args lay rest fps K st=dCx P G N aft ex d cv args lay rest fps K st':=by rw [h]
@[go_sem] theorem d62 {tys:List TypeId}:a6c P G N aft (⟨d,.callx cv args lay tys,none⟩::rest) fps K st=dCx P G N aft [] d cv args lay rest fps K st:=(rfl)
theorem e0z (rd:List Nat) {fs cs pre:List AV} {L:List (Nat×Nat)} {res:AV} {posts:List (Nat×AV)} (hA:ACallsX P G f pre res posts) (hpo:posts.map (·.1)=L.map (·.2))
  (hs:b7g st rd args=true/\a4i rd cv=true/\xv st cv= .fn f fs cs/\fnB P f=true/\(a2c rd fs&&a2c rd cs)=true/\b9i st rd args.length lay=true/\
   pX N st (a1f st (N+2) args) [] [] (b5t N (a1f st (N+2) args) fs lay cs)=some (pre,L)/\noRef res=true/\(posts.all fun p=>e61 p.2&&c0h pre p)=true/\
   (∀ t∈ex++rd,t < N)/\(∀ t∈d.toList,t < N)/\∀ t∈L.map (·.1),t < N/\t∈rd)
  (h:a6b aft.2 (c4l st N ((L.map (·.1)).zip (posts.map (·.2))) d res)/\a6c P G N aft rest (fps++[(ex++(d.toList++rd),d.toList++L.map (·.1))]) K (c4l st N ((L.map (·.1)).zip (posts.map (·.2))) d res)):dCx P G N aft ex d cv args lay rest fps K st:=by
 obtain ⟨h1,h2,h3,h4,h5,h6,h7,h8,h9,h10,h11,h12⟩:=hs
 refine ⟨f,fs,cs,pre,L,res,posts,rd,h1,h2,h3,h4,h5,h6,h7,hA,h8,hpo,fun i av hm=> ?_,h10,h11,h12,?_⟩
 ·have:=List.all_eq_true.1 h9 _ hm
  simp only [Bool.and_eq_true] at this
  obtain ⟨ks,ks0,k1,k2⟩:=c3z this.2
  simp only at k1 k2
  subst k1
  exact ⟨_,rfl,this.1,_,k2⟩
 ·cases d<;>exact h
end
def c1j (rs:List RV) (res:AV) (posts:List (Nat×AV)):Exit->St->Prop
 | .normal,st | .ret,st=>d83 rs st=some res/\∀ p∈posts,st.s p.1=p.2
 | _,_=>False
section
variable {rs:List RV} {res:AV} {posts:List (Nat×AV)}
@[congr] theorem d30 {e:Exit} {st':St} (h2:st=st'):c1j rs res posts e st=c1j rs res posts e st':=by rw [h2]
def poK:List (Nat×AV)->St->Prop
 | [],_=>True
 | p::ps,st=>st.s p.1=p.2/\poK ps st
@[congr] theorem e42 {ps:List (Nat×AV)} {st':St} (h:st=st'):poK ps st=poK ps st':=by rw [h]
@[go_sem] theorem f68:poK [] st=True:=(rfl)
@[go_sem] theorem f0i {t:Nat} {v:AV} {ps:List (Nat×AV)}:poK ((t,v)::ps) st=(st.s t=v/\poK ps st):=(rfl)
theorem c2i:∀ {ps:List (Nat×AV)},(∀ p∈ps,st.s p.1=p.2)=poK ps st
 | []=>by simp [poK]
 | p::ps=>by simp only [List.mem_cons,forall_eq_or_imp,poK,c2i (ps:=ps)]
@[go_sem] theorem f3g:c1j rs res posts .normal st=(d50 (rvL rs st)=some res/\poK posts st):=by rw [<-c2i]; rfl
@[go_sem] theorem f3h:c1j rs res posts .ret st=(d50 (rvL rs st)=some res/\poK posts st):=by rw [<-c2i]; rfl
theorem c1k {vs:List ResultVar} (h:b98 P N rs vs=true):∀ e st,c1j rs res posts e st->g0j P N vs res posts e st:=by
 intro e st hq
 have key:d83 rs st=some res->b4i P N st vs=some res:=by
  intro hk
  unfold d83 at hk
  cases hl:rvL rs st with
  | none=>rw [hl] at hk; cases hk
  | some ks=>
   rw [hl] at hk
   simp only [b4i,b4p h hl]
   exact hk
 cases e<;>first | exact ⟨key hq.1,hq.2⟩ | exact hq
end
theorem ACallsX.of_walk {P:Program} {G:GG} {f:FuncId} {fn:Func} {c:Code} {N:Nat} {vs:List ResultVar} {rs:List RV} {ic:IC} (hord:P.follows .mixedOrders=true) (hf:P.funcs[f]? =some fn) (hb:fn.body=some c) (hN:fn.ntmps=N) (hrs:fn.results.toList=vs) (hnd:(vs.map rvT).Nodup)
  (he:a8t c=ic.ec) (hok:ic.ok P N=true) (hr:b98 P N rs vs=true) {pins:List Nat} (hpin:ic.pin pins=true) {pre:List AV} {res:AV} {posts:List (Nat×AV)} (hsz:pre.length<=N) (hpo:posts.map (·.1)=pins) (hpr:pins.all (fun t=> !(vs.map rvT).contains t&&decide (t < pre.length))=true) (hnr:(posts.all fun p=>noRef p.2)=true)
  (h:AW P G N ic (c1j rs res posts) (St.init pre)):ACallsX P G f pre res posts:=
 a7q hf hb hN hrs hnd hsz (fun p hp=>by
  have:=List.all_eq_true.1 hpr p.1 (by rw [<-hpo]; exact List.mem_map.2 ⟨p,hp,rfl⟩)
  simp only [Bool.and_eq_true,Bool.not_eq_true',decide_eq_true_eq] at this
  exact ⟨fun hm=>by simp [hm] at this,this.2,List.all_eq_true.1 hnr p hp⟩) (by rw [hpo]; exact (c2v hord ic c _ _ he hok hpin h).mono (c1k hr))
end
abbrev oo (d:Nat) (i:IOp):AO:=⟨some d,.op i,none⟩
abbrev om (d t:Nat):AO:=⟨some d,.op (.mv (.t t)),none⟩
abbrev ov (i:IOp):AO:=⟨none,.op i,none⟩
abbrev og (d:Nat) (i:IOp) (j t:Nat) (b:Bool):AO:=⟨some d,.op i,some (j,t,b)⟩
abbrev oc (d:Nat) (f:FuncId) (args:List (Bool×X)) (tys:List TypeId):AO:=⟨some d,.call f args tys,none⟩
abbrev X.n (k:Int):X:= .c (.int .i64 k)
abbrev fnK:Type:=Bool×Option Func×Option EC×Nat×List ResultVar×Bool×Bool×Bool
def fnL (P:Program) (f:FuncId) (fn:Func) (N:Nat) (rs:List RV) (vs:List ResultVar) (ic:IC):fnK:=
 (P.follows .mixedOrders,P.funcs[f]?,fn.body.map a8t,fn.ntmps,fn.results.toList,decide ((vs.map rvT).Nodup),ic.ok P N,b98 P N rs vs)
def fnR (fn:Func) (N:Nat) (vs:List ResultVar) (ic:IC):fnK:=(true,some fn,some ic.ec,N,vs,true,true,true)
abbrev fnC (P:Program) (f:FuncId) (N:Nat) (rs:List RV) (ic:IC):Prop:=
 ∀ {G:GG} {pre:List AV} {res:AV} (hsz:decide (pre.length<=N)=true) (hw:AW P G N ic (c95 rs res) (St.init pre)),ACalls P G f pre res
abbrev fnX (P:Program) (f:FuncId) (N:Nat) (rs:List RV) (vs:List ResultVar) (ic:IC):Prop:=
 ∀ {G:GG} {pre:List AV} {res:AV} {posts:List (Nat×AV)} {pins:List Nat} (hpin:ic.pin pins=true) (hpo:posts.map (·.1)=pins)
  (hpr:pins.all (fun t=> !(vs.map rvT).contains t&&decide (t < pre.length))=true) (hnr:(posts.all fun p=>noRef p.2)=true) (hsz:decide (pre.length<=N)=true) (hw:AW P G N ic (c1j rs res posts) (St.init pre)),ACallsX P G f pre res posts
section
variable {P:Program} {f:FuncId} {N:Nat} {rs:List RV} {ic:IC}
theorem a0w (fn:Func) (vs:List ResultVar) (h:fnL P f fn N rs vs ic=fnR fn N vs ic):fnC P f N rs ic:=by
 intro G pre res hsz hw
 simp only [fnL,fnR,Prod.mk.injEq,Option.map_eq_some_iff,decide_eq_true_eq] at h
 obtain ⟨h1,h2,⟨c,hc,he⟩,h4,h5,h6,h7,h8⟩:=h
 exact ACalls.of_walk h1 h2 hc h4 h5 h6 he h7 h8 (of_decide_eq_true hsz) hw
theorem c3b (fn:Func) {vs:List ResultVar} (h:fnL P f fn N rs vs ic=fnR fn N vs ic):fnX P f N rs vs ic:=by
 intro G pre res posts pins hpin hpo hpr hnr hsz hw
 simp only [fnL,fnR,Prod.mk.injEq,Option.map_eq_some_iff,decide_eq_true_eq] at h
 obtain ⟨h1,h2,⟨c,hc,he⟩,h4,h5,h6,h7,h8⟩:=h
 exact ACallsX.of_walk h1 h2 hc h4 h5 h6 he h7 h8 hpin (of_decide_eq_true hsz) hpo hpr hnr hw
end
end Go.Ideal
end
section
namespace Go.Ideal.Tryz
noncomputable abbrev pg:Program:=Go.Proofs.Tryz.prog
@[go_sem] def order_Sort_r10:List AO:=[om 43 6,
 oo 44 (.load 38 none (.g 2)),
 oo 45 (.build 87 [.lit (.int .i64 0),.lit .nilIface] [(0,0,1,(.t 43)),(1,1,1,(.t 44))]),
 oo 46 (.box 87 2 (.t 45)),
 oo 47 (.mki 83 (.t 46)),
 oo 2 (.asg (.nl 1)),
 oo 3 (.asg (.t 47))]
def a22:IC:=(.seq (.reg [oo 32 (.bin .lss 3 0 (.t 31) (.t 30) 3)]) (.seq (.cond (.t 32) .skip (.exit 2)) (.seq (.block 3 (.seq (.reg [oo 33 (.iaddr 22 1 (.t 29) (.t 31)),
 oo 34 (.load 3 none (.t 33)),
 oo 9 (.asg (.t 34))]) (.seq (.seq (.reg [om 35 9,
 oo 36 (.bin .lss 3 0 (.t 35) (.n 0) 3),
 om 37 36,
 og 38 (.mv (.t 9)) 2 37 false,
 og 39 (.mv (.t 0)) 2 37 false,
 og 40 (.len 65 false (.t 39)) 2 37 false,
 og 41 (.bin .geq 3 0 (.t 38) (.t 40) 3) 2 37 false,
 oo 42 (.pick (.t 37) (.c (.bool true)) (.t 41))]) (.cond (.t 42) (.seq (.draw order_Sort_r10 [[],[],[0,1],[2],[3],[],[4,5,0,1,2,3,4,5]]) .ret) .skip)) (.seq (.reg [om 48 5,
 om 49 9,
 om 50 5,
 om 51 9,
 oo 52 (.iaddr 65 1 (.t 50) (.t 51)),
 oo 53 (.load 22 none (.t 52)),
 om 54 6,
 oo 55 (.bslice 22 3 1 1 [.lit (.int .i64 0)] [(0,(.t 54))]),
 oo 56 (.app 22 3 1 8 (.t 53) (.t 55)),
 oo 57 (.iaddr 65 1 (.t 48) (.t 49)),
 ov (.store 22 1 (.t 57) (.t 56))]) (.reg [om 58 4,
 om 59 6,
 oo 60 (.iaddr 22 1 (.t 58) (.t 59)),
 oo 61 (.load 3 none (.t 60)),
 oo 62 (.bin .add 3 0 (.t 61) (.n 1) 3),
 oo 63 (.iaddr 22 1 (.t 58) (.t 59)),
 ov (.store 3 1 (.t 63) (.t 62))]))))) (.reg [oo 64 (.bin .add 3 0 (.t 31) (.n 1) 3),
 om 31 64]))))
def a44:IC:=(.seq (.reg [oo 25 (.bin .lss 3 0 (.t 24) (.t 23) 3)]) (.seq (.cond (.t 25) .skip (.exit 0)) (.seq (.block 1 (.seq (.reg [om 26 24,
 oo 27 (.iaddr 65 1 (.t 22) (.t 24)),
 oo 28 (.load 22 none (.t 27)),
 oo 6 (.asg (.t 26)),
 oo 7 (.asg (.t 28))]) (.seq (.reg [om 29 7,
 oo 30 (.len 22 false (.t 29)),
 oo 31 (.mv (.n 0))]) (.block 2 (.loop a22))))) (.reg [oo 65 (.bin .add 3 0 (.t 24) (.n 1) 3),
 om 24 65]))))
def a45:IC:=(.seq (.reg [oo 98 (.bin .lss 3 0 (.t 97) (.t 96) 3)]) (.seq (.cond (.t 98) .skip (.exit 8)) (.seq (.block 9 (.seq (.reg [oo 99 (.iaddr 22 1 (.t 95) (.t 97)),
 oo 100 (.load 3 none (.t 99)),
 oo 14 (.asg (.t 100))]) (.reg [om 101 4,
 om 102 14,
 oo 103 (.iaddr 22 1 (.t 101) (.t 102)),
 oo 104 (.load 3 none (.t 103)),
 oo 105 (.bin .sub 3 0 (.t 104) (.n 1) 3),
 oo 106 (.iaddr 22 1 (.t 101) (.t 102)),
 ov (.store 3 1 (.t 106) (.t 105))]))) (.reg [oo 107 (.bin .add 3 0 (.t 97) (.n 1) 3),
 om 97 107]))))
def a23:IC:=(.seq (.reg [oo 72 (.bin .lss 3 0 (.t 71) (.t 70) 3)]) (.seq (.cond (.t 72) .skip (.exit 6)) (.seq (.block 7 (.seq (.reg [om 73 71,
 oo 12 (.asg (.t 73))]) (.seq (.seq (.reg [om 74 11,
 om 75 12,
 oo 76 (.iaddr 89 1 (.t 74) (.t 75)),
 oo 77 (.load 4 none (.t 76)),
 om 78 77,
 og 79 (.mv (.t 4)) 4 78 false,
 og 80 (.mv (.t 12)) 4 78 false,
 og 81 (.iaddr 22 1 (.t 79) (.t 80)) 4 78 false,
 og 82 (.load 3 none (.t 81)) 4 78 false,
 og 83 (.bin .gtr 3 0 (.t 82) (.n 0) 3) 4 78 false,
 oo 84 (.pick (.t 78) (.c (.bool true)) (.t 83))]) (.cond (.t 84) (.exit 7) .skip)) (.seq (.reg [om 85 11,
 om 86 12,
 oo 87 (.iaddr 89 1 (.t 85) (.t 86)),
 ov (.store 4 1 (.t 87) (.c (.bool true)))]) (.seq (.reg [om 88 10,
 om 89 12,
 oo 90 (.bslice 22 3 1 1 [.lit (.int .i64 0)] [(0,(.t 89))]),
 oo 91 (.app 22 3 1 8 (.t 88) (.t 90)),
 oo 10 (.asg (.t 91))]) (.seq (.seq (.reg [om 92 5,
 om 93 12,
 oo 94 (.iaddr 65 1 (.t 92) (.t 93)),
 oo 95 (.load 22 none (.t 94)),
 oo 96 (.len 22 false (.t 95)),
 oo 97 (.mv (.n 0))]) (.block 8 (.loop a45))) (.exit 5))))))) (.reg [oo 108 (.bin .add 3 0 (.t 71) (.n 1) 3),
 om 71 108]))))
def a67:IC:=(.block 5 (.seq (.seq (.reg [om 69 4,
 oo 70 (.len 22 false (.t 69)),
 oo 71 (.mv (.n 0))]) (.block 6 (.loop a23))) (.exit 4)))
def b2f:IC:=(.seq (.reg [oo 2 (.asg (.nl 1)),
 oo 3 (.asg (.c .nilIface))]) (.scope (.seq (.reg [om 16 0,
 oo 17 (.len 65 false (.t 16)),
 oo 18 (.mks 22 3 1 8 [.lit (.int .i64 0)] (.t 17) (.t 17)),
 oo 4 (.asg (.t 18))]) (.seq (.reg [om 19 0,
 oo 20 (.len 65 false (.t 19)),
 oo 21 (.mks 65 22 1 24 [.own 1 0 []] (.t 20) (.t 20)),
 oo 5 (.asg (.t 21))]) (.seq (.seq (.reg [om 22 0,
 oo 23 (.len 65 false (.t 22)),
 oo 24 (.mv (.n 0))]) (.block 0 (.loop a44))) (.seq (.reg [oo 10 (.asg (.nl 1))]) (.seq (.reg [om 66 0,
 oo 67 (.len 65 false (.t 66)),
 oo 68 (.mks 89 4 1 1 [.lit (.bool false)] (.t 67) (.t 67)),
 oo 11 (.asg (.t 68))]) (.seq (.label 0) (.seq (.block 4 (.loop a67)) (.seq (.seq (.reg [om 109 11,
 oc 110 38 [(false,(.t 109)),(false,(.c (.bool false)))] [89,4],
 oo 15 (.asg (.t 110))]) (.seq (.reg [om 111 15,
 oo 112 (.bin .geq 3 0 (.t 111) (.n 0) 3)]) (.cond (.t 112) (.seq (.draw [om 113 15,
 oo 114 (.load 38 none (.g 3)),
 oo 115 (.build 87 [.lit (.int .i64 0),.lit .nilIface] [(0,0,1,(.t 113)),(1,1,1,(.t 114))]),
 oo 116 (.box 87 2 (.t 115)),
 oo 117 (.mki 83 (.t 116)),
 oo 2 (.asg (.nl 1)),
 oo 3 (.asg (.t 117))] [[],[],[0,1],[2],[3],[],[4,5,0,1,2,3,4,5]]) .ret) .skip))) (.seq (.reg [om 118 10,
 oo 2 (.asg (.t 118)),
 oo 3 (.asg (.c .nilIface))]) .ret)))))))))))
abbrev b8j:Nat:=24
theorem b4g:fnC pg 24 119 [(.tmp 2),(.tmp 3)] b2f:=a0w Go.Proofs.Tryz.f24 [(.tmp 2),(.tmp 3)] (by kernel_rfl)
@[go_sem] theorem c87:fnB pg 24=true:=by kernel_rfl
def a29:IC:=(.seq (.seq (.reg [om 12 5,
 om 13 0,
 oo 14 (.len 22 false (.t 13)),
 oo 15 (.bin .lss 3 0 (.t 12) (.t 14) 3)]) (.cond (.t 15) .skip (.exit 0))) (.seq (.block 1 (.seq (.draw [om 18 0,
 om 19 5,
 oo 20 (.iaddr 22 1 (.t 18) (.t 19)),
 oo 21 (.load 3 none (.t 20)),
 om 22 1,
 om 23 5,
 oo 24 (.iaddr 22 1 (.t 22) (.t 23)),
 oo 25 (.load 3 none (.t 24)),
 oo 26 (.bin .eql 3 0 (.t 21) (.t 25) 3),
 oo 6 (.asg (.t 26))] [[],[],[0,1],[2],[],[],[4,5],[6],[3,7],[8,0,1,2,3,4,5,6,7,8]]) (.seq (.reg [om 27 6,
 oo 28 (.un .not 4 (.t 27))]) (.cond (.t 28) (.seq (.reg [oo 4 (.asg (.c (.bool false)))]) .ret) .skip)))) (.reg [om 16 5,
 oo 17 (.bin .add 3 0 (.t 16) (.n 1) 3),
 oo 5 (.asg (.t 17))])))
def a3o:IC:=(.seq (.reg [oo 4 (.asg (.c (.bool false)))]) (.seq (.seq (.reg [om 7 0,
 oo 8 (.len 22 false (.t 7)),
 om 9 1,
 oo 10 (.len 22 false (.t 9)),
 oo 11 (.bin .neq 3 0 (.t 8) (.t 10) 3)]) (.cond (.t 11) (.seq (.reg [oo 4 (.asg (.c (.bool false)))]) .ret) .skip)) (.seq (.seq (.reg [oo 5 (.asg (.n 0))]) (.block 0 (.loop a29))) (.seq (.reg [oo 4 (.asg (.c (.bool true)))]) .ret))))
abbrev a89:Nat:=7
theorem a7k:fnC pg 7 29 [(.tmp 4)] a3o:=a0w Go.Proofs.Tryz.f7 [(.tmp 4)] (by kernel_rfl)
@[go_sem] theorem b9l:fnB pg 7=true:=by kernel_rfl
def a76:IC:=(.seq (.reg [oo 3 (.box 51 3 (.t 1)),
 oo 4 (.asg (.c (.bool false)))]) (.seq (.draw [om 5 0,
 oc 6 23 [(false,(.t 5))] [38],
 oo 7 (.load 51 (some 3) (.t 3)),
 oc 8 22 [(false,(.t 6)),(false,(.t 7))] [51,51],
 oo 4 (.asg (.t 8))] [[],[0],[],[1,2,1],[3,3,0,1,2,3]]) .ret))
abbrev b3k:Nat:=13
theorem b0p:fnC pg 13 9 [(.tmp 4)] a76:=a0w Go.Proofs.Tryz.f13 [(.tmp 4)] (by kernel_rfl)
@[go_sem] theorem c41:fnB pg 13=true:=by kernel_rfl
def a5l:IC:=(.seq (.reg [oo 4 (.asg (.n 0))]) (.seq (.reg [om 5 0,
 om 6 1,
 oo 7 (.bin .rem 3 0 (.t 5) (.t 6) 3),
 om 8 1,
 oo 9 (.bin .add 3 0 (.t 7) (.t 8) 3),
 om 10 1,
 oo 11 (.bin .rem 3 0 (.t 9) (.t 10) 3),
 oo 4 (.asg (.t 11))]) .ret))
abbrev a9b:Nat:=5
theorem a7m:fnC pg 5 12 [(.tmp 4)] a5l:=a0w Go.Proofs.Tryz.f5 [(.tmp 4)] (by kernel_rfl)
@[go_sem] theorem b9n:fnB pg 5=true:=by kernel_rfl
def a6k:IC:=(.seq (.reg [oo 4 (.alloc 51 [.lit (.int .i64 0),.lit (.bool false),.lit (.int .i64 0)])]) (.seq (.seq (.reg [om 5 0,
 oo 6 (.bin .eql 3 0 (.t 5) (.n 0) 3)]) (.cond (.t 6) (.seq (.reg [oc 7 35 [] [],
 ov (.store 51 3 (.t 4) (.t 7))]) .ret) .skip)) (.seq (.reg [om 8 0,
 om 9 1,
 oo 10 (.build 51 [.lit (.int .i64 0),.lit (.bool false),.lit (.int .i64 0)] [(0,0,1,(.t 8)),(1,1,1,(.c (.bool true))),(2,2,1,(.t 9))]),
 ov (.store 51 3 (.t 4) (.t 10))]) .ret)))
abbrev b09:Nat:=37
theorem a8u:fnC pg 37 11 [(.cells 4 3)] a6k:=a0w Go.Proofs.Tryz.f37 [(.cell 4 51)] (by kernel_rfl)
@[go_sem] theorem c12:fnB pg 37=true:=by kernel_rfl
def a18:IC:=(.seq (.reg [oo 9 (.bin .lss 3 0 (.t 8) (.t 7) 3)]) (.seq (.cond (.t 9) .skip (.exit 0)) (.seq (.block 1 (.seq (.reg [om 10 8,
 oo 5 (.asg (.t 10))]) (.seq (.reg [om 11 1,
 om 12 0,
 om 13 5,
 oo 14 (.iaddr 89 1 (.t 12) (.t 13)),
 oo 15 (.load 4 none (.t 14)),
 oo 16 (.bin .eql 4 1 (.t 11) (.t 15) 4)]) (.cond (.t 16) (.seq (.reg [om 17 5,
 oo 4 (.asg (.t 17))]) .ret) .skip)))) (.reg [oo 18 (.bin .add 3 0 (.t 8) (.n 1) 3),
 om 8 18]))))
def a5p:IC:=(.seq (.reg [oo 4 (.asg (.n 0))]) (.seq (.seq (.reg [om 6 0,
 oo 7 (.len 89 false (.t 6)),
 oo 8 (.mv (.n 0))]) (.block 0 (.loop a18))) (.seq (.reg [oo 4 (.asg (.n (-1)))]) .ret)))
abbrev a9d:Nat:=38
theorem a7n:fnC pg 38 19 [(.tmp 4)] a5p:=a0w Go.Proofs.Tryz.f38 [(.tmp 4)] (by kernel_rfl)
@[go_sem] theorem c0d:fnB pg 38=true:=by kernel_rfl
def a74:IC:=(.seq (.reg [oo 0 (.alloc 51 [.lit (.int .i64 0),.lit (.bool false),.lit (.int .i64 0)])]) (.seq (.reg [oo 1 (.build 51 [.lit (.int .i64 0),.lit (.bool false),.lit (.int .i64 0)] []),
 ov (.store 51 3 (.t 0) (.t 1))]) .ret))
abbrev b3j:Nat:=35
theorem b0n:fnC pg 35 2 [(.cells 0 3)] a74:=a0w Go.Proofs.Tryz.f35 [(.cell 0 51)] (by kernel_rfl)
@[go_sem] theorem c40:fnB pg 35=true:=by kernel_rfl
def a42:IC:=(.seq (.reg [oo 2 (.box 51 3 (.t 0)),
 oo 3 (.box 51 3 (.t 1)),
 oo 4 (.asg (.c (.bool false)))]) (.seq (.reg [oo 5 (.faddr 51 0 (.t 2) 0),
 oo 6 (.load 3 none (.t 5)),
 oo 7 (.faddr 51 0 (.t 3) 0),
 oo 8 (.load 3 none (.t 7)),
 oo 9 (.bin .eql 3 0 (.t 6) (.t 8) 3),
 om 10 9,
 og 11 (.faddr 51 1 (.t 2) 1) 5 10 true,
 og 12 (.load 4 none (.t 11)) 5 10 true,
 og 13 (.faddr 51 1 (.t 3) 1) 5 10 true,
 og 14 (.load 4 none (.t 13)) 5 10 true,
 og 15 (.bin .eql 4 1 (.t 12) (.t 14) 4) 5 10 true,
 oo 16 (.pick (.t 10) (.t 15) (.c (.bool false))),
 om 17 16,
 og 18 (.faddr 51 2 (.t 2) 2) 12 17 true,
 og 19 (.load 3 none (.t 18)) 12 17 true,
 og 20 (.faddr 51 2 (.t 3) 2) 12 17 true,
 og 21 (.load 3 none (.t 20)) 12 17 true,
 og 22 (.bin .eql 3 0 (.t 19) (.t 21) 3) 12 17 true,
 oo 23 (.pick (.t 17) (.t 22) (.c (.bool false))),
 oo 4 (.asg (.t 23))]) .ret))
abbrev a8r:Nat:=22
theorem a60:fnC pg 22 24 [(.tmp 4)] a42:=a0w Go.Proofs.Tryz.f22 [(.tmp 4)] (by kernel_rfl)
@[go_sem] theorem b8b:fnB pg 22=true:=by kernel_rfl
def a3m:IC:=(.seq (.reg [oo 2 (.alloc 51 [.lit (.int .i64 0),.lit (.bool false),.lit (.int .i64 0)])]) (.seq (.seq (.reg [om 5 0,
 oo 6 (.bin .eql 38 2 (.t 5) (.c .nilIface) 38)]) (.cond (.t 6) (.seq (.reg [oc 7 35 [] [],
 ov (.store 51 3 (.t 2) (.t 7))]) .ret) .skip)) (.seq (.reg [om 9 0,
 oo 10 (.tas (.t 9) 38 83 [.lit (.pointer none)]),
 om 8 10,
 oo 11 (.ext (.t 8) 0),
 oo 12 (.ext (.t 8) 1),
 oo 3 (.asg (.t 11)),
 oo 4 (.asg (.t 12))]) (.seq (.seq (.reg [om 13 4,
 oo 14 (.un .not 4 (.t 13))]) (.cond (.t 14) (.seq (.reg [om 15 0,
 oc 16 36 [(false,(.t 15))] [38],
 oc 17 14 [(false,(.t 16))] [3],
 ov (.store 51 3 (.t 2) (.t 17))]) .ret) .skip)) (.seq (.seq (.reg [om 18 3,
 oo 19 (.bin .eql 83 3 (.t 18) (.c (.pointer none)) 83),
 om 20 19,
 og 21 (.mv (.t 3)) 2 20 false,
 og 22 (.nilck (.t 21)) 2 20 false,
 og 23 (.faddr 87 1 (.t 22) 1) 2 20 false,
 og 24 (.load 38 none (.t 23)) 2 20 false,
 og 25 (.bin .eql 38 2 (.t 24) (.c .nilIface) 38) 2 20 false,
 oo 26 (.pick (.t 20) (.c (.bool true)) (.t 25))]) (.cond (.t 26) (.seq (.reg [oc 27 14 [(false,(.n (-1)))] [3],
 ov (.store 51 3 (.t 2) (.t 27))]) .ret) .skip)) (.seq (.draw [om 28 3,
 oo 29 (.nilck (.t 28)),
 oo 30 (.faddr 87 1 (.t 29) 1),
 oo 31 (.load 38 none (.t 30)),
 oc 32 36 [(false,(.t 31))] [38],
 om 33 3,
 oo 34 (.nilck (.t 33)),
 oo 35 (.faddr 87 0 (.t 34) 0),
 oo 36 (.load 3 none (.t 35)),
 oc 37 37 [(false,(.t 32)),(false,(.t 36))] [3,3],
 ov (.store 51 3 (.t 2) (.t 37))] [[],[0],[1],[2],[3],[],[5],[6],[7],[4,8,4],[9,9,0,1,2,3,4,5,6,7,8,9]]) .ret))))))
abbrev b2r:Nat:=23
theorem a9o:fnC pg 23 38 [(.cells 2 3)] a3m:=a0w Go.Proofs.Tryz.f23 [(.cell 2 51)] (by kernel_rfl)
@[go_sem] theorem c3m:fnB pg 23=true:=by kernel_rfl
def a71:IC:=(.seq (.reg [oo 2 (.alloc 51 [.lit (.int .i64 0),.lit (.bool false),.lit (.int .i64 0)])]) (.seq (.reg [om 3 0,
 oo 4 (.build 51 [.lit (.int .i64 0),.lit (.bool false),.lit (.int .i64 0)] [(0,0,1,(.t 3))]),
 ov (.store 51 3 (.t 2) (.t 4))]) .ret))
abbrev b3g:Nat:=14
theorem b0k:fnC pg 14 5 [(.cells 2 3)] a71:=a0w Go.Proofs.Tryz.f14 [(.cell 2 51)] (by kernel_rfl)
@[go_sem] theorem c4x:fnB pg 14=true:=by kernel_rfl
def a3a:IC:=(.seq (.seq (.reg [om 6 4,
 om 7 3,
 oo 8 (.len 102 false (.t 7)),
 oo 9 (.bin .lss 3 0 (.t 6) (.t 8) 3)]) (.cond (.t 9) .skip (.exit 0))) (.seq (.block 1 (.seq (.reg [om 12 0,
 om 13 3,
 om 14 4,
 oo 15 (.iaddr 102 1 (.t 13) (.t 14)),
 oo 16 (.load 38 none (.t 15)),
 oc 17 55 [(false,(.t 12)),(false,(.t 16))] [38,38]]) (.cond (.t 17) (.seq (.reg [om 18 4,
 oo 19 (.bin .add 3 0 (.n 101) (.t 18) 3),
 oo 2 (.asg (.t 19))]) .ret) .skip))) (.reg [om 10 4,
 oo 11 (.bin .add 3 0 (.t 10) (.n 1) 3),
 oo 4 (.asg (.t 11))])))
def a5k:IC:=(.seq (.reg [oo 2 (.asg (.n 0))]) (.seq (.reg [oc 5 54 [] [],
 oo 3 (.asg (.t 5))]) (.seq (.seq (.reg [oo 4 (.asg (.n 0))]) (.block 0 (.loop a3a))) (.seq (.reg [oo 2 (.asg (.n (-1)))]) .ret))))
abbrev a9a:Nat:=36
theorem a7l:fnC pg 36 20 [(.tmp 2)] a5k:=a0w Go.Proofs.Tryz.f36 [(.tmp 2)] (by kernel_rfl)
@[go_sem] theorem b9m:fnB pg 36=true:=by kernel_rfl
def a43:IC:=(.seq (.reg [oo 0 (.asg (.nl 1))]) (.seq (.reg [oo 1 (.load 38 none (.g 0)),
 oo 2 (.load 38 none (.g 5)),
 oo 3 (.load 38 none (.g 4)),
 oo 4 (.load 38 none (.g 1)),
 oo 5 (.load 38 none (.g 6)),
 oo 6 (.load 38 none (.g 7)),
 oo 7 (.load 38 none (.g 2)),
 oo 8 (.load 38 none (.g 8)),
 oo 9 (.load 38 none (.g 9)),
 oo 10 (.load 38 none (.g 10)),
 oo 11 (.load 38 none (.g 3)),
 oo 12 (.load 38 none (.g 11)),
 oo 13 (.load 38 none (.g 12)),
 oo 14 (.load 38 none (.g 13)),
 oo 15 (.load 38 none (.g 14)),
 oo 16 (.load 38 none (.g 15)),
 oo 17 (.load 38 none (.g 16)),
 oo 18 (.load 38 none (.g 17)),
 oo 19 (.load 38 none (.g 18)),
 oo 20 (.load 38 none (.g 19)),
 oo 21 (.load 38 none (.g 20)),
 oo 22 (.bslice 102 38 1 21 [.lit .nilIface] [(0,(.t 1)),(1,(.t 2)),(2,(.t 3)),(3,(.t 4)),(4,(.t 5)),(5,(.t 6)),(6,(.t 7)),(7,(.t 8)),(8,(.t 9)),(9,(.t 10)),(10,(.t 11)),(11,(.t 12)),(12,(.t 13)),(13,(.t 14)),(14,(.t 15)),(15,(.t 16)),(16,(.t 17)),(17,(.t 18)),(18,(.t 19)),(19,(.t 20)),(20,(.t 21))]),
 oo 0 (.asg (.t 22))]) .ret))
abbrev a8s:Nat:=54
theorem a61:fnC pg 54 23 [(.tmp 0)] a43:=a0w Go.Proofs.Tryz.f54 [(.tmp 0)] (by kernel_rfl)
@[go_sem] theorem b8c:fnB pg 54=true:=by kernel_rfl
def a7h:IC:=(.seq (.reg [oo 4 (.asg (.c (.bool false)))]) (.seq (.seq (.reg [om 5 0,
 oo 6 (.bin .eql 38 2 (.t 5) (.c .nilIface) 38),
 om 7 6,
 og 8 (.mv (.t 1)) 2 7 false,
 og 9 (.bin .eql 38 2 (.t 8) (.c .nilIface) 38) 2 7 false,
 oo 10 (.pick (.t 7) (.c (.bool true)) (.t 9))]) (.cond (.t 10) (.seq (.reg [om 11 0,
 oo 12 (.bin .eql 38 2 (.t 11) (.c .nilIface) 38),
 om 13 12,
 og 14 (.mv (.t 1)) 2 13 true,
 og 15 (.bin .eql 38 2 (.t 14) (.c .nilIface) 38) 2 13 true,
 oo 16 (.pick (.t 13) (.t 15) (.c (.bool false))),
 oo 4 (.asg (.t 16))]) .ret) .skip)) (.seq (.reg [om 17 0,
 om 18 1,
 oo 19 (.eqs .eql 38 148 169 (.t 17) (.t 18) 38),
 oo 4 (.asg (.t 19))]) .ret)))
abbrev b2q:Nat:=55
theorem a9n:fnC pg 55 20 [(.tmp 4)] a7h:=a0w Go.Proofs.Tryz.f55 [(.tmp 4)] (by kernel_rfl)
@[go_sem] theorem c3l:fnB pg 55=true:=by kernel_rfl
def a4z:IC:=(.seq (.seq (.reg [om 8 4,
 om 9 0,
 oo 10 (.len 22 false (.t 9)),
 oo 11 (.bin .lss 3 0 (.t 8) (.t 10) 3)]) (.cond (.t 11) .skip (.exit 0))) (.seq (.block 1 (.reg [om 14 3,
 om 15 0,
 om 16 4,
 oo 17 (.iaddr 22 1 (.t 15) (.t 16)),
 oo 18 (.load 3 none (.t 17)),
 oo 19 (.bslice 22 3 1 1 [.lit (.int .i64 0)] [(0,(.t 18))]),
 oo 20 (.app 22 3 1 8 (.t 14) (.t 19)),
 oo 3 (.asg (.t 20))])) (.reg [om 12 4,
 oo 13 (.bin .add 3 0 (.t 12) (.n 1) 3),
 oo 4 (.asg (.t 13))])))
def a73:IC:=(.seq (.reg [oo 2 (.asg (.nl 1))]) (.seq (.reg [om 5 0,
 oo 6 (.len 22 false (.t 5)),
 oo 7 (.mks 22 3 1 8 [.lit (.int .i64 0)] (.n 0) (.t 6)),
 oo 3 (.asg (.t 7))]) (.seq (.seq (.reg [oo 4 (.asg (.n 0))]) (.block 0 (.loop a4z))) (.seq (.reg [om 21 3,
 oo 2 (.asg (.t 21))]) .ret))))
abbrev b3i:Nat:=21
theorem b0m:fnC pg 21 22 [(.tmp 2)] a73:=a0w Go.Proofs.Tryz.f21 [(.tmp 2)] (by kernel_rfl)
@[go_sem] theorem c4z:fnB pg 21=true:=by kernel_rfl
def a48:IC:=(.seq (.reg [oo 25 (.bin .lss 3 0 (.t 24) (.t 23) 3)]) (.seq (.cond (.t 25) .skip (.exit 0)) (.seq (.block 1 (.seq (.reg [om 26 24,
 oo 27 (.iaddr 22 1 (.t 22) (.t 24)),
 oo 28 (.load 3 none (.t 27)),
 oo 4 (.asg (.t 26)),
 oo 5 (.asg (.t 28))]) (.seq (.reg [om 29 5,
 oo 30 (.faddr 28 0 (.t 1) 0),
 oo 31 (.faddr 26 1 (.t 30) 1),
 oo 32 (.load 4 none (.t 31)),
 oc 33 45 [(false,(.t 29)),(false,(.t 32))] [3,4],
 oo 34 (.un .not 4 (.t 33))]) (.cond (.t 34) (.seq (.reg [om 35 4,
 oo 36 (.load 38 none (.g 5)),
 oo 37 (.build 87 [.lit (.int .i64 0),.lit .nilIface] [(0,0,1,(.t 35)),(1,1,1,(.t 36))]),
 oo 38 (.box 87 2 (.t 37)),
 oo 39 (.mki 83 (.t 38)),
 oo 2 (.asg (.t 39))]) .ret) .skip)))) (.reg [oo 40 (.bin .add 3 0 (.t 24) (.n 1) 3),
 om 24 40]))))
def b2o:IC:=(.seq (.reg [oo 1 (.box 28 3 (.t 0)),
 oo 2 (.asg (.c .nilIface))]) (.seq (.seq (.reg [oo 6 (.faddr 28 0 (.t 1) 0),
 oo 7 (.load 26 (some 2) (.t 6)),
 oc 8 44 [(false,(.t 7))] [26],
 oo 3 (.asg (.t 8))]) (.seq (.reg [om 9 3,
 oo 10 (.bin .neq 38 2 (.t 9) (.c .nilIface) 38)]) (.cond (.t 10) (.seq (.reg [om 11 3,
 oo 2 (.asg (.t 11))]) .ret) .skip))) (.seq (.seq (.draw [oo 12 (.faddr 28 2 (.t 1) 1),
 oo 13 (.load 22 none (.t 12)),
 oo 14 (.len 22 false (.t 13)),
 oo 15 (.faddr 28 0 (.t 1) 0),
 oo 16 (.faddr 26 0 (.t 15) 0),
 oo 17 (.load 22 none (.t 16)),
 oc 18 33 [(false,(.t 17))] [22],
 oo 19 (.bin .neq 3 0 (.t 14) (.t 18) 3)] [[],[0],[1],[],[3],[4],[5],[2,6]]) (.cond (.t 19) (.seq (.reg [oo 20 (.load 38 none (.g 0)),
 oo 2 (.asg (.t 20))]) .ret) .skip)) (.seq (.seq (.reg [oo 21 (.faddr 28 2 (.t 1) 1),
 oo 22 (.load 22 none (.t 21)),
 oo 23 (.len 22 false (.t 22)),
 oo 24 (.mv (.n 0))]) (.block 0 (.loop a48))) (.seq (.reg [oo 2 (.asg (.c .nilIface))]) .ret)))))
abbrev b8n:Nat:=27
theorem b4z:fnC pg 27 41 [(.tmp 2)] b2o:=a0w Go.Proofs.Tryz.f27 [(.tmp 2)] (by kernel_rfl)
@[go_sem] theorem c9e:fnB pg 27=true:=by kernel_rfl
def a2q:IC:=(.seq (.reg [oo 17 (.bin .lss 3 0 (.t 16) (.t 15) 3)]) (.seq (.cond (.t 17) .skip (.exit 0)) (.seq (.block 1 (.seq (.reg [oo 18 (.iaddr 22 1 (.t 14) (.t 16)),
 oo 19 (.load 3 none (.t 18)),
 oo 5 (.asg (.t 19))]) (.seq (.reg [om 20 5,
 oo 21 (.bin .lss 3 0 (.t 20) (.n 1) 3),
 om 22 21,
 og 23 (.mv (.t 5)) 2 22 false,
 og 24 (.bin .gtr 3 0 (.t 23) (.n 256) 3) 2 22 false,
 oo 25 (.pick (.t 22) (.c (.bool true)) (.t 24))]) (.cond (.t 25) (.seq (.reg [oo 26 (.load 38 none (.g 5)),
 oo 2 (.asg (.t 26))]) .ret) .skip)))) (.reg [oo 27 (.bin .add 3 0 (.t 16) (.n 1) 3),
 om 16 27]))))
def a3i:IC:=(.seq (.reg [oo 32 (.bin .lss 3 0 (.t 31) (.t 30) 3)]) (.seq (.cond (.t 32) .skip (.exit 2)) (.seq (.block 3 (.seq (.reg [oo 33 (.iaddr 22 1 (.t 29) (.t 31)),
 oo 34 (.load 3 none (.t 33)),
 oo 7 (.asg (.t 34))]) (.seq (.reg [om 35 3,
 om 36 7,
 oo 37 (.bin .mul 3 0 (.t 35) (.t 36) 3),
 oo 3 (.asg (.t 37))]) (.seq (.reg [om 38 3,
 oo 39 (.bin .gtr 3 0 (.t 38) (.n 16384) 3)]) (.cond (.t 39) (.seq (.reg [oo 40 (.load 38 none (.g 1)),
 oo 2 (.asg (.t 40))]) .ret) .skip))))) (.reg [oo 41 (.bin .add 3 0 (.t 31) (.n 1) 3),
 om 31 41]))))
def a7b:IC:=(.seq (.reg [oo 1 (.box 26 2 (.t 0)),
 oo 2 (.asg (.c .nilIface))]) (.seq (.seq (.reg [oo 8 (.faddr 26 0 (.t 1) 0),
 oo 9 (.load 22 none (.t 8)),
 oo 10 (.len 22 false (.t 9)),
 oo 11 (.bin .gtr 3 0 (.t 10) (.n 4) 3)]) (.cond (.t 11) (.seq (.reg [oo 12 (.load 38 none (.g 1)),
 oo 2 (.asg (.t 12))]) .ret) .skip)) (.seq (.reg [oo 3 (.asg (.n 1))]) (.seq (.seq (.reg [oo 13 (.faddr 26 0 (.t 1) 0),
 oo 14 (.load 22 none (.t 13)),
 oo 15 (.len 22 false (.t 14)),
 oo 16 (.mv (.n 0))]) (.block 0 (.loop a2q))) (.seq (.seq (.reg [oo 28 (.faddr 26 0 (.t 1) 0),
 oo 29 (.load 22 none (.t 28)),
 oo 30 (.len 22 false (.t 29)),
 oo 31 (.mv (.n 0))]) (.block 2 (.loop a3i))) (.seq (.reg [oo 2 (.asg (.c .nilIface))]) .ret))))))
abbrev b6s:Nat:=44
theorem b21:fnC pg 44 42 [(.tmp 2)] a7b:=a0w Go.Proofs.Tryz.f44 [(.tmp 2)] (by kernel_rfl)
@[go_sem] theorem c8i:fnB pg 44=true:=by kernel_rfl
def a6a:IC:=(.seq (.reg [oo 12 (.bin .lss 3 0 (.t 11) (.t 10) 3)]) (.seq (.cond (.t 12) .skip (.exit 0)) (.seq (.block 1 (.seq (.reg [oo 13 (.iaddr 22 1 (.t 9) (.t 11)),
 oo 14 (.load 3 none (.t 13)),
 oo 5 (.asg (.t 14))]) (.reg [om 15 3,
 om 16 5,
 oo 17 (.bin .mul 3 0 (.t 15) (.t 16) 3),
 oo 3 (.asg (.t 17))]))) (.reg [oo 18 (.bin .add 3 0 (.t 11) (.n 1) 3),
 om 11 18]))))
def b03:IC:=(.seq (.reg [oo 2 (.asg (.n 0))]) (.seq (.seq (.reg [om 6 0,
 oc 7 48 [(false,(.t 6))] [22],
 oo 8 (.un .not 4 (.t 7))]) (.cond (.t 8) (.seq (.reg [oo 2 (.asg (.n 0))]) .ret) .skip)) (.seq (.reg [oo 3 (.asg (.n 1))]) (.seq (.seq (.reg [om 9 0,
 oo 10 (.len 22 false (.t 9)),
 oo 11 (.mv (.n 0))]) (.block 0 (.loop a6a))) (.seq (.reg [om 19 3,
 oo 2 (.asg (.t 19))]) .ret)))))
abbrev b6r:Nat:=33
theorem b20:fnC pg 33 20 [(.tmp 2)] b03:=a0w Go.Proofs.Tryz.f33 [(.tmp 2)] (by kernel_rfl)
@[go_sem] theorem c8h:fnB pg 33=true:=by kernel_rfl
def a9v:IC:=(.seq (.reg [oo 4 (.asg (.c (.bool false)))]) (.seq (.seq (.reg [om 5 1]) (.cond (.t 5) (.seq (.reg [om 6 0,
 oo 7 (.bin .geq 3 0 (.t 6) (.n (-2147483648)) 3),
 om 8 7,
 og 9 (.mv (.t 0)) 2 8 true,
 og 10 (.bin .leq 3 0 (.t 9) (.n 2147483647) 3) 2 8 true,
 oo 11 (.pick (.t 8) (.t 10) (.c (.bool false))),
 oo 4 (.asg (.t 11))]) .ret) .skip)) (.seq (.reg [om 12 0,
 oo 13 (.bin .geq 3 0 (.t 12) (.n (-128)) 3),
 om 14 13,
 og 15 (.mv (.t 0)) 2 14 true,
 og 16 (.bin .leq 3 0 (.t 15) (.n 127) 3) 2 14 true,
 oo 17 (.pick (.t 14) (.t 16) (.c (.bool false))),
 oo 4 (.asg (.t 17))]) .ret)))
abbrev c0u:Nat:=45
theorem b5i:fnC pg 45 18 [(.tmp 4)] a9v:=a0w Go.Proofs.Tryz.f45 [(.tmp 4)] (by kernel_rfl)
@[go_sem] theorem d1q:fnB pg 45=true:=by kernel_rfl
def b2m:IC:=(.seq (.reg [oo 2 (.asg (.c (.bool false)))]) (.seq (.reg [om 3 0,
 oo 4 (.build 26 [.own 1 0 [],.lit (.bool false)] [(0,0,1,(.t 3))]),
 oc 5 44 [(false,(.t 4))] [26],
 oo 6 (.bin .eql 38 2 (.t 5) (.c .nilIface) 38),
 oo 2 (.asg (.t 6))]) .ret))
abbrev b8l:Nat:=48
theorem b4t:fnC pg 48 7 [(.tmp 2)] b2m:=a0w Go.Proofs.Tryz.f48 [(.tmp 2)] (by kernel_rfl)
@[go_sem] theorem c9b:fnB pg 48=true:=by kernel_rfl
abbrev li (n:Int):AV:= .lit (.int .i64 n)
abbrev lb (b:Bool):AV:= .lit (.bool b)
abbrev c1m (k:Int) (p:Bool) (n:Int):AV:= .agg [li k,lb p,li n]
theorem d2n (G:GG):ACalls pg G b3j [] (c1m 0 false 0):=by
 refine b0n rfl ?_
 simp (disch:=omega) [go_sem,a74]
theorem e58 (G:GG) (a b c d:Int) (e f:Bool):ACalls pg G a8r [c1m a e b,c1m c f d] (lb (decide (a=c/\e=f/\b=d))):=by
 refine a60 rfl ?_
 simp (disch:=omega) [go_sem,a42]
 refine b9e ?_ ?_<;>intro h<;>simp at h<;>simp (disch:=omega) [go_sem,h]
 refine b9e ?_ ?_<;>intro h2<;>simp at h2<;>simp (disch:=omega) [go_sem,h,h2]
theorem d1d (G:GG) (k n:Int):ACalls pg G b09 [li k,li n] (if k=0 then c1m 0 false 0 else c1m k true n):=by
 refine a8u rfl ?_
 by_cases h:k=0<;>simp (disch:=omega) [go_sem,a6k,h]
 refine a0e (d2n G) rfl rfl ?_
 simp (disch:=omega) [go_sem]
@[go_sem] abbrev c5p:Nat:=148
@[go_sem] abbrev f84:Nat:=83
def cn (g:Nat):Nat:=[6,2,0,1,5,3,4,7,8,9,10,11,12,13,14,15,16,17,18,19,20].getD g g
def gn (g:Nat):Nat:=[2,3,1,5,6,4,0,7,8,9,10,11,12,13,14,15,16,17,18,19,20].getD g g
@[go_sem] theorem g31:cn 0=6:=(rfl)
@[go_sem] theorem g32:cn 1=2:=(rfl)
@[go_sem] theorem g33:cn 2=0:=(rfl)
@[go_sem] theorem g34:cn 3=1:=(rfl)
@[go_sem] theorem g35:cn 4=5:=(rfl)
@[go_sem] theorem g36:cn 5=3:=(rfl)
@[go_sem] theorem g37:cn 6=4:=(rfl)
@[go_sem] theorem g38:cn 7=7:=(rfl)
@[go_sem] theorem g39:cn 8=8:=(rfl)
@[go_sem] theorem g4a:cn 9=9:=(rfl)
@[go_sem] theorem g2w:cn 10=10:=(rfl)
@[go_sem] theorem g2x:cn 11=11:=(rfl)
@[go_sem] theorem g2y:cn 12=12:=(rfl)
@[go_sem] theorem g2z:cn 13=13:=(rfl)
@[go_sem] theorem g20:cn 14=14:=(rfl)
@[go_sem] theorem g21:cn 15=15:=(rfl)
@[go_sem] theorem g22:cn 16=16:=(rfl)
@[go_sem] theorem g23:cn 17=17:=(rfl)
@[go_sem] theorem g24:cn 18=18:=(rfl)
@[go_sem] theorem g25:cn 19=19:=(rfl)
@[go_sem] theorem g26:cn 20=20:=(rfl)
structure Sent (G:GG) (bk:Nat->Nat×Nat):Prop where
 val:∀ g,g < 21->G g=some (.iface c5p (.pointer (some ⟨(bk (cn g)).1,(bk (cn g)).2,none⟩)))
 blk:∀ g,g < 21->(G (bk g).1).isSome=true
 inj:∀ g h,g < 21->h < 21->bk g=bk h->g=h
structure Sent5 (G:GG) (bk:Nat->Nat×Nat):Prop where
 val:∀ g,g=0\/g=1\/g=4\/g=5\/g=6->G g=some (.iface c5p (.pointer (some ⟨(bk (cn g)).1,(bk (cn g)).2,none⟩)))
 blk:∀ g,2<=g/\g<=6->(G (bk g).1).isSome=true
 inj:∀ g h,2<=g/\g<=6->2<=h/\h<=6->bk g=bk h->g=h
structure Sent3 (G:GG) (bk:Nat->Nat×Nat):Prop where
 val:∀ g,g=0\/g=1\/g=5->G g=some (.iface c5p (.pointer (some ⟨(bk (cn g)).1,(bk (cn g)).2,none⟩)))
theorem Sent5.three {G:GG} {bk:Nat->Nat×Nat} (h:Sent5 G bk):Sent3 G bk:=⟨fun g hg=>h.val g (by omega)⟩
structure SentO (G:GG) (bk:Nat->Nat×Nat):Prop where
 val:∀ g,g=0\/g=1\/g=2\/g=3\/g=4\/g=5\/g=7->G g=some (.iface c5p (.pointer (some ⟨(bk (cn g)).1,(bk (cn g)).2,none⟩)))
theorem Sent.o {G:GG} {bk:Nat->Nat×Nat} (h:Sent G bk):SentO G bk:=⟨fun g hg=>h.val g (by omega)⟩
theorem SentO.three {G:GG} {bk:Nat->Nat×Nat} (h:SentO G bk):Sent3 G bk:=⟨fun g hg=>h.val g (by omega)⟩
instance {G:GG} {bk:Nat->Nat×Nat}:Coe (Sent G bk) (SentO G bk):=⟨Sent.o⟩
@[go_sem] abbrev sv (bk:Nat->Nat×Nat) (g:Nat):AV:= .lit (.iface c5p (.pointer (some ⟨(bk g).1,(bk g).2,none⟩)))
def a2d:List Nat:=[6,3,5,2,4,7,0,8,9,10,1,11,12,13,14,15,16,17,18,19,20]
theorem c0a (G:GG) (bk:Nat->Nat×Nat) (hS:Sent G bk):ACalls pg G a8s [] (.own 1 21 (a2d.map (sv bk))):=by
 refine a61 rfl ?_
 simp (disch:=omega) [go_sem,a43,hS.val]
 rfl
abbrev slB (xs:List Bool):AV:= .sl xs.length (xs.map lb)
abbrev slI (xs:List Int):AV:= .sl xs.length (xs.map li)
abbrev owI (xs:List Int):AV:= .own 1 xs.length (xs.map li)
abbrev owB (xs:List Bool):AV:= .own 1 xs.length (xs.map lb)
abbrev b3e (xs:List (List Int)):AV:= .sl xs.length (xs.map slI)
abbrev b9z (xs:List (List Int)):AV:= .own 1 xs.length (xs.map owI)
attribute [go_sem] slB slI owI owB b3e b9z
@[go_sem] theorem a1q (xs:List Int):a03 (xs.map li)=true:=b1q fun x=>by simp only [a0x]
@[go_sem] theorem e35 (xs:List Bool):a03 (xs.map lb)=true:=b1q fun x=>by simp only [a0x]
@[go_sem] theorem e4e (xs:List Int):a0m (xs.map li)=true:=b1s fun x=>by simp only [a0n]
@[go_sem] theorem e4d (xs:List Bool):a0m (xs.map lb)=true:=b1s fun x=>by simp only [a0n]
def a2u (v:Bool):List Bool->Nat->Int
 | [],_=> -1
 | x::xs,i=>if v=x then i else a2u v xs (i+1)
theorem c1w {v:Bool} {bs:List Bool} {i k:Nat} (h:i < bs.length):a2u v (bs.drop i) k=if v=bs[i] then (k:Int) else a2u v (bs.drop (i+1)) (k+1):=by
 rw [List.drop_eq_getElem_cons h]; rfl
theorem d4i (G:GG) (bs:List Bool) (v:Bool) (hlen:bs.length < 2 ^ 62):ACalls pg G a9d [slB bs,lb v] (li (a2u v bs 0)):=by
 refine a7n rfl ?_
 simp (disch:=omega) [go_sem,a5p]
 refine a1c Nat (fun i st=>st.s 0=slB bs/\st.s 1=lb v/\st.s 7=li bs.length/\st.s 8=li i/\i<=bs.length/\a2u v (bs.drop i) i=a2u v bs 0) (fun i=>bs.length - i) 0 ?_ ?_
 ·simp (disch:=omega) [go_sem]
 ·rintro i st K ⟨h0,h1,h7,h8,hi,hno⟩ hK
  by_cases hlt:i < bs.length
  ·rw [c1w hlt] at hno
   by_cases hv:v=bs[i]
   ·rw [if_pos hv] at hno
    simp (disch:=omega) [go_sem,a18,h0,h1,h7,h8,hlt,<-hno,hv]
    rw [<-hv]; exact hno
   ·rw [if_neg hv] at hno
    simp (disch:=omega) [go_sem,a18,h0,h1,h7,h8,hlt,hv]
    exact hK (i+1) _ ⟨by simp [h0],by simp [h1],by simp [h7],by simp,by omega,hno⟩ (by omega)
  ·rw [List.drop_eq_nil_of_le (by omega)] at hno
   simp (disch:=omega) [go_sem,a18,h0,h1,h7,h8,hlt,<-hno,a2u]
section
variable {G:GG} {Q:Exit->St->Prop} {st:St}
abbrev lu (n:Int):AV:= .lit (.int .u8 n)
abbrev u8 (n:Int):Int:=IntKind.u8.wrap n
end
end Go.Ideal.Tryz
end
section
namespace Go.Ideal
section
variable {k yk:IntKind} {a b:Int}
theorem d3i (h:0<=b):a1y .shr (.int k a) (.int yk b)=some (.int k (a.fdiv (2 ^ min b.toNat k.bits))):=by simp [a1y,Op.shift,show ¬ b < 0 by omega]; rfl
@[go_sem] theorem f9h (h:0<=b):a28 .shr 0 (.lit (.int k a)) (.lit (.int yk b))=some (.lit (.int k (a.fdiv (2 ^ min b.toNat k.bits)))):=by simp [a28,c4u,d3i h]
end
namespace Tryz
section
variable {G:GG} {Q:Exit->St->Prop} {st:St}
end
end Tryz
end Go.Ideal
end
section
namespace Go.Ideal.Tryz
section
variable {Q:Exit->St->Prop} {st:St}
theorem d2i (G:GG) (xs:List Int) (hlen:xs.length < 2 ^ 40):ACalls pg G b3i [slI xs] (owI xs):=by
 refine b0m rfl ?_
 simp (disch:=omega) [go_sem,a73]
 refine a1c Nat (fun i st=>st.s 0=slI xs/\(∃ ys,ys=xs.take i/\st.s 3=owI ys)/\st.s 4=li i/\i<=xs.length) (fun i=>xs.length - i) 0 ?_ ?_
 ·exact ⟨by simp (disch:=omega) [go_sem],⟨[],by simp,by simp (disch:=omega) [go_sem]⟩,by simp (disch:=omega) [go_sem],by omega⟩
 ·rintro i st K ⟨h0,⟨ys,hys,h3⟩,h4,hi⟩ hK
  have hl:ys.length=i:=by rw [hys]; simp; omega
  by_cases hlt:i < xs.length
  ·simp (disch:=omega) [go_sem,a4z,h0,h3,h4,hlt]
   refine hK (i+1) _ ⟨by simp (disch:=omega) [go_sem,h0],⟨ys++[xs[i]],by rw [List.take_succ_eq_append_getElem hlt,hys],?_⟩,by simp (disch:=omega) [go_sem,h4],by omega⟩ (by omega)
   simp (disch:=omega) [go_sem]
  ·obtain rfl:i=xs.length:=by omega
   have:ys=xs:=by rw [hys]; simp
   subst this
   simp (disch:=omega) [go_sem,a4z,h0,h3,h4]
end
end Go.Ideal.Tryz
end
section
namespace Go.Ideal
def fm {α:Type} (f:α->List AV) (xs:List α):List AV:=xs.flatMap f
section
variable {α:Type} {f:α->List AV} {k:Nat} {xs:List α}
@[go_sem] theorem f05 {z y:AV} {zs:List AV}:a6w 1 (z::y::zs)=z::y::zs:=by simp [a6w]
@[go_sem] theorem e5p {zs:List AV}:a6w 0 zs=[]:=by simp [a6w]
theorem a7w:fm f []=[]:=rfl
theorem a3z {x:α}:fm f (x::xs)=f x++fm f xs:=rfl
theorem a4s (hf:∀ x,(f x).length=k):(fm f xs).length=xs.length*k:=by
 induction xs with
 | nil=>simp [fm]
 | cons x xs ih=>rw [a3z,List.length_append,hf,ih,List.length_cons,Nat.add_mul,Nat.one_mul,Nat.add_comm]
theorem a82 {x:α}:fm f [x]=f x:=by simp [fm]
theorem a4f (hf:∀ x,(f x).length=k):(fm f xs).take (xs.length*k)=fm f xs:=List.take_of_length_le (by rw [a4s hf]; exact Nat.le_refl _)
theorem a7v {ys:List α}:fm f (xs++ys)=fm f xs++fm f ys:=by simp [fm,List.flatMap_append]
theorem a81 (hf:∀ x,(f x).length=k) {i:Nat} (h:i < xs.length):((fm f xs).drop (i*k)).take k=f xs[i]:=by
 induction xs generalizing i with
 | nil=>simp at h
 | cons x xs ih=>
  rw [a3z]
  cases i with
  | zero=>rw [Nat.zero_mul,List.drop_zero,List.take_append_of_le_length (by rw [hf]; exact Nat.le_refl _),List.take_of_length_le (by rw [hf]; exact Nat.le_refl _)]; rfl
  | succ i=>
   rw [Nat.add_mul,Nat.one_mul,List.drop_append,hf,List.drop_of_length_le (by rw [hf]; omega),List.nil_append,Nat.add_sub_cancel]
   rw [ih (by simpa using h)]
   rfl
theorem b7a {a b:List AV}:a1k (a++b)=a1k a++a1k b:=by simp only [b7b,List.map_append]
theorem a7g:a1k (fm f xs)=fm (fun x=>a1k (f x)) xs:=by
 induction xs with
 | nil=>simp [fm,a1k]
 | cons x xs ih=>rw [a3z,a3z,b7a,ih]
theorem c48 {a b:List AV}:a0m (a++b)=(a0m a&&a0m b):=by
 induction a with
 | nil=>simp [a0m]
 | cons x a ih=>simp only [List.cons_append,a0m,ih,Bool.and_assoc]
theorem c47 {a b:List AV}:a03 (a++b)=(a03 a&&a03 b):=by
 induction a with
 | nil=>simp [a03]
 | cons x a ih=>simp only [List.cons_append,a03,ih,Bool.and_assoc]
theorem a8o (h:∀ x,a0m (f x)=true):a0m (fm f xs)=true:=by
 induction xs with
 | nil=>simp [fm,a0m]
 | cons x xs ih=>rw [a3z,c48,h,ih]; rfl
theorem a8n (h:∀ x,a03 (f x)=true):a03 (fm f xs)=true:=by
 induction xs with
 | nil=>simp [fm,a03]
 | cons x xs ih=>rw [a3z,c47,h,ih]; rfl
end
end Go.Ideal
end
section
namespace Go.Ideal.Tryz
inductive Er where
 | nil
 | s (g:Nat)
 | at (p:Int) (e:Er)
def a0t (bk:Nat->Nat×Nat):Er->AV
 | .nil=> .lit .nilIface
 | .s g=>sv bk g
 | .at p e=> .ifc f84 (.ip [li p,a0t bk e] 0)
abbrev wr (n:Int):Int:=IntKind.i64.wrap n
def a1e (n i:Nat):List Int->List (List Int)->List Int->Option (List (List Int)×List Int)
 | [],u,l=>some (u,l)
 | k::ks,u,l=>if k < 0\/(n:Int)<=k then none else a1e n i ks (u.set k.toNat (u[k.toNat]! ++[(i:Int)])) (l.set i (wr (l[i]! +1)))
def a6o (n:Nat):List (List Int)->Nat->List (List Int)->List Int->Except Nat (List (List Int)×List Int)
 | [],_,u,l=> .ok (u,l)
 | r::rs,i,u,l=>match a1e n i r u l with
  | none=> .error i
  | some p=>a6o n rs (i+1) p.1 p.2
def inB (n:Nat) (u:List (List Int)):Prop:=∀ r∈u,∀ k∈r,0<=k/\k < (n:Int)
theorem c67 {n:Nat} {u:List (List Int)} {k:Nat} {r:List Int} (h:inB n u) (hr:∀ k∈r,0<=k/\k < (n:Int)):inB n (u.set k r):=by
 intro x hx
 rcases List.mem_or_eq_of_mem_set hx with hx | rfl
 ·exact h x hx
 ·exact hr
section
variable {G:GG} {bk:Nat->Nat×Nat} {Q:Exit->St->Prop} {st:St}
theorem d5q (hS:SentO G bk) {ins u0:List (List Int)} {l0 row:List Int} {i c0:Nat} (hn:ins.length < 2 ^ 40) (hi:i < ins.length) (hc:c0+row.length < 2 ^ 40)
  (h0:st.s 0=b3e ins) (h4:st.s 4=owI l0) (h5:st.s 5=b9z u0) (h6:st.s 6=li i) (h22:st.s 22=b3e ins) (h23:st.s 23=li ins.length) (h24:st.s 24=li i)
  (h29:st.s 29=slI row) (h30:st.s 30=li row.length) (h31:st.s 31=li 0) (hl:l0.length=ins.length) (hu:u0.length=ins.length) (hb:∀ r∈u0,r.length<=c0) (hin:inB ins.length u0)
  (hex:∀ u l s,a1e ins.length i row u0 l0=some (u,l)->l.length=ins.length->u.length=ins.length->(∀ r∈u,r.length<=c0+row.length)->inB ins.length u->s.s 0=b3e ins->s.s 4=owI l->s.s 5=b9z u->s.s 22=b3e ins->s.s 23=li ins.length->s.s 24=li i->Q (.exit 2) s)
  (hret:a1e ins.length i row u0 l0=none->∀ s,s.s 2= .own 1 0 []->s.s 3=a0t bk (.at i (.s 0))->Q .ret s):AW pg G 119 (.loop a22) Q st:=by
 refine a1c (Nat×List (List Int)×List Int) (fun p st=>p.1<=row.length/\a1e ins.length i (row.drop p.1) p.2.1 p.2.2=a1e ins.length i row u0 l0/\p.2.2.length=ins.length/\p.2.1.length=ins.length/\(∀ r∈p.2.1,r.length<=c0+p.1)/\inB ins.length p.2.1/\
  st.s 0=b3e ins/\st.s 4=owI p.2.2/\st.s 5=b9z p.2.1/\st.s 6=li i/\st.s 22=b3e ins/\st.s 23=li ins.length/\st.s 24=li i/\st.s 29=slI row/\st.s 30=li row.length/\st.s 31=li p.1) (fun p=>row.length - p.1) (0,u0,l0) ?_ ?_
 ·exact ⟨by simp,by simp,hl,hu,by simpa using hb,hin,h0,h4,h5,h6,h22,h23,h24,h29,h30,h31⟩
 ·clear h0 h4 h5 h6 h22 h23 h24 h29 h30 h31 hl hu hb hin
  rintro ⟨j,u,l⟩ st K ⟨hj,ht,hl,hu,hb,hin,h0,h4,h5,h6,h22,h23,h24,h29,h30,h31⟩ hK
  simp only at hj ht hl hu hb hin h4 h5 h31
  by_cases hlt:j < row.length
  ·rw [List.drop_eq_getElem_cons hlt,a1e] at ht
   by_cases hk:row[j] < 0\/(ins.length:Int)<=row[j]
   ·rw [if_pos hk] at ht
    have key:∀ (s:St) (Q' Q2:Exit->St->Prop),s.s 6=li i->(∀ s,Q .ret s->Q' .ret s)->AW pg G 119 (.draw order_Sort_r10 [[],[],[0,1],[2],[3],[],[4,5,0,1,2,3,4,5]]) (b05 (AW pg G 119 .ret Q') Q2) s:=by
     intro s Q' Q2 h6 hq
     refine a0b ?_
     simp (disch:=omega) [go_sem,hS.val,h6]
     refine a0d (by decide) fun s2 hs he=> ?_
     simp (disch:=omega) [go_sem]
     exact hq _ (hret ht.symm _ (by simp (disch:=omega) [go_sem,hs]) (by simp (disch:=omega) [go_sem,hs,a0t]))
    by_cases hk1:row[j] < 0
    ·simp (disch:=omega) [go_sem,a22,h0,h6,h29,h30,h31,hlt,hk1]
     exact key _ _ _ (by simp (disch:=omega) [go_sem,h6]) (fun s h=>h)
    ·have hk2:(ins.length:Int)<=row[j]:=by omega
     simp (disch:=omega) [go_sem,a22,h0,h6,h29,h30,h31,hlt,hk1,hk2]
     exact key _ _ _ (by simp (disch:=omega) [go_sem,h6]) (fun s h=>h)
   ·rw [if_neg hk] at ht
    have hk1:0<=row[j]:=by omega
    have hk2:row[j] < ins.length:=by omega
    have hk3:row[j].toNat < u.length:=by omega
    have hk4:u[row[j].toNat].length<=c0+j:=hb _ (List.getElem_mem _)
    simp (disch:=omega) [go_sem,a22,h0,h4,h5,h6,h22,h23,h24,h29,h30,h31,hlt,hk1,hk2]
    refine hK (j+1,u.set row[j].toNat (u[row[j].toNat]! ++[(i:Int)]),l.set i (wr (l[i]! +1))) _ ⟨by simp only; omega,ht,by simpa using hl,by simpa using hu,fun r hr=> ?_,c67 hin fun k hk=> ?_,?_⟩ (by simp only; omega)
    ·rcases List.mem_or_eq_of_mem_set hr with hr | rfl
     ·have:=hb r hr; simp only; omega
     ·simp [hk3]; omega
    ·simp [hk3] at hk
     rcases hk with hk | rfl
     ·exact hin _ (List.getElem_mem _) k hk
     ·omega
    ·refine ⟨by simp (disch:=omega) [go_sem,h0],?_,?_,by simp (disch:=omega) [go_sem,h6],by simp (disch:=omega) [go_sem,h22],by simp (disch:=omega) [go_sem,h23],by simp (disch:=omega) [go_sem,h24],by simp (disch:=omega) [go_sem,h29],by simp (disch:=omega) [go_sem,h30],by simp (disch:=omega) [go_sem,h31]⟩
     ·simp (disch:=omega) [go_sem,h4]
     ·simp (disch:=omega) [go_sem,h5]
  ·rw [List.drop_eq_nil_of_le (by omega)] at ht
   simp (disch:=omega) [go_sem,a22,h30,h31,hlt]
   obtain rfl:j=row.length:=by omega
   exact hex u l _ ht.symm hl hu hb hin (by simp (disch:=omega) [go_sem,h0]) (by simp (disch:=omega) [go_sem,h4]) (by simp (disch:=omega) [go_sem,h5]) (by simp (disch:=omega) [go_sem,h22]) (by simp (disch:=omega) [go_sem,h23]) (by simp (disch:=omega) [go_sem,h24])
def tot (ins:List (List Int)):Nat:=(ins.map List.length).sum
theorem d1r {ins:List (List Int)} {i:Nat} (h:i < ins.length):tot (ins.take (i+1))=tot (ins.take i)+ins[i].length/\tot (ins.take (i+1))<=tot ins:=by
 constructor
 ·simp only [tot]
  rw [List.take_succ_eq_append_getElem h,List.map_append,List.sum_append]
  simp
 ·have:tot ins=tot (ins.take (i+1))+tot (ins.drop (i+1)):=by
   simp only [tot]
   rw [<-List.sum_append,<-List.map_append,List.take_append_drop]
  omega
theorem d5r (hS:SentO G bk) {ins u0:List (List Int)} {l0:List Int} (hn:ins.length < 2 ^ 40) (hc:tot ins < 2 ^ 40)
  (h0:st.s 0=b3e ins) (h4:st.s 4=owI l0) (h5:st.s 5=b9z u0) (h22:st.s 22=b3e ins) (h23:st.s 23=li ins.length) (h24:st.s 24=li 0) (hl:l0.length=ins.length) (hu:u0.length=ins.length) (hb:∀ r∈u0,r.length<=0) (hin:inB ins.length u0)
  (hex:∀ u l s,a6o ins.length ins 0 u0 l0= .ok (u,l)->l.length=ins.length->u.length=ins.length->inB ins.length u->(∀ r∈u,r.length < 2 ^ 40)->s.s 0=b3e ins->s.s 4=owI l->s.s 5=b9z u->Q (.exit 0) s)
  (hret:∀ i s,a6o ins.length ins 0 u0 l0= .error i->i < ins.length->s.s 2= .own 1 0 []->s.s 3=a0t bk (.at i (.s 0))->Q .ret s):AW pg G 119 (.loop a44) Q st:=by
 refine a1c (Nat×List (List Int)×List Int) (fun p st=>p.1<=ins.length/\a6o ins.length (ins.drop p.1) p.1 p.2.1 p.2.2=a6o ins.length ins 0 u0 l0/\p.2.2.length=ins.length/\p.2.1.length=ins.length/\(∀ r∈p.2.1,r.length<=tot (ins.take p.1))/\inB ins.length p.2.1/\
  st.s 0=b3e ins/\st.s 4=owI p.2.2/\st.s 5=b9z p.2.1/\st.s 22=b3e ins/\st.s 23=li ins.length/\st.s 24=li p.1) (fun p=>ins.length - p.1) (0,u0,l0) ?_ ?_
 ·exact ⟨by simp,by simp,hl,hu,by simpa [tot] using hb,hin,h0,h4,h5,h22,h23,h24⟩
 ·clear h0 h4 h5 h22 h23 h24 hl hu hb hin
  rintro ⟨i,u,l⟩ st K ⟨hi,ht,hl,hu,hb,hin,h0,h4,h5,h22,h23,h24⟩ hK
  simp only at hi ht hl hu hb hin h4 h5 h24
  by_cases hlt:i < ins.length
  ·rw [List.drop_eq_getElem_cons hlt,a6o] at ht
   obtain ⟨t1,t2⟩:=d1r hlt
   simp (disch:=omega) [go_sem,a44,h22,h23,h24,hlt]
   refine d5q hS (ins:=ins) (row:=ins[i]) (i:=i) (u0:=u) (l0:=l) (c0:=tot (ins.take i)) hn hlt (by omega) (by simp (disch:=omega) [go_sem,h0]) (by simp (disch:=omega) [go_sem,h4]) (by simp (disch:=omega) [go_sem,h5]) (by simp (disch:=omega) [go_sem]) (by simp (disch:=omega) [go_sem,h22]) (by simp (disch:=omega) [go_sem,h23]) (by simp (disch:=omega) [go_sem,h24])
    (by simp (disch:=omega) [go_sem]) (by simp (disch:=omega) [go_sem]) (by simp (disch:=omega) [go_sem]) hl hu hb hin ?_ ?_
   ·intro u2 l2 s e1 e2 e3 e4 e5 h0 h4 h5 h22 h23 h24
    rw [e1] at ht
    simp (disch:=omega) [go_sem,h24]
    exact hK (i+1,u2,l2) _ ⟨by simp only; omega,ht,e2,e3,by simp only; rw [t1]; exact e4,e5,by simp (disch:=omega) [go_sem,h0],by simp (disch:=omega) [go_sem,h4],by simp (disch:=omega) [go_sem,h5],by simp (disch:=omega) [go_sem,h22],by simp (disch:=omega) [go_sem,h23],by simp (disch:=omega) [go_sem,h24]⟩ (by simp only; omega)
   ·intro e1 s h2 h3
    rw [e1] at ht
    simp (disch:=omega) [go_sem]
    exact hret i _ ht.symm hlt h2 h3
  ·obtain rfl:i=ins.length:=by omega
   rw [List.drop_length,a6o] at ht
   simp (disch:=omega) [go_sem,a44,h23,h24]
   refine hex u l _ ht.symm hl hu hin (fun r hr=> ?_) (by simp (disch:=omega) [go_sem,h0]) (by simp (disch:=omega) [go_sem,h4]) (by simp (disch:=omega) [go_sem,h5])
   have:=hb r hr
   rw [List.take_length] at this
   omega
end
def c2b:List Int->List Int->List Int
 | [],l=>l
 | k::ks,l=>c2b ks (l.set k.toNat (wr (l[k.toNat]! - 1)))
theorem b7k:∀ (ks l:List Int),(c2b ks l).length=l.length
 | [],l=>rfl
 | k::ks,l=>by rw [c2b,b7k]; simp
def a6q:List Bool->List Int->Nat->Option Nat
 | d::ds,l::ls,i=>if d=true\/0 < l then a6q ds ls (i+1) else some i
 | _,_,_=>none
theorem c5c {done:List Bool} {l:List Int} {i k:Nat} (h:i < done.length) (h2:i < l.length):a6q (done.drop i) (l.drop i) k=if done[i]=true\/0 < l[i] then a6q (done.drop (i+1)) (l.drop (i+1)) (k+1) else some k:=by
 rw [List.drop_eq_getElem_cons h,List.drop_eq_getElem_cons h2,a6q]
section
variable {G:GG} {Q:Exit->St->Prop} {st:St}
theorem d5s {ins u:List (List Int)} {l0 out:List Int} {done:List Bool} {i:Nat} (hi:i < u.length) (hl:l0.length=u.length) (hin:inB u.length u) (hb:u[i].length < 2 ^ 40)
  (h0:st.s 0=b3e ins) (h4:st.s 4=owI l0) (h5:st.s 5=b9z u) (h10:st.s 10=owI out) (h11:st.s 11=owB done) (h95:st.s 95= .bor 5 [i] 0 u[i].length (st.ep 5)) (h96:st.s 96=li u[i].length) (h97:st.s 97=li 0)
  (hex:∀ s,s.s 0=b3e ins->s.s 4=owI (c2b u[i] l0)->s.s 5=b9z u->s.s 10=owI out->s.s 11=owB done->Q (.exit 8) s):AW pg G 119 (.loop a45) Q st:=by
 refine a1c (Nat×List Int) (fun p st=>p.1<=u[i].length/\c2b (u[i].drop p.1) p.2=c2b u[i] l0/\p.2.length=u.length/\st.s 0=b3e ins/\st.s 4=owI p.2/\st.s 5=b9z u/\st.s 10=owI out/\st.s 11=owB done/\st.s 95= .bor 5 [i] 0 u[i].length (st.ep 5)/\st.s 96=li u[i].length/\st.s 97=li p.1) (fun p=>u[i].length - p.1) (0,l0) ?_ ?_
 ·exact ⟨by simp,by simp,hl,h0,h4,h5,h10,h11,h95,h96,h97⟩
 ·clear h0 h4 h5 h10 h11 h95 h96 h97 hl
  rintro ⟨j,l⟩ st K ⟨hj,ht,hl,h0,h4,h5,h10,h11,h95,h96,h97⟩ hK
  simp only at hj ht hl h4 h97
  by_cases hlt:j < u[i].length
  ·rw [List.drop_eq_getElem_cons hlt,c2b] at ht
   obtain ⟨k1,k2⟩:=hin _ (List.getElem_mem hi) _ (List.getElem_mem hlt)
   have k3:u[i][j].toNat < l.length:=by omega
   simp (disch:=omega) [go_sem,a45,h4,h5,h95,h96,h97,hlt,k1,k2]
   refine hK (j+1,l.set u[i][j].toNat (wr (l[u[i][j].toNat]! - 1))) _ ⟨by simp only; omega,ht,by simpa using hl,by simp (disch:=omega) [go_sem,h0],?_,by simp (disch:=omega) [go_sem,h5],by simp (disch:=omega) [go_sem,h10],by simp (disch:=omega) [go_sem,h11],by simp (disch:=omega) [go_sem,h95],by simp (disch:=omega) [go_sem,h96],by simp (disch:=omega) [go_sem,h97]⟩ (by simp only; omega)
   simp (disch:=omega) [go_sem,h4]
  ·rw [List.drop_eq_nil_of_le (by omega),c2b] at ht
   subst ht
   simp (disch:=omega) [go_sem,a45,h96,h97,hlt]
   exact hex _ (by simp (disch:=omega) [go_sem,h0]) (by simp (disch:=omega) [go_sem,h4]) (by simp (disch:=omega) [go_sem,h5]) (by simp (disch:=omega) [go_sem,h10]) (by simp (disch:=omega) [go_sem,h11])
theorem d5t {ins u:List (List Int)} {l out:List Int} {done:List Bool} {n:Nat} (hn:n < 2 ^ 40) (hl:l.length=n) (hu:u.length=n) (hd:done.length=n) (ho:out.length < 2 ^ 41) (hin:inB n u) (hb:∀ r∈u,r.length < 2 ^ 40)
  (h0:st.s 0=b3e ins) (h4:st.s 4=owI l) (h5:st.s 5=b9z u) (h10:st.s 10=owI out) (h11:st.s 11=owB done) (h70:st.s 70=li n) (h71:st.s 71=li 0)
  (hex:a6q done l 0=none->∀ s,s.s 0=b3e ins->s.s 4=owI l->s.s 5=b9z u->s.s 10=owI out->s.s 11=owB done->Q (.exit 6) s)
  (hf:∀ k s,a6q done l 0=some k->k < n->done[k]! =false->s.s 0=b3e ins->s.s 4=owI (c2b u[k]! l)->s.s 5=b9z u->s.s 10=owI (out++[(k:Int)])->s.s 11=owB (done.set k true)->Q (.exit 5) s):AW pg G 119 (.loop a23) Q st:=by
 refine a1c Nat (fun i st=>i<=n/\a6q (done.drop i) (l.drop i) i=a6q done l 0/\st.s 0=b3e ins/\st.s 4=owI l/\st.s 5=b9z u/\st.s 10=owI out/\st.s 11=owB done/\st.s 70=li n/\st.s 71=li i) (fun i=>n - i) 0 ?_ ?_
 ·exact ⟨by simp,by simp,h0,h4,h5,h10,h11,h70,h71⟩
 ·clear h0 h4 h5 h10 h11 h70 h71
  rintro i st K ⟨hi,ht,h0,h4,h5,h10,h11,h70,h71⟩ hK
  by_cases hlt:i < n
  ·have hlt1:i < done.length:=by omega
   have hlt2:i < l.length:=by omega
   have hlt3:i < u.length:=by omega
   rw [c5c hlt1 hlt2] at ht
   have next:(done[i]=true\/0 < l[i])->∀ s,s.s 0=b3e ins->s.s 4=owI l->s.s 5=b9z u->s.s 10=owI out->s.s 11=owB done->s.s 70=li n->s.s 71=li (i+1)->K s:=fun hc s h0 h4 h5 h10 h11 h70 h71=>by
    rw [if_pos hc] at ht
    exact hK (i+1) s ⟨by omega,ht,h0,h4,h5,h10,h11,h70,h71⟩ (by omega)
   by_cases hd1:done[i]=true
   ·simp (disch:=omega) [go_sem,a23,h4,h5,h10,h11,h70,h71,hlt,hd1]
    exact next (.inl hd1) _ (by simp (disch:=omega) [go_sem,h0]) (by simp (disch:=omega) [go_sem,h4]) (by simp (disch:=omega) [go_sem,h5]) (by simp (disch:=omega) [go_sem,h10]) (by simp (disch:=omega) [go_sem,h11]) (by simp (disch:=omega) [go_sem,h70]) (by simp (disch:=omega) [go_sem])
   ·by_cases hl1:0 < l[i]
    ·simp (disch:=omega) [go_sem,a23,h4,h5,h10,h11,h70,h71,hlt,hd1,hl1]
     exact next (.inr hl1) _ (by simp (disch:=omega) [go_sem,h0]) (by simp (disch:=omega) [go_sem,h4]) (by simp (disch:=omega) [go_sem,h5]) (by simp (disch:=omega) [go_sem,h10]) (by simp (disch:=omega) [go_sem,h11]) (by simp (disch:=omega) [go_sem,h70]) (by simp (disch:=omega) [go_sem])
    ·rw [if_neg (by simp [hd1,hl1])] at ht
     simp (disch:=omega) [go_sem,a23,h4,h5,h10,h11,h70,h71,hlt,hd1,hl1]
     refine d5s (ins:=ins) (u:=u) (l0:=l) (out:=out++[(i:Int)]) (done:=done.set i true) (i:=i) hlt3 (by omega) (by rw [hu]; exact hin) (hb _ (List.getElem_mem _)) (by simp (disch:=omega) [go_sem,h0]) (by simp (disch:=omega) [go_sem,h4]) (by simp (disch:=omega) [go_sem,h5]) (by simp (disch:=omega) [go_sem,h10]) (by simp (disch:=omega) [go_sem,h11]) (by simp (disch:=omega) [go_sem]) (by simp (disch:=omega) [go_sem]) (by simp (disch:=omega) [go_sem]) ?_
     intro s h0 h4 h5 h10 h11
     simp (disch:=omega) [go_sem]
     exact hf i _ ht.symm hlt (by simpa [hlt1] using hd1) h0 (by simpa [hlt3] using h4) h5 h10 h11
  ·obtain rfl:i=n:=by omega
   rw [List.drop_eq_nil_of_le (by omega),a6q] at ht
   ·simp (disch:=omega) [go_sem,a23,h70,h71]
    exact hex ht.symm _ (by simp (disch:=omega) [go_sem,h0]) (by simp (disch:=omega) [go_sem,h4]) (by simp (disch:=omega) [go_sem,h5]) (by simp (disch:=omega) [go_sem,h10]) (by simp (disch:=omega) [go_sem,h11])
   ·intros; simp_all
def a6p (u:List (List Int)):Nat->List Bool->List Int->List Int->List Bool×List Int
 | 0,done,_,out=>(done,out)
 | f+1,done,l,out=>match a6q done l 0 with
  | none=>(done,out)
  | some i=>a6p u f (done.set i true) (c2b u[i]! l) (out++[(i:Int)])
theorem b7l:∀ {done:List Bool} {l:List Int} {k i:Nat},a6q done l k=some i->k<=i/\∃ h:i - k < done.length,done[i - k]=false
 | [],l,k,i,h=>by cases l<;>simp [a6q] at h
 | d::ds,[],k,i,h=>by simp [a6q] at h
 | d::ds,l::ls,k,i,h=>by
  simp only [a6q] at h
  split at h
  ·obtain ⟨h1,h2,h3⟩:=b7l h
   refine ⟨by omega,?_⟩
   have e:i - k=(i - (k+1))+1:=by omega
   simp only [e,List.length_cons,List.getElem_cons_succ]
   exact ⟨by omega,h3⟩
  ·rename_i hc
   injection h with h
   subst h
   simp at hc
   simp [hc.1]
theorem b9u {done:List Bool} {l:List Int} {i:Nat} (h:a6q done l 0=some i):(done.set i true).count false+1=done.count false:=by
 obtain ⟨_,h2,h3⟩:=b7l h
 simp only [Nat.sub_zero] at h2 h3
 have e:done=done.take i++false::done.drop (i+1):=by
  conv=>lhs; rw [<-List.take_append_drop i done,List.drop_eq_getElem_cons h2,h3]
 have e2:done.set i true=done.take i++true::done.drop (i+1):=by
  rw [List.set_eq_take_append_cons_drop,if_pos h2]
 rw [e2]
 conv=>rhs; rw [e]
 simp
 omega
theorem d5u {ins u:List (List Int)} {l0 out0:List Int} {done0:List Bool} {n f0:Nat} (hn:n < 2 ^ 40) (hu:u.length=n) (hin:inB n u) (hb:∀ r∈u,r.length < 2 ^ 40) (hl:l0.length=n) (hd:done0.length=n) (hc:done0.count false+out0.length=n) (hf:done0.count false<=f0)
  (h0:st.s 0=b3e ins) (h4:st.s 4=owI l0) (h5:st.s 5=b9z u) (h10:st.s 10=owI out0) (h11:st.s 11=owB done0)
  (hex:∀ s,(a6p u f0 done0 l0 out0).1.length=n->(a6p u f0 done0 l0 out0).2.length<=n->s.s 10=owI (a6p u f0 done0 l0 out0).2->s.s 11=owB (a6p u f0 done0 l0 out0).1->Q (.exit 4) s):AW pg G 119 (.loop a67) Q st:=by
 refine a1c (Nat×List Bool×List Int×List Int) (fun p st=>p.2.1.count false<=p.1/\a6p u p.1 p.2.1 p.2.2.1 p.2.2.2=a6p u f0 done0 l0 out0/\p.2.1.length=n/\p.2.2.1.length=n/\p.2.1.count false+p.2.2.2.length=n/\
  st.s 0=b3e ins/\st.s 4=owI p.2.2.1/\st.s 5=b9z u/\st.s 10=owI p.2.2.2/\st.s 11=owB p.2.1) (fun p=>p.1) (f0,done0,l0,out0) ?_ ?_
 ·exact ⟨hf,rfl,hd,hl,hc,h0,h4,h5,h10,h11⟩
 ·clear h0 h4 h5 h10 h11 hf hd hl hc
  rintro ⟨f,done,l,out⟩ st K ⟨hf,ht,hd,hl,hc,h0,h4,h5,h10,h11⟩ hK
  simp only at hf ht hd hl hc h4 h10 h11
  simp (disch:=omega) [go_sem,a67,h4]
  refine d5t (ins:=ins) (u:=u) (l:=l) (out:=out) (done:=done) (n:=n) hn hl hu hd (by omega) hin hb (by simp (disch:=omega) [go_sem,h0]) (by simp (disch:=omega) [go_sem,h4]) (by simp (disch:=omega) [go_sem,h5]) (by simp (disch:=omega) [go_sem,h10]) (by simp (disch:=omega) [go_sem,h11]) (by simp (disch:=omega) [go_sem,hl]) (by simp (disch:=omega) [go_sem]) ?_ ?_
  ·intro hp s h0 h4 h5 h10 h11
   have e:a6p u f0 done0 l0 out0=(done,out):=by
    rw [<-ht]; cases f<;>simp [a6p,hp]
   simp (disch:=omega) [go_sem]
   exact hex _ (by rw [e]; exact hd) (by rw [e]; simp only; omega) (by rw [e]; exact h10) (by rw [e]; exact h11)
  ·intro k s hp hk hdk h0 h4 h5 h10 h11
   have hcnt:=b9u hp
   obtain ⟨f',rfl⟩:∃ f',f=f'+1:=⟨f - 1,by omega⟩
   rw [a6p,hp] at ht
   simp (disch:=omega) [go_sem]
   exact hK (f',done.set k true,c2b u[k]! l,out++[(k:Int)]) _ ⟨by simp only; omega,ht,by simpa using hd,by simp only [b7k]; exact hl,by simp only [List.length_append,List.length_cons,List.length_nil]; omega,h0,h4,h5,h10,h11⟩ (by simp only; omega)
end
def a9r (ins:List (List Int)):Except (Int×Nat) (List Int):=
 match a6o ins.length ins 0 (List.replicate ins.length []) (List.replicate ins.length 0) with
 | .error i=> .error (i,0)
 | .ok p=>
  if 0<=a2u false (a6p p.1 ins.length (List.replicate ins.length false) p.2 []).1 0 then .error (a2u false (a6p p.1 ins.length (List.replicate ins.length false) p.2 []).1 0,1)
  else .ok (a6p p.1 ins.length (List.replicate ins.length false) p.2 []).2
def c94 (bk:Nat->Nat×Nat):Except (Int×Nat) (List Int)->AV
 | .error e=> .tup [.own 1 0 [],a0t bk (.at e.1 (.s e.2))]
 | .ok out=> .tup [owI out,.lit .nilIface]
theorem e6m {G:GG} {bk:Nat->Nat×Nat} (hS:SentO G bk) (ins:List (List Int)) (hn:ins.length < 2 ^ 40) (hc:tot ins < 2 ^ 40):ACalls pg G b8j [b3e ins] (c94 bk (a9r ins)):=by
 refine b4g rfl ?_
 simp (disch:=omega) [go_sem,b2f]
 refine d5r hS (ins:=ins) (u0:=List.replicate ins.length []) (l0:=List.replicate ins.length 0) hn hc (by simp (disch:=omega) [go_sem]) (by simp (disch:=omega) [go_sem]) (by simp (disch:=omega) [go_sem]) (by simp (disch:=omega) [go_sem]) (by simp (disch:=omega) [go_sem]) (by simp (disch:=omega) [go_sem]) (by simp) (by simp)
  (fun r hr=>by rw [List.eq_of_mem_replicate hr]; simp) (fun r hr=>by rw [List.eq_of_mem_replicate hr]; simp) ?_ ?_
 ·intro u l s hfill hl hu hin hb h0 h4 h5
  simp (disch:=omega) [go_sem,h0]
  refine d5u (ins:=ins) (u:=u) (l0:=l) (out0:=[]) (done0:=List.replicate ins.length false) (n:=ins.length) (f0:=ins.length) hn hu hin hb hl (by simp) (by simp) (by simp) (by simp (disch:=omega) [go_sem,h0]) (by simp (disch:=omega) [go_sem,h4]) (by simp (disch:=omega) [go_sem,h5]) (by simp (disch:=omega) [go_sem]) (by simp (disch:=omega) [go_sem]) ?_
  generalize hp:a6p u ins.length (List.replicate ins.length false) l []=p
  intro s hd ho h10 h11
  simp (disch:=omega) [go_sem,h11]
  refine a0e (d4i G p.1 false (by omega)) rfl rfl ?_
  have hres:a9r ins=if 0<=a2u false p.1 0 then .error (a2u false p.1 0,1) else .ok p.2:=by
   simp only [a9r,hfill,hp]
  by_cases hk:0<=a2u false p.1 0
  ·rw [if_pos hk] at hres
   simp (disch:=omega) [go_sem,hk]
   refine a0b ?_
   simp (disch:=omega) [go_sem,hS.val]
   refine a0d (by decide) fun s2 hs he=> ?_
   simp (disch:=omega) [go_sem,hs,hres,c94,a0t]
  ·rw [if_neg hk] at hres
   simp (disch:=omega) [go_sem,hk,h10,hres,c94]
 ·intro i s hfill hi h2 h3
  have hres:a9r ins= .error (i,0):=by simp only [a9r,hfill]
  simp (disch:=omega) [go_sem,h2,h3,hres,c94,a0t]
structure Nd where
 op:Int
 ins:List Int
 args:List Int
 shape:List Int
 wide:Bool
 data:List Int
def a5q (n:Nd):List AV:=[li n.op,slI n.ins,slI n.args,slI n.shape,lb n.wide,slI n.data]
@[go_sem] theorem e8e {xs:List Nd}:(fm a5q xs).length=xs.length*6:=a4s fun _=>rfl
@[go_sem] theorem e8d {xs:List Nd} {i:Nat} (h:i < xs.length):((fm a5q xs).drop (i*6)).take 6=[li xs[i].op,slI xs[i].ins,slI xs[i].args,slI xs[i].shape,lb xs[i].wide,slI xs[i].data]:=a81 (f:=a5q) (k:=6) (fun _=>rfl) h
@[go_sem] theorem e1b {xs:List Nd}:(fm a5q xs).take (xs.length*6)=fm a5q xs:=a4f fun _=>rfl
@[go_sem] theorem d69 {xs:List Nd}:a0m (fm a5q xs)=true:=a8o fun _=>rfl
@[go_sem] theorem e8c {xs:List Nd}:a1k (fm a5q xs)=fm a5q xs:=by
 rw [a7g]; congr 1
section
variable {G:GG} {Q:Exit->St->Prop} {st:St}
def e1c (r:List Int):List AV:=[li 4,owI r,.own 1 0 [],.own 1 0 [],lb false,.own 1 0 []]
def g1q (r:List Int):Nd:=⟨4,r,[],[],false,[]⟩
@[go_sem] theorem e8g {xs:List (List Int)}:(fm e1c xs).length=xs.length*6:=a4s fun _=>rfl
@[go_sem] theorem e1d {xs:List (List Int)}:(fm e1c xs).take (xs.length*6)=fm e1c xs:=a4f fun _=>rfl
@[go_sem] theorem e8f {xs:List (List Int)}:a1k (fm e1c xs)=fm a5q (xs.map g1q):=by
 rw [a7g]
 induction xs with
 | nil=>rfl
 | cons x xs ih=>
  rw [a3z,List.map_cons,a3z,ih]
  congr 1
  simp [e1c,a5q,g1q,go_sem]
end
section
variable {G:GG} {bk:Nat->Nat×Nat}
theorem d13 (n:Int):ACalls pg G b3g [li n] (c1m n false 0):=by
 refine b0k rfl ?_
 simp (disch:=omega) [go_sem,a71]
theorem c9h (hS:Sent G bk) {g h:Nat} (hg:g < 21) (hh:h < 21):ACalls pg G b2q [sv bk g,sv bk h] (lb (decide (g=h))):=by
 refine a9n rfl ?_
 simp (disch:=omega) [go_sem,a7h,hS.blk]
 by_cases h2:g=h
 ·simp [h2]
 ·simp [h2]; intro h3 h4; exact h2 (hS.inj _ _ hg hh (Prod.ext h3 h4))
theorem b7x:a2d.length=21:=rfl
theorem b99:∀ g∈a2d,g < 21:=by decide
def a97 (g:Nat):List Nat->Nat->Int
 | [],_=> -1
 | h::hs,i=>if g=h then 101+i else a97 g hs (i+1)
def b3q (g:Nat):Int:=a97 g a2d 0
theorem b60 {g i k:Nat} (h:i < a2d.length):a97 g (a2d.drop i) k=if g=a2d[i] then 101+(k:Int) else a97 g (a2d.drop (i+1)) (k+1):=by
 rw [List.drop_eq_getElem_cons h]; rfl
theorem b6j (hS:Sent G bk) {g:Nat} (hg:g < 21):ACalls pg G a9a [sv bk g] (li (b3q g)):=by
 refine a7l rfl ?_
 simp (disch:=omega) [go_sem,a5k]
 refine a0e (c0a G bk hS) rfl rfl ?_
 simp (disch:=omega) [go_sem]
 refine a1c Nat (fun i st=>st.s 0=sv bk g/\st.s 3= .own 1 21 (a2d.map (sv bk))/\st.s 4=li i/\i<=21/\a97 g (a2d.drop i) i=b3q g) (fun i=>21 - i) 0 ?_ ?_
 ·exact ⟨by simp (disch:=omega) [go_sem],by simp (disch:=omega) [go_sem],by simp (disch:=omega) [go_sem],by simp,rfl⟩
 ·rintro i st K ⟨h0,h3,h4,hi,hc⟩ hK
  by_cases hlt:i < 21
  ·have hlt':i < a2d.length:=hlt
   rw [b60 hlt'] at hc
   have hlt2:a2d[i] < 21:=b99 _ (List.getElem_mem hlt')
   simp (disch:=omega) [go_sem,a3a,h0,h3,h4,b7x,hlt]
   refine a0e (c9h hS hg hlt2) rfl rfl ?_
   by_cases hgi:g=a2d[i]
   ·rw [if_pos hgi] at hc
    simp (disch:=omega) [go_sem,h4,<-hgi,<-hc]
   ·rw [if_neg hgi] at hc
    simp (disch:=omega) [go_sem,h0,h3,h4,hgi]
    exact hK (i+1) _ ⟨by simp (disch:=omega) [go_sem,h0],by simp (disch:=omega) [go_sem,h3],by simp (disch:=omega) [go_sem,h4],by omega,hc⟩ (by omega)
  ·obtain rfl:i=21:=by omega
   have:b3q g= -1:=by rw [<-hc]; rfl
   simp (disch:=omega) [go_sem,a3a,h3,h4,this]
abbrev fl (x:Int×Bool×Int):AV:=c1m x.1 x.2.1 x.2.2
def Er.flt:Er->Int×Bool×Int
 | .nil=>(0,false,0)
 | .s g=>(b3q g,false,0)
 | .at p (.s g)=>(b3q g,true,p)
 | _=>(-1,false,0)
inductive Er.ok:Er->Prop
 | nil:Er.ok .nil
 | s {g:Nat} (h:g < 21):Er.ok (.s g)
 | at {p:Int} {g:Nat} (h:g < 21):Er.ok (.at p (.s g))
theorem c6b:∀ g,g < 21->b3q g≠0:=by decide
theorem d35 (hS:Sent G bk) {e:Er} (he:e.ok):ACalls pg G b2r [a0t bk e] (fl e.flt):=by
 refine a9o rfl ?_
 cases he with
 | nil=>
  simp (disch:=omega) [go_sem,a3m,a0t]
  refine a0e (d2n G) rfl rfl ?_
  simp (disch:=omega) [go_sem,Er.flt]
 | s h=>
  simp (disch:=omega) [go_sem,a3m,a0t]
  refine a0e (b6j hS h) rfl rfl ?_
  simp (disch:=omega) [go_sem]
  refine a0e (d13 _) rfl rfl ?_
  simp (disch:=omega) [go_sem,Er.flt]
 | @«at» p g h=>
  simp (disch:=omega) [go_sem,a3m,a0t]
  refine a0b ?_
  simp (disch:=omega) [go_sem]
  refine a0y (b6j hS h) rfl rfl (by simp) [32] (by simp) (by simp (disch:=omega) [go_sem]) ?_
  simp (disch:=omega) [go_sem]
  refine a0y (d1d G _ _) (by split<;>rfl) (by split<;>rfl) (by simp) [37] (by simp) (by simp (disch:=omega) [go_sem]) ?_
  rw [if_neg (c6b g h)]
  simp (disch:=omega) [go_sem]
  refine a0d (by decide) fun s2 hs he=> ?_
  simp (disch:=omega) [go_sem,hs,Er.flt]
theorem c6r (e:Er):noRef (a0t bk e)=true/\a0n (a0t bk e)=true:=by
 cases e<;>simp [a0t,noRef,a0n]
theorem e57 (hS:Sent G bk) {e:Er} (he:e.ok) (f:Int×Bool×Int):ACalls pg G b3k [a0t bk e,fl f] (lb (decide (e.flt=f))):=by
 refine b0p rfl ?_
 have hf:=d35 (G:=G) (bk:=bk) hS he
 have goal:∀ x:Int×Bool×Int,(decide (x.1=f.1)&&(decide (x.2.1=f.2.1)&&decide (x.2.2=f.2.2)))=decide (x=f):=by
  rintro ⟨a,b,c⟩; obtain ⟨d,e,f⟩:=f; simp
 cases he with
 | _=>
  simp (disch:=omega) [go_sem,a76,a0t] at hf ⊢
  refine a0b ?_
  simp (disch:=omega) [go_sem]
  refine a0y hf rfl rfl (by simp) [6] (by simp) (by simp (disch:=omega) [go_sem]) ?_
  simp (disch:=omega) [go_sem]
  refine a0y (e58 G _ _ _ _ _ _) rfl rfl (by simp) [8] (by simp) (by simp (disch:=omega) [go_sem]) ?_
  simp (disch:=omega) [go_sem]
  refine a0d (by decide) fun s2 hs he=> ?_
  simp (disch:=omega) [go_sem,hs]
  exact goal _
end
section
variable {G:GG} {bk:Nat->Nat}
theorem c10 {α:Type} [Inhabited α] {xs ys:List α} (hl:xs.length=ys.length) (h:∀ i,i < xs.length->xs[i]! =ys[i]!):xs=ys:=by
 apply List.ext_getElem hl
 intro i h1 h2
 have:=h i h1
 simpa [h1,h2] using this
theorem b1w {a b:List Int} (ha:a.length < 2 ^ 62):ACalls pg G a89 [slI a,slI b] (lb (decide (a=b))):=by
 refine a7k rfl ?_
 by_cases hl:a.length=b.length
 ·have hl':(a.length:Int)=b.length:=by omega
  simp (disch:=omega) [go_sem,a3o,hl']
  refine a1c Nat (fun i st=>st.s 0=slI a/\st.s 1=slI b/\st.s 5=li i/\i<=a.length/\∀ j,j < i->a[j]! =b[j]!) (fun i=>a.length - i) 0 ?_ ?_
  ·exact ⟨by simp (disch:=omega) [go_sem,hl],by simp (disch:=omega) [go_sem],by simp (disch:=omega) [go_sem],by simp,fun j hj=>by omega⟩
  ·rintro i st K ⟨h0,h1,h5,hi,hc⟩ hK
   by_cases hlt:i < a.length
   ·have hlt2:i < b.length:=by omega
    simp (disch:=omega) [go_sem,a29,h0,h1,h5,hlt]
    refine a0b ?_
    simp (disch:=omega) [go_sem,h0,h1,h5]
    refine a0d (by decide) fun s2 hs he=> ?_
    by_cases he2:a[i]=b[i]
    ·simp (disch:=omega) [go_sem,hs,he2,h5]
     exact hK (i+1) _ ⟨by simp (disch:=omega) [go_sem,hs,h0],by simp (disch:=omega) [go_sem,hs,h1],by simp (disch:=omega) [go_sem],by omega,fun j hj=>by
      by_cases hji:j=i
      ·subst hji; simpa [hlt,hlt2] using he2
      ·exact hc j (by omega)⟩ (by omega)
    ·have:a≠b:=by rintro rfl; exact he2 rfl
     simp (disch:=omega) [go_sem,hs,he2,h5,this]
   ·have:a=b:=c10 hl fun j hj=>hc j (by omega)
    simp (disch:=omega) [go_sem,a29,h0,h5,hlt,this]
 ·have hl':¬ (a.length:Int)=b.length:=by omega
  have:a≠b:=by rintro rfl; exact hl rfl
  simp (disch:=omega) [go_sem,a3o,hl',this]
end
def c8w (n:Nat) (k:Int):Bool:=decide (k < 0)||decide ((n:Int)<=k)
def c5g (n:Nat):List (List Int)->Nat->Option Nat
 | [],_=>none
 | r::rs,k=>if r.any (c8w n) then some k else c5g n rs (k+1)
def a46 (done:List Bool):List (List Int)->Nat->Int->Int×Int
 | [],_,f=>(-1,f)
 | r::rs,k,f=>if done[k]! then a46 done rs (k+1) f else
  if r.all (fun x=>done[x.toNat]!) then (k,if f < 0 then k else f) else a46 done rs (k+1) (if f < 0 then k else f)
def a9t (ins:List (List Int)):Nat->List Bool->List Int->Except Int (List Int)
 | 0,_,out=> .ok out
 | f+1,done,out=>if (a46 done ins 0 (-1)).1 < 0 then .error (a46 done ins 0 (-1)).2 else a9t ins f (done.set (a46 done ins 0 (-1)).1.toNat true) (out++[(a46 done ins 0 (-1)).1])
def c2k (ins:List (List Int)):List Int×(Int×Bool×Int):=match c5g ins.length ins 0 with
 | some k=>([],(107,true,k))
 | none=>match a9t ins ins.length (List.replicate ins.length false) [] with
  | .error f=>([],(111,true,f))
  | .ok out=>(out,(0,false,0))
section
variable {G:GG} {bk:Nat->Nat×Nat} {Q:Exit->St->Prop} {st:St}
theorem b4n {done:List Bool}:∀ {rs:List (List Int)} {k:Nat} {f:Int},(a46 done rs k f).1= -1\/((k:Int)<=(a46 done rs k f).1/\(a46 done rs k f).1 < k+rs.length)
 | [],k,f=>by simp [a46]
 | r::rs,k,f=>by
  simp only [a46,List.length_cons]
  split
  ·rcases b4n (done:=done) (rs:=rs) (k:=k+1) (f:=f) with h | h
   ·exact .inl h
   ·exact .inr (by omega)
  ·split
   ·exact .inr (by simp only; omega)
   ·rcases b4n (done:=done) (rs:=rs) (k:=k+1) (f:=if f < 0 then k else f) with h | h
    ·exact .inl h
    ·exact .inr (by omega)
theorem b4m {n:Nat}:∀ {rs:List (List Int)} {k:Nat},c5g n rs k=none->inB n rs
 | [],k,h=>fun r hr=>by simp at hr
 | r::rs,k,h=>by
  simp only [c5g] at h
  split at h
  ·cases h
  ·rename_i hb
   intro x hx
   rcases List.mem_cons.1 hx with rfl | hx
   ·intro y hy
    have:c8w n y=false:=by
     simp only [List.any_eq_true,not_exists,not_and,Bool.not_eq_true] at hb
     exact hb y hy
    simp [c8w] at this
    omega
   ·exact b4m h x hx
end
theorem get!_set {α:Type} [Inhabited α] {l:List α} {i k:Nat} {v:α} (hi:i < l.length):(l.set i v)[k]! =if k=i then v else l[k]! :=by
 by_cases h:k=i
 ·subst h; simp [hi]
 ·simp only [h,if_false]
  by_cases hk:k < l.length
  ·simp [hk,Ne.symm h,List.getElem_set]
  ·simp [hk]
theorem get!_rep {α:Type} [Inhabited α] {n k:Nat} {v:α} (h:k < n):(List.replicate n v)[k]! =v:=by simp [h]
theorem get!_drop {α:Type} [Inhabited α] {l:List α} {i:Nat} (h:i < l.length):l.drop i=l[i]! ::l.drop (i+1):=by
 rw [List.drop_eq_getElem_cons h]; simp [h]
theorem a7u {n i:Nat}:∀ {row:List Int} {u:List (List Int)} {l:List Int},a1e n i row u l=none↔row.any (c8w n)=true
 | [],u,l=>by simp [a1e]
 | k::ks,u,l=>by
  rw [a1e,List.any_cons]
  by_cases hb:k < 0\/(n:Int)<=k
  ·rw [if_pos hb]
   have:c8w n k=true:=by simp only [c8w,Bool.or_eq_true,decide_eq_true_eq]; exact hb
   simp [this]
  ·rw [if_neg hb,a7u]
   have:c8w n k=false:=by simp only [c8w,Bool.or_eq_false_iff,decide_eq_false_iff_not]; omega
   simp [this]
theorem c29 {n:Nat}:∀ {rs:List (List Int)} {i:Nat} {u:List (List Int)} {l:List Int},(∀ k,c5g n rs i=some k->a6o n rs i u l= .error k)/\(c5g n rs i=none->∃ p,a6o n rs i u l= .ok p)
 | [],i,u,l=>⟨fun k h=>by simp [c5g] at h,fun _=>⟨_,rfl⟩⟩
 | r::rs,i,u,l=>by
  rw [c5g,a6o]
  by_cases hb:r.any (c8w n)=true
  ·rw [if_pos hb,a7u.2 hb]
   exact ⟨fun k h=>by injection h with h; rw [h],fun h=>by cases h⟩
  ·rw [if_neg hb]
   cases hf:a1e n i r u l with
   | none=>exact absurd (a7u.1 hf) hb
   | some p=>exact c29
theorem b3y {n i:Nat} (hi:i < n):∀ {row:List Int} {u u':List (List Int)} {l l':List Int},a1e n i row u l=some (u',l')->u.length=n->l.length=n->0<=l[i]! ->l[i]! +row.length < 2 ^ 62->
  u'.length=n/\l'.length=n/\(∀ k,k < n->∀ j:Int,(u'[k]!).count j=(u[k]!).count j+if j=i then row.count (k:Int) else 0)/\∀ k,k < n->l'[k]! =l[k]! +if k=i then (row.length:Int) else 0
 | [],u,u',l,l',h,hu,hl,h0,h1=>by
  simp only [a1e,Option.some.injEq,Prod.mk.injEq] at h
  obtain ⟨rfl,rfl⟩:=h
  exact ⟨hu,hl,fun k hk j=>by simp,fun k hk=>by simp⟩
 | x::xs,u,u',l,l',h,hu,hl,h0,h1=>by
  rw [a1e] at h
  split at h
  ·cases h
  ·rename_i hb
   simp only [List.length_cons] at h1
   have hw:wr (l[i]! +1)=l[i]! +1:=a8g (by omega)
   rw [hw] at h
   have hx:x.toNat < u.length:=by omega
   have hli:(l.set i (l[i]! +1))[i]! =l[i]! +1:=by rw [get!_set (by omega)]; simp
   obtain ⟨g1,g2,g3,g4⟩:=b3y hi h (by simpa using hu) (by simpa using hl) (by rw [hli]; omega) (by rw [hli]; omega)
   refine ⟨g1,g2,fun k hk j=> ?_,fun k hk=> ?_⟩
   ·rw [g3 k hk j,get!_set hx]
    by_cases hkx:k=x.toNat
    ·subst hkx
     have:(x.toNat:Int)=x:=by omega
     simp only [if_true,List.count_append,this,List.count_cons,List.count_nil]
     by_cases hj:j=i
     ·subst hj; simp; omega
     ·have:¬ ((i:Int)=j):=fun h=>hj h.symm
      simp [hj,this]
    ·have:¬ (x=(k:Int)):=by omega
     simp only [hkx,if_false,List.count_cons,beq_iff_eq,this,Nat.add_zero]
   ·rw [g4 k hk,get!_set (by omega)]
    by_cases hki:k=i
    ·subst hki; simp; omega
    ·simp [hki]
theorem c3a {n:Nat}:∀ {rs:List (List Int)} {i:Nat} {u u':List (List Int)} {l l':List Int},a6o n rs i u l= .ok (u',l')->i+rs.length=n->u.length=n->l.length=n->(∀ k,k < n->0<=l[k]!)->(∀ k,k < n->i<=k->l[k]! =0)->(∀ r∈rs,r.length < 2 ^ 61)->
  (∀ k,k < n->∀ j:Nat,j < n->(u'[k]!).count (j:Int)=(u[k]!).count (j:Int)+if i<=j then (rs[j - i]!).count (k:Int) else 0)/\∀ k,k < n->l'[k]! =l[k]! +if i<=k then ((rs[k - i]!).length:Int) else 0
 | [],i,u,u',l,l',h,hi,hu,hl,h0,h1,hr=>by
  simp only [a6o,Except.ok.injEq,Prod.mk.injEq] at h
  obtain ⟨rfl,rfl⟩:=h
  simp only [List.length_nil,Nat.add_zero] at hi
  subst hi
  exact ⟨fun k hk j hj=>by rw [if_neg (by omega)]; rfl,fun k hk=>by rw [if_neg (by omega)]; simp⟩
 | r::rs,i,u,u',l,l',h,hi,hu,hl,h0,h1,hr=>by
  rw [a6o] at h
  simp only [List.length_cons] at hi
  have hin:i < n:=by omega
  cases hf:a1e n i r u l with
  | none=>rw [hf] at h; cases h
  | some p=>
   obtain ⟨u1,l1⟩:=p
   rw [hf] at h
   simp only at h
   have hrl:=hr r (by simp)
   obtain ⟨g1,g2,g3,g4⟩:=b3y hin hf hu hl (h0 i hin) (by rw [h1 i hin (Nat.le_refl _)]; omega)
   obtain ⟨k1,k2⟩:=c3a h (by omega) g1 g2 (fun k hk=>by rw [g4 k hk]; have:=h0 k hk; split<;>omega) (fun k hk hik=>by rw [g4 k hk,if_neg (by omega),h1 k hk (by omega)]; rfl) (fun x hx=>hr x (by simp [hx]))
   refine ⟨fun k hk j hj=> ?_,fun k hk=> ?_⟩
   ·rw [k1 k hk j hj,g3 k hk]
    rcases Nat.lt_trichotomy j i with hji | hji | hji
    ·rw [if_neg (by omega),if_neg (by omega),if_neg (by omega)]
    ·subst hji; rw [if_pos rfl,if_neg (by omega),if_pos (Nat.le_refl _)]; simp
    ·have e:j - i=(j - (i+1))+1:=by omega
     rw [if_neg (by omega),if_pos (by omega),if_pos (by omega),e]
     simp
   ·rw [k2 k hk,g4 k hk]
    rcases Nat.lt_trichotomy k i with hji | hji | hji
    ·rw [if_neg (by omega),if_neg (by omega),if_neg (by omega)]; omega
    ·subst hji; rw [if_pos rfl,if_neg (by omega),if_pos (Nat.le_refl _)]; simp
    ·have e:k - i=(k - (i+1))+1:=by omega
     rw [if_neg (by omega),if_pos (by omega),if_pos (by omega),e]
     simp
theorem c6i {n:Nat}:∀ {ks l:List Int},l.length=n->(∀ k∈ks,0<=k/\k < (n:Int))->(∀ k,k < n->(ks.count (k:Int):Int)<=l[k]! /\l[k]! < 2 ^ 62)->∀ k,k < n->(c2b ks l)[k]! =l[k]! - ks.count (k:Int)
 | [],l,hl,hk,hb,k,hkn=>by simp [c2b]
 | x::xs,l,hl,hk,hb,k,hkn=>by
  obtain ⟨h1,h2⟩:=hk x (by simp)
  have hx:x.toNat < l.length:=by omega
  have e:(x.toNat:Int)=x:=by omega
  have hbx:=hb x.toNat (by omega)
  rw [e] at hbx
  simp only [List.count_cons_self] at hbx
  have hw:wr (l[x.toNat]! - 1)=l[x.toNat]! - 1:=a8g (by omega)
  rw [c2b,hw,c6i (n:=n) (by simpa using hl) (fun k hk'=>hk k (by simp [hk'])) (fun k hkn=> ?_) k hkn,get!_set hx]
  ·by_cases hkx:k=x.toNat
   ·subst hkx; rw [if_pos rfl,e,List.count_cons_self]; omega
   ·have:¬ (x=(k:Int)):=by omega
    simp only [hkx,if_false,List.count_cons,beq_iff_eq,this,Nat.add_zero]
  ·rw [get!_set hx]
   have:=hb k hkn
   by_cases hkx:k=x.toNat
   ·subst hkx; rw [e] at this ⊢; rw [if_pos rfl]; simp only [List.count_cons_self] at this; omega
   ·have hne:¬ (x=(k:Int)):=by omega
    simp only [hkx,if_false]
    simp only [List.count_cons,beq_iff_eq,hne,if_false,Nat.add_zero] at this
    exact this
def cnt (done:List Bool) (row:List Int):Nat:=row.countP fun x=> !done[x.toNat]!
theorem c6a {done:List Bool} {i:Nat} (hi:i < done.length) (hd:done[i]! =false):∀ {row:List Int},(∀ x∈row,0<=x/\x < (done.length:Int))->cnt (done.set i true) row+row.count (i:Int)=cnt done row
 | [],_=>by simp [cnt]
 | x::xs,h=>by
  have ih:=c6a hi hd (row:=xs) (fun y hy=>h y (by simp [hy]))
  simp only [cnt] at ih ⊢
  rw [List.countP_cons,List.countP_cons,List.count_cons,get!_set hi]
  have:=(h x (by simp)).1
  by_cases hx:x.toNat=i
  ·have:x=(i:Int):=by omega
   subst this
   simp [hd] at ih ⊢
   omega
  ·have:¬ (x=(i:Int)):=by omega
   simp only [hx,if_false,beq_iff_eq,this,Nat.add_zero]
   omega
theorem c22 {done:List Bool} {row:List Int}:cnt done row=0↔row.all (fun x=>done[x.toNat]!)=true:=by
 simp only [cnt,List.countP_eq_zero,List.all_eq_true,Bool.not_eq_true',Bool.not_eq_false]
structure J (ins u:List (List Int)) (done:List Bool) (left:List Int):Prop where
 hd:done.length=ins.length
 hl:left.length=ins.length
 left:∀ k,k < ins.length->left[k]! =cnt done ins[k]!
structure U (ins u:List (List Int)):Prop where
 inb:inB ins.length ins
 len:∀ r∈ins,r.length < 2 ^ 61
 cnt:∀ k,k < ins.length->∀ j,j < ins.length->(u[k]!).count (j:Int)=(ins[j]!).count (k:Int)
 ub:∀ k,k < ins.length->∀ x∈u[k]!,0<=x/\x < (ins.length:Int)
theorem e0s {done:List Bool} {row:List Int}:cnt done row<=row.length:=List.countP_le_length
theorem J.step {ins u:List (List Int)} {done:List Bool} {left:List Int} (hU:U ins u) (h:J ins u done left) {i:Nat} (hi:i < ins.length) (hdi:done[i]! =false):J ins u (done.set i true) (c2b u[i]! left) where
 hd:=by simpa using h.hd
 hl:=by rw [b7k]; exact h.hl
 left k hk:=by
  have hrow:∀ k,k < ins.length->ins[k]! ∈ins:=fun k hk=>by simp [hk]
  have hset:∀ k,k < ins.length->cnt (done.set i true) ins[k]! +(ins[k]!).count (i:Int)=cnt done ins[k]! :=fun k hk=>c6a (by rw [h.hd]; exact hi) hdi (fun x hx=>by rw [h.hd]; exact hU.inb _ (hrow k hk) x hx)
  rw [c6i h.hl (hU.ub i hi) (fun k hk=> ?_) k hk,h.left k hk,hU.cnt i hi k hk]
  ·have:=hset k hk
   omega
  ·rw [h.left k hk,hU.cnt i hi k hk]
   have:=hset k hk
   have h2:=e0s (done:=done) (row:=ins[k]!)
   have h3:=hU.len _ (hrow k hk)
   omega
theorem b4l {ins u:List (List Int)} {done:List Bool} {left:List Int} (hJ:J ins u done left):∀ (m i:Nat) (f:Int),i+m=ins.length->
  (∀ k,a6q (done.drop i) (left.drop i) i=some k->(a46 done (ins.drop i) i f).1=k)/\(a6q (done.drop i) (left.drop i) i=none->a46 done (ins.drop i) i f=(-1,if f < 0/\0<=a2u false (done.drop i) i then a2u false (done.drop i) i else f))
 | 0,i,f,h=>by
  have h1:=hJ.hd
  have h2:=hJ.hl
  have d1:done.drop i=[]:=List.drop_eq_nil_of_le (by omega)
  have d2:left.drop i=[]:=List.drop_eq_nil_of_le (by omega)
  have d3:ins.drop i=[]:=List.drop_eq_nil_of_le (by omega)
  rw [d1,d2,d3]
  simp [a6q,a46,a2u]
 | m+1,i,f,h=>by
  have h1:=hJ.hd
  have h2:=hJ.hl
  have hi:i < ins.length:=by omega
  have e1:done.drop i=done[i]! ::done.drop (i+1):=get!_drop (by omega)
  have e2:left.drop i=left[i]! ::left.drop (i+1):=get!_drop (by omega)
  have e3:ins.drop i=ins[i]! ::ins.drop (i+1):=get!_drop hi
  have e4:a2u false (done[i]! ::done.drop (i+1)) i=if false=done[i]! then (i:Int) else a2u false (done.drop (i+1)) (i+1):=rfl
  rw [e1,e2,e3,e4,a6q,a46]
  by_cases hd:done[i]! =true
  ·rw [if_pos (.inl hd),if_pos hd,if_neg (show ¬ false=done[i]! by rw [hd]; simp)]
   exact b4l hJ m (i+1) f (by omega)
  ·have hd':done[i]! =false:=by simpa using hd
   have hdi:false=done[i]! :=hd'.symm
   rw [if_neg hd,if_pos hdi]
   have hl:=hJ.left i hi
   by_cases hc:cnt done ins[i]! =0
   ·rw [if_neg (by rintro (h | h); exact hd h; rw [hl,hc] at h; simp at h),if_pos (c22.1 hc)]
    exact ⟨fun k hk=>by injection hk with hk; subst hk; rfl,fun hk=>by cases hk⟩
   ·rw [if_pos (.inr (by rw [hl]; omega)),if_neg (fun h=>hc (c22.2 h))]
    obtain ⟨g1,g2⟩:=b4l hJ m (i+1) (if f < 0 then (i:Int) else f) (by omega)
    refine ⟨g1,fun hk=> ?_⟩
    rw [g2 hk]
    congr 1
    by_cases hf:f < 0
    ·rw [if_pos hf,if_neg (by omega),if_pos ⟨hf,by omega⟩]
    ·rw [if_neg hf,if_neg (by omega),if_neg (by omega)]
theorem a9g:∀ {l:List Bool} {i:Nat},(l.count false=0↔a2u false l i= -1)/\(l.count false≠0->0<=a2u false l i)
 | [],i=>by simp [a2u]
 | b::l,i=>by
  rw [a2u]
  cases b with
  | false=>rw [if_pos rfl]; simp
  | true=>rw [if_neg (by simp)]; simpa using a9g (l:=l) (i:=i+1)
theorem b9o {ins u:List (List Int)} (hU:U ins u):∀ (f:Nat) {done:List Bool} {left out:List Int},J ins u done left->done.count false=f->
  a9t ins f done out=if 0<=a2u false (a6p u f done left out).1 0 then .error (a2u false (a6p u f done left out).1 0) else .ok (a6p u f done left out).2
 | 0,done,left,out,hJ,hc=>by
  rw [a9t,a6p]
  simp only
  rw [(a9g (l:=done) (i:=0)).1.1 hc]
  simp
 | f+1,done,left,out,hJ,hc=>by
  obtain ⟨g1,g2⟩:=b4l hJ ins.length 0 (-1) (by omega)
  simp only [List.drop_zero] at g1 g2
  have hidx:=(a9g (l:=done) (i:=0)).2 (by omega)
  rw [a9t,a6p]
  cases hp:a6q done left 0 with
  | none=>
   rw [g2 hp]
   simp [hidx]
  | some i=>
   obtain ⟨_,hi,hdi⟩:=b7l hp
   simp only [Nat.sub_zero] at hi hdi
   have hcnt:=b9u hp
   rw [g1 i hp,if_neg (by omega)]
   simp only [Int.toNat_natCast]
   have hin:i < ins.length:=by rw [<-hJ.hd]; exact hi
   exact b9o hU f (hJ.step hU hin (by simpa [hi] using hdi)) (by omega)
theorem a9j {n i:Nat}:∀ {row:List Int} {u u':List (List Int)} {l l':List Int},a1e n i row u l=some (u',l')->u'.length=u.length/\l'.length=l.length
 | [],u,u',l,l',h=>by
  simp only [a1e,Option.some.injEq,Prod.mk.injEq] at h
  obtain ⟨rfl,rfl⟩:=h
  exact ⟨rfl,rfl⟩
 | x::xs,u,u',l,l',h=>by
  rw [a1e] at h
  split at h
  ·cases h
  ·obtain ⟨h1,h2⟩:=a9j h
   exact ⟨by simpa using h1,by simpa using h2⟩
theorem b66 {n:Nat}:∀ {rs:List (List Int)} {i:Nat} {u u':List (List Int)} {l l':List Int},a6o n rs i u l= .ok (u',l')->u.length=n->l.length=n->u'.length=n/\l'.length=n
 | [],i,u,u',l,l',h,hu,hl=>by
  simp only [a6o,Except.ok.injEq,Prod.mk.injEq] at h
  obtain ⟨rfl,rfl⟩:=h
  exact ⟨hu,hl⟩
 | r::rs,i,u,u',l,l',h,hu,hl=>by
  rw [a6o] at h
  cases hf:a1e n i r u l with
  | none=>rw [hf] at h; cases h
  | some p=>
   rw [hf] at h
   obtain ⟨h1,h2⟩:=a9j hf
   exact b66 h (h1.trans hu) (h2.trans hl)
theorem b5x {n i:Nat} (hi:i < n):∀ {row:List Int} {u u':List (List Int)} {l l':List Int},a1e n i row u l=some (u',l')->inB n u->inB n u'
 | [],u,u',l,l',h,hu=>by
  simp only [a1e,Option.some.injEq,Prod.mk.injEq] at h
  obtain ⟨rfl,rfl⟩:=h
  exact hu
 | x::xs,u,u',l,l',h,hu=>by
  rw [a1e] at h
  split at h
  ·cases h
  ·refine b5x hi h (c67 hu fun k hk=> ?_)
   rcases List.mem_append.1 hk with hk | hk
   ·by_cases hx:x.toNat < u.length
    ·simp [hx] at hk; exact hu _ (List.getElem_mem hx) k hk
    ·simp [hx] at hk
     have e:(default:List Int)=[]:=rfl
     rw [e] at hk
     simp at hk
   ·simp at hk; omega
theorem c6y {n:Nat}:∀ {rs:List (List Int)} {i:Nat} {u u':List (List Int)} {l l':List Int},a6o n rs i u l= .ok (u',l')->i+rs.length=n->u.length=n->l.length=n->inB n u->inB n u'
 | [],i,u,u',l,l',h,hi,hu,hl,hin=>by
  simp only [a6o,Except.ok.injEq,Prod.mk.injEq] at h
  obtain ⟨rfl,rfl⟩:=h
  exact hin
 | r::rs,i,u,u',l,l',h,hi,hu,hl,hin=>by
  rw [a6o] at h
  simp only [List.length_cons] at hi
  cases hf:a1e n i r u l with
  | none=>rw [hf] at h; cases h
  | some p=>
   rw [hf] at h
   obtain ⟨h1,h2⟩:=a9j hf
   exact c6y h (by omega) (h1.trans hu) (h2.trans hl) (b5x (by omega) hf hin)
theorem b1x {ins:List (List Int)} (hr:∀ r∈ins,r.length < 2 ^ 61):(∀ i g,a9r ins= .error (i,g)->c2k ins=([],(b3q g,true,i))/\g < 21)/\(∀ out,a9r ins= .ok out->c2k ins=(out,(0,false,0))):=by
 unfold a9r c2k
 obtain ⟨b1,b2⟩:=c29 (n:=ins.length) (rs:=ins) (i:=0) (u:=List.replicate ins.length []) (l:=List.replicate ins.length 0)
 cases hb:c5g ins.length ins 0 with
 | some k=>
  rw [b1 k hb]
  refine ⟨fun i g h=> ?_,fun out h=>by cases h⟩
  simp only [Except.error.injEq,Prod.mk.injEq] at h
  obtain ⟨rfl,rfl⟩:=h
  exact ⟨rfl,by omega⟩
 | none=>
  obtain ⟨⟨u,l⟩,hp⟩:=b2 hb
  rw [hp]
  have hin:=b4m hb
  obtain ⟨c1,c2⟩:=c3a hp (by simp) (by simp) (by simp) (fun k hk=>by rw [get!_rep hk]; omega) (fun k hk _=>get!_rep hk) hr
  have hU:U ins u:={
   inb:=hin,len:=hr
   cnt:=fun k hk j hj=>by rw [c1 k hk j hj,get!_rep hk]; simp
   ub:=fun k hk x hx=>c6y hp (by simp) (by simp) (by simp) (fun r hr=>by rw [List.eq_of_mem_replicate hr]; simp) _ (by
    have:=(b66 hp (by simp) (by simp)).1
    simp [this,hk]) x hx }
  have hJ:J ins u (List.replicate ins.length false) l:={
   hd:=by simp,hl:=(b66 hp (by simp) (by simp)).2
   left:=fun k hk=>by
    rw [c2 k hk,get!_rep hk]
    simp only [Nat.zero_le,if_true,Nat.sub_zero,Int.zero_add,cnt]
    congr 1
    symm
    rw [List.countP_eq_length]
    intro x hx
    have:=hin _ (show ins[k]! ∈ins by simp [hk]) x hx
    rw [get!_rep (by omega)]; rfl }
  have:=b9o hU ins.length (out:=[]) hJ (by simp)
  simp only at this ⊢
  rw [this]
  by_cases h0:0<=a2u false (a6p u ins.length (List.replicate ins.length false) l []).1 0
  ·rw [if_pos h0,if_pos h0]
   refine ⟨fun i g h=> ?_,fun out h=>by cases h⟩
   simp only [Except.error.injEq,Prod.mk.injEq] at h
   obtain ⟨rfl,rfl⟩:=h
   exact ⟨rfl,by omega⟩
  ·rw [if_neg h0,if_neg h0]
   refine ⟨fun i g h=>(by cases h),fun out h=> ?_⟩
   simp only [Except.ok.injEq] at h
   subst h
   rfl
def sp (t:Nat):List (List Int)->Nat->List Int
 | [],_=>[]
 | r::rs,i=>(if (t:Int)∈r then [(i:Int)] else [])++sp t rs (i+1)
def a5j:IC:=(.seq (.reg [oo 2 (.box 26 2 (.t 0)),
 oo 3 (.box 26 2 (.t 1)),
 oo 4 (.asg (.c (.bool false)))]) (.seq (.reg [oo 6 (.faddr 26 0 (.t 2) 0),
 oo 7 (.load 22 none (.t 6)),
 oo 8 (.faddr 26 0 (.t 3) 0),
 oo 9 (.load 22 none (.t 8)),
 oc 10 7 [(false,(.t 7)),(false,(.t 9))] [22,22],
 oo 5 (.asg (.t 10))]) (.seq (.reg [om 11 5,
 om 12 11,
 og 13 (.faddr 26 1 (.t 2) 1) 1 12 true,
 og 14 (.load 4 none (.t 13)) 1 12 true,
 og 15 (.faddr 26 1 (.t 3) 1) 1 12 true,
 og 16 (.load 4 none (.t 15)) 1 12 true,
 og 17 (.bin .eql 4 1 (.t 14) (.t 16) 4) 1 12 true,
 oo 18 (.pick (.t 12) (.t 17) (.c (.bool false))),
 oo 4 (.asg (.t 18))]) .ret)))
abbrev a88:Nat:=15
theorem a7j:fnC pg 15 19 [(.tmp 4)] a5j:=a0w Go.Proofs.Tryz.f15 [(.tmp 4)] (by kernel_rfl)
@[go_sem] theorem b9k:fnB pg 15=true:=by kernel_rfl
def a4t:IC:=(.seq (.reg [oo 2 (.box 28 3 (.t 0)),
 oo 3 (.box 28 3 (.t 1)),
 oo 4 (.asg (.c (.bool false)))]) (.seq (.reg [oo 7 (.faddr 28 0 (.t 2) 0),
 oo 8 (.load 26 (some 2) (.t 7)),
 oo 9 (.faddr 28 0 (.t 3) 0),
 oo 10 (.load 26 (some 2) (.t 9)),
 oc 11 15 [(false,(.t 8)),(false,(.t 10))] [26,26],
 oo 5 (.asg (.t 11))]) (.seq (.reg [oo 12 (.faddr 28 2 (.t 2) 1),
 oo 13 (.load 22 none (.t 12)),
 oo 14 (.faddr 28 2 (.t 3) 1),
 oo 15 (.load 22 none (.t 14)),
 oc 16 7 [(false,(.t 13)),(false,(.t 15))] [22,22],
 oo 6 (.asg (.t 16))]) (.seq (.reg [om 17 5,
 om 18 17,
 og 19 (.mv (.t 6)) 1 18 true,
 oo 20 (.pick (.t 18) (.t 19) (.c (.bool false))),
 oo 4 (.asg (.t 20))]) .ret))))
abbrev a7o:Nat:=10
theorem a6l:fnC pg 10 21 [(.tmp 4)] a4t:=a0w Go.Proofs.Tryz.f10 [(.tmp 4)] (by kernel_rfl)
@[go_sem] theorem b7j:fnB pg 10=true:=by kernel_rfl
def a6m:IC:=(.seq (.reg [oo 1 (.box 28 3 (.t 0)),
 oo 2 (.alloc 28 [.own 1 0 [],.lit (.bool false),.own 1 0 []])]) (.seq (.draw [oo 3 (.faddr 28 0 (.t 1) 0),
 oo 4 (.load 26 (some 2) (.t 3)),
 oc 5 20 [(false,(.t 4))] [26],
 oo 6 (.faddr 28 2 (.t 1) 1),
 oo 7 (.load 22 none (.t 6)),
 oc 8 21 [(false,(.t 7))] [22],
 oo 9 (.build 28 [.own 1 0 [],.lit (.bool false),.own 1 0 []] [(0,0,2,(.t 5)),(1,2,1,(.t 8))]),
 ov (.store 28 3 (.t 2) (.t 9))] [[],[0],[1],[],[3],[4,2],[2,5],[6,5,0,1,2,3,4,5,6]]) .ret))
abbrev b1a:Nat:=12
theorem a8v:fnC pg 12 10 [(.cells 2 3)] a6m:=a0w Go.Proofs.Tryz.f12 [(.cell 2 28)] (by kernel_rfl)
@[go_sem] theorem c13:fnB pg 12=true:=by kernel_rfl
def a72:IC:=(.seq (.reg [oo 1 (.box 26 2 (.t 0)),
 oo 2 (.alloc 26 [.own 1 0 [],.lit (.bool false)])]) (.seq (.draw [oo 3 (.faddr 26 0 (.t 1) 0),
 oo 4 (.load 22 none (.t 3)),
 oc 5 21 [(false,(.t 4))] [22],
 oo 6 (.faddr 26 1 (.t 1) 1),
 oo 7 (.load 4 none (.t 6)),
 oo 8 (.build 26 [.own 1 0 [],.lit (.bool false)] [(0,0,1,(.t 5)),(1,1,1,(.t 7))]),
 ov (.store 26 2 (.t 2) (.t 8))] [[],[0],[1],[],[3],[2,4],[5,2,0,1,2,3,4,5]]) .ret))
abbrev b3h:Nat:=20
theorem b0l:fnC pg 20 9 [(.cells 2 2)] a72:=a0w Go.Proofs.Tryz.f20 [(.cell 2 26)] (by kernel_rfl)
@[go_sem] theorem c4y:fnB pg 20=true:=by kernel_rfl
def a56 (k:Int):Bool:=decide (1<=k/\k<=256)
def a69:List Int->Int->Int
 | [],n=>n
 | k::ks,n=>a69 ks (n*k)
def a1a (sh:List Int):Er:=if 4 < sh.length then .s 2 else if sh.all a56=true then (if 16384 < a69 sh 1 then .s 2 else .nil) else .s 3
def c3v (sh:List Int):Bool:=decide (sh.length<=4)&&sh.all a56&&decide (a69 sh 1<=16384)
def a2w (sh:List Int):Int:=if c3v sh=true then a69 sh 1 else 0
theorem b3a:∀ {ks:List Int} {n:Int},ks.all a56=true->0<=n->n<=a69 ks n
 | [],n,_,_=>Int.le_refl _
 | k::ks,n,h,hn=>by
  simp only [List.all_cons,Bool.and_eq_true] at h
  obtain ⟨ha,hb⟩:=h
  simp only [a56,decide_eq_true_eq] at ha
  have h1:n*1<=n*k:=Int.mul_le_mul_of_nonneg_left ha.1 hn
  exact Int.le_trans (b:=n*k) (by omega) (b3a (ks:=ks) (n:=n*k) hb (by omega))
theorem a8m {sh:List Int}:a1a sh= .nil↔c3v sh=true:=by
 unfold a1a c3v
 by_cases h1:4 < sh.length
 ·have:¬ sh.length<=4:=by omega
  simp [h1,this]
 ·have h1':sh.length<=4:=by omega
  by_cases h2:sh.all a56=true
  ·by_cases h3:16384 < a69 sh 1
   ·have:¬ a69 sh 1<=16384:=by omega
    simp [h1,h2,h3,this]
   ·have:a69 sh 1<=16384:=by omega
    simp [h1,h1',h2,h3,this]
  ·simp [h1,h2]
theorem a5g (sh:List Int):a1a sh= .nil\/a1a sh= .s 2\/a1a sh= .s 3:=by
 unfold a1a
 split
 ·simp
 ·split
  ·split<;>simp
  ·simp
@[go_sem] theorem a0o {bk:Nat->Nat×Nat} (e:Er):noRef (a0t bk e)=true:=(c6r e).1
@[go_sem] theorem d67 {bk:Nat->Nat×Nat} (e:Er):a0n (a0t bk e)=true:=(c6r e).2
section
variable {G:GG} {bk:Nat->Nat×Nat} {Q:Exit->St->Prop} {st:St}
theorem d1t (hS:Sent3 G bk) {sh:List Int} {w:Bool} (hl:sh.length<=4) (h:st.s 1= .var [slI sh,lb w]/\st.s 14=slI sh/\st.s 15=li sh.length/\st.s 16=li 0/\st.s 3=li 1)
  (hex:sh.all a56=true->∀ s,s.s 1= .var [slI sh,lb w]/\s.s 3=li 1->Q (.exit 0) s) (hret:sh.all a56=false->∀ s,s.s 2=sv bk 3->Q .ret s):AW pg G 42 (.loop a2q) Q st:=by
 refine a1c Nat (fun i st=>i<=sh.length/\(sh.drop i).all a56=sh.all a56/\st.s 1= .var [slI sh,lb w]/\st.s 14=slI sh/\st.s 15=li sh.length/\st.s 16=li i/\st.s 3=li 1) (fun i=>sh.length - i) 0 ⟨by simp,rfl,h⟩ ?_
 clear h
 rintro i st K ⟨hi,hm,h⟩ hK
 by_cases hlt:i < sh.length
 ·rw [List.drop_eq_getElem_cons hlt,List.all_cons] at hm
  by_cases k1:sh[i] < 1
  ·have d:a56 sh[i]=false:=by simp [a56]; omega
   rw [d] at hm
   simp (disch:=omega) [go_sem,a2q,h,hlt,k1,hS.val]
   exact hret hm.symm _ (by simp (disch:=omega) [go_sem])
  ·by_cases k2:256 < sh[i]
   ·have d:a56 sh[i]=false:=by simp [a56]; omega
    rw [d] at hm
    simp (disch:=omega) [go_sem,a2q,h,hlt,k1,k2,hS.val]
    exact hret hm.symm _ (by simp (disch:=omega) [go_sem])
   ·have d:a56 sh[i]=true:=by simp [a56]; omega
    rw [d] at hm
    simp (disch:=omega) [go_sem,a2q,h,hlt,k1,k2,hS.val]
    exact hK (i+1) _ ⟨by omega,hm,by simp (disch:=omega) [go_sem,h]⟩ (by omega)
 ·obtain rfl:i=sh.length:=by omega
  rw [List.drop_length] at hm
  simp (disch:=omega) [go_sem,a2q,h]
  exact hex hm.symm _ (by simp (disch:=omega) [go_sem,h])
theorem d1u (hS:Sent3 G bk) {sh:List Int} (hl:sh.length<=4) (hd:sh.all a56=true) (h:st.s 29=slI sh/\st.s 30=li sh.length/\st.s 31=li 0/\st.s 3=li 1)
  (hex:a69 sh 1<=16384->∀ s,Q (.exit 2) s) (hret:16384 < a69 sh 1->∀ s,s.s 2=sv bk 2->Q .ret s):AW pg G 42 (.loop a3i) Q st:=by
 refine a1c (Nat×Int) (fun p st=>p.1<=sh.length/\a69 (sh.drop p.1) p.2=a69 sh 1/\1<=p.2/\p.2<=16384/\(sh.drop p.1).all a56=true/\st.s 29=slI sh/\st.s 30=li sh.length/\st.s 31=li p.1/\st.s 3=li p.2) (fun p=>sh.length - p.1) (0,1) ⟨by simp,rfl,by simp,by simp,by simpa using hd,h⟩ ?_
 clear h
 rintro ⟨i,n⟩ st K ⟨hi,hm,hn1,hn2,ha,h⟩ hK
 simp only at hi hm hn1 hn2 ha h
 by_cases hlt:i < sh.length
 ·rw [List.drop_eq_getElem_cons hlt] at hm ha
  simp only [List.all_cons,Bool.and_eq_true] at ha
  have hd1:=ha.1
  simp only [a56,decide_eq_true_eq] at hd1
  simp only [a69] at hm
  have b1:n*1<=n*sh[i]:=Int.mul_le_mul_of_nonneg_left hd1.1 (by omega)
  have b2:n*sh[i]<=16384*256:=Int.mul_le_mul hn2 hd1.2 (by omega) (by omega)
  by_cases k:16384 < n*sh[i]
  ·have g:=b3a ha.2 (show 0<=n*sh[i] by omega)
   simp (disch:=omega) [go_sem,a3i,h,hlt,k,hS.val]
   exact hret (by omega) _ (by simp (disch:=omega) [go_sem])
  ·simp (disch:=omega) [go_sem,a3i,h,hlt,k,hS.val]
   exact hK (i+1,n*sh[i]) _ ⟨by simp only; omega,hm,by simp only; omega,by simp only; omega,ha.2,by simp (disch:=omega) [go_sem,h]⟩ (by simp only; omega)
 ·obtain rfl:i=sh.length:=by omega
  rw [List.drop_length,a69] at hm
  simp (disch:=omega) [go_sem,a3i,h]
  exact hex (by omega) _
theorem a04 (hS:Sent3 G bk) (sh:List Int) (w:Bool) (hlen:sh.length < 2 ^ 62):ACalls pg G b6s [.agg [slI sh,lb w]] (a0t bk (a1a sh)):=by
 refine b21 rfl ?_
 by_cases h4:4 < sh.length
 ·have h4':(4:Int) < sh.length:=by omega
  simp (disch:=omega) [go_sem,a7b,h4',a1a,h4,hS.val,a0t]
 ·have h4':¬ (4:Int) < sh.length:=by omega
  simp (disch:=omega) [go_sem,a7b,h4',hS.val]
  refine d1t (sh:=sh) (w:=w) hS (by omega) (by simp (disch:=omega) [go_sem]) (fun hd s h=> ?_) (fun hd s h=>by simp (disch:=omega) [go_sem,h,a1a,h4,hd,a0t])
  simp (disch:=omega) [go_sem,h]
  refine d1u (sh:=sh) hS (by omega) hd (by simp (disch:=omega) [go_sem,h]) (fun hp s=> ?_) (fun hp s h=>by simp (disch:=omega) [go_sem,h,a1a,h4,hd,hp,a0t])
  have hp':¬ 16384 < a69 sh 1:=by omega
  simp (disch:=omega) [go_sem,a1a,h4,hd,hp',a0t]
theorem d34 (hS:Sent3 G bk) (sh:List Int) (hlen:sh.length < 2 ^ 62):ACalls pg G b8l [slI sh] (lb (c3v sh)):=by
 refine b4t rfl ?_
 simp (disch:=omega) [go_sem,b2m]
 have hv:=a04 (G:=G) hS sh false hlen
 rcases a5g sh with e | e | e<;>rw [e] at hv<;>simp only [a0t] at hv
 ·refine a0e hv rfl rfl ?_
  simp (disch:=omega) [go_sem,a8m.1 e]
 all_goals
  have n:c3v sh=false:=by
   cases hh:c3v sh
   ·rfl
   ·rw [a8m.2 hh] at e; cases e
  refine a0e hv rfl rfl ?_
  simp (disch:=omega) [go_sem,n]
theorem b26 (hS:Sent3 G bk) (sh:List Int) (hlen:sh.length < 2 ^ 62):ACalls pg G b6r [slI sh] (li (a2w sh)):=by
 refine b20 rfl ?_
 simp (disch:=omega) [go_sem,b03]
 refine a0e (d34 hS sh hlen) rfl rfl ?_
 cases hok:c3v sh with
 | false=>simp (disch:=omega) [go_sem,hok,a2w]
 | true=>
  simp (disch:=omega) [go_sem,hok,a2w]
  simp only [c3v,Bool.and_eq_true,decide_eq_true_eq] at hok
  refine a1c (Nat×Int) (fun p st=>p.1<=sh.length/\a69 (sh.drop p.1) p.2=a69 sh 1/\1<=p.2/\(sh.drop p.1).all a56=true/\st.s 9=slI sh/\st.s 10=li sh.length/\st.s 11=li p.1/\st.s 3=li p.2) (fun p=>sh.length - p.1) (0,1) ⟨by simp,rfl,by simp,by simpa using hok.1.2,by simp (disch:=omega) [go_sem]⟩ ?_
  rintro ⟨i,n⟩ st K ⟨hi,hm,hn1,ha,h⟩ hK
  simp only at hi hm hn1 ha h
  by_cases hlt:i < sh.length
  ·rw [List.drop_eq_getElem_cons hlt] at hm ha
   simp only [List.all_cons,Bool.and_eq_true] at ha
   have hd1:=ha.1
   simp only [a56,decide_eq_true_eq] at hd1
   simp only [a69] at hm
   have b1:n*1<=n*sh[i]:=Int.mul_le_mul_of_nonneg_left hd1.1 (by omega)
   have g:=b3a ha.2 (show 0<=n*sh[i] by omega)
   simp (disch:=omega) [go_sem,a6a,h,hlt]
   exact hK (i+1,n*sh[i]) _ ⟨by simp only; omega,hm,by simp only; omega,ha.2,by simp (disch:=omega) [go_sem,h]⟩ (by simp only; omega)
  ·obtain rfl:i=sh.length:=by omega
   rw [List.drop_length,a69] at hm
   simp (disch:=omega) [go_sem,a6a,h,hm]
def b81 (sh:List Int) (w:Bool):Int:=if w=true then 4*a2w sh else a2w sh
theorem b5u (sh:List Int):0<=a2w sh/\a2w sh<=16384:=by
 unfold a2w
 split
 ·rename_i h
  simp only [c3v,Bool.and_eq_true,decide_eq_true_eq] at h
  have:=b3a (n:=1) h.1.2 (by omega)
  omega
 ·omega
def b68 (n:Int) (w:Bool):Bool:=if w=true then decide (-2147483648<=n/\n<=2147483647) else decide (-128<=n/\n<=127)
theorem d36 (n:Int) (w:Bool):ACalls pg G c0u [li n,lb w] (lb (b68 n w)):=by
 refine b5i rfl ?_
 cases w
 ·by_cases h1: -128<=n<;>by_cases h2:n<=127<;>simp (disch:=omega) [go_sem,a9v,b68,h1,h2]
 ·by_cases h1: -2147483648<=n<;>by_cases h2:n<=2147483647<;>simp (disch:=omega) [go_sem,a9v,b68,h1,h2]
def a20 (w:Bool):List Int->Nat->Option Nat
 | [],_=>none
 | n::ns,i=>if b68 n w=true then a20 w ns (i+1) else some i
def c3p:Option Nat->Er
 | none=> .nil
 | some i=> .at i (.s 3)
def a5s (sh:List Int) (w:Bool) (data:List Int):Er:=if c3v sh=true then (if (data.length:Int)=a2w sh then c3p (a20 w data 0) else .s 6) else a1a sh
abbrev e6w (sh:List Int) (w:Bool) (data:List Int):AV:= .agg [slI sh,lb w,slI data]
theorem c8t (hS:Sent3 G bk) {sh:List Int} {w:Bool} {data:List Int} (hl:data.length < 2 ^ 62) (h:st.s 1= .var [slI sh,lb w,slI data]/\st.s 22=slI data/\st.s 23=li data.length/\st.s 24=li 0)
  (hex:a20 w data 0=none->∀ s,Q (.exit 0) s) (hret:∀ i,a20 w data 0=some i->∀ s,s.s 2=a0t bk (.at i (.s 3))->Q .ret s):AW pg G 41 (.loop a48) Q st:=by
 refine a1c Nat (fun i st=>i<=data.length/\a20 w (data.drop i) i=a20 w data 0/\st.s 1= .var [slI sh,lb w,slI data]/\st.s 22=slI data/\st.s 23=li data.length/\st.s 24=li i) (fun i=>data.length - i) 0 ⟨by simp,rfl,h⟩ ?_
 clear h
 rintro i st K ⟨hi,hm,h⟩ hK
 by_cases hlt:i < data.length
 ·rw [List.drop_eq_getElem_cons hlt,a20] at hm
  simp (disch:=omega) [go_sem,a48,h,hlt]
  refine a0e (d36 data[i] w) rfl rfl ?_
  cases hf:b68 data[i] w with
  | true=>
   rw [if_pos hf] at hm
   simp (disch:=omega) [go_sem,h,hf]
   exact hK (i+1) _ ⟨by omega,hm,by simp (disch:=omega) [go_sem,h]⟩ (by omega)
  | false=>
   rw [if_neg (by simp [hf])] at hm
   simp (disch:=omega) [go_sem,h,hf,hS.val]
   exact hret i hm.symm _ (by simp (disch:=omega) [go_sem,a0t])
 ·obtain rfl:i=data.length:=by omega
  rw [List.drop_length,a20] at hm
  simp (disch:=omega) [go_sem,a48,h]
  exact hex hm.symm _
theorem b43 (hS:Sent3 G bk) (sh:List Int) (w:Bool) (data:List Int) (hlen:sh.length < 2 ^ 62) (hl:data.length < 2 ^ 62):ACalls pg G b8n [e6w sh w data] (a0t bk (a5s sh w data)):=by
 refine b4z rfl ?_
 simp (disch:=omega) [go_sem,b2o]
 have hv:=a04 (G:=G) hS sh w hlen
 rcases a5g sh with e | e | e
 ·have ok:=a8m.1 e
  rw [e] at hv
  simp only [a0t] at hv
  refine a0e hv rfl rfl ?_
  simp (disch:=omega) [go_sem]
  refine a0b ?_
  simp (disch:=omega) [go_sem]
  refine a0y (b26 hS sh hlen) rfl rfl (by simp) [18] (by simp) (by simp (disch:=omega) [go_sem]) ?_
  simp (disch:=omega) [go_sem]
  refine a0d (by decide) fun s2 hs he=> ?_
  by_cases hn:(data.length:Int)=a2w sh
  ·simp (disch:=omega) [go_sem,hs,hn]
   refine c8t (sh:=sh) (w:=w) (data:=data) hS hl (by simp (disch:=omega) [go_sem,hs,hn]) (fun hf s=> ?_) (fun i hf s h=> ?_)
   ·simp (disch:=omega) [go_sem,a5s,ok,hn,hf,c3p,a0t]
   ·simp (disch:=omega) [go_sem,a5s,ok,hn,hf,c3p,h]
  ·simp (disch:=omega) [go_sem,hs,hn,hS.val,a5s,ok,a0t]
 all_goals
  have ok:c3v sh=false:=by
   cases hh:c3v sh
   ·rfl
   ·rw [a8m.2 hh] at e; cases e
  rw [e] at hv
  simp only [a0t] at hv
  refine a0e hv rfl rfl ?_
  simp (disch:=omega) [go_sem,a5s,ok,e,a0t]
end
@[go_sem] theorem e36 (xs:List Int):a03 (xs.map lu)=true:=b1q fun x=>by simp only [a0x]
@[go_sem] theorem e4f (xs:List Int):a0m (xs.map lu)=true:=b1s fun x=>by simp only [a0n]
@[go_sem] theorem e6s {α:Type} {f:α->AV} {xs:List α} {a:AV}:List.take (xs.length+1) (xs.map f++[a])=xs.map f++[a]:=List.take_of_length_le (by simp)
@[go_sem] theorem e6t {α:Type} {f:α->AV} {xs:List α} {a b:AV}:List.take (xs.length+2) (xs.map f++[a,b])=xs.map f++[a,b]:=List.take_of_length_le (by simp)
section
variable {G:GG} {bk:Nat->Nat×Nat} {Q:Exit->St->Prop} {st:St}
end
structure Gr where
 nodes:List Nd
 out:Int
abbrev slN (ns:List Nd):AV:= .sl ns.length (fm a5q ns)
abbrev d0r (g:Gr):AV:= .agg [slN g.nodes,li g.out]
def b5v (n:Nd):List AV:=[li n.op,owI n.ins,owI n.args,owI n.shape,lb n.wide,owI n.data]
@[go_sem] theorem e8b {xs:List Nd}:(fm b5v xs).length=xs.length*6:=a4s fun _=>rfl
@[go_sem] theorem b89 {xs:List Nd}:(fm b5v xs).take (xs.length*6)=fm b5v xs:=a4f fun _=>rfl
@[go_sem] theorem c93 {xs:List Nd}:a1k (fm b5v xs)=fm a5q xs:=by
 rw [a7g]
 congr 1
 funext n
 simp [b5v,a5q,go_sem]
@[go_sem] theorem d68 {xs:List Nd}:a03 (fm b5v xs)=true:=a8n fun n=>by simp [b5v,go_sem]
theorem a6n (xs:List Int):a0x (owI xs)=true:=by simp only [a0x]; exact a1q xs
section
variable {G:GG} {bk:Nat->Nat×Nat} {Q:Exit->St->Prop} {st:St}
structure Nd.fin (n:Nd):Prop where
 ins:n.ins.length < 2 ^ 62
 args:n.args.length < 2 ^ 62
 shape:n.shape.length < 2 ^ 62
 data:n.data.length < 2 ^ 62
theorem c9o (sh:List Int) (w:Bool) (hlen:sh.length < 2 ^ 40):ACalls pg G b3h [.agg [slI sh,lb w]] (.agg [owI sh,lb w]):=by
 refine b0l rfl ?_
 simp (disch:=omega) [go_sem,a72]
 refine a0b ?_
 simp (disch:=omega) [go_sem]
 refine a0y (d2i G sh hlen) rfl (a6n _) (by simp) [5] (by simp) (by simp (disch:=omega) [go_sem]) ?_
 simp (disch:=omega) [go_sem]
 refine a0d (by decide) fun s2 hs he=> ?_
 simp (disch:=omega) [go_sem,hs]
theorem c9s (sh:List Int) (w:Bool) (data:List Int) (hlen:sh.length < 2 ^ 40) (hl:data.length < 2 ^ 40):ACalls pg G b1a [e6w sh w data] (.agg [owI sh,lb w,owI data]):=by
 refine a8v rfl ?_
 simp (disch:=omega) [go_sem,a6m]
 refine a0b ?_
 simp (disch:=omega) [go_sem]
 refine a0y (c9o sh w hlen) rfl (by simp [a0x,a03,a1q]) (by simp) [5] (by simp) (by simp (disch:=omega) [go_sem]) ?_
 simp (disch:=omega) [go_sem]
 refine a0y (d2i G data hl) rfl (a6n _) (by simp) [8] (by simp) (by simp (disch:=omega) [go_sem]) ?_
 simp (disch:=omega) [go_sem]
 refine a0d (by decide) fun s2 hs he=> ?_
 simp (disch:=omega) [go_sem,hs]
structure Nd.sh (n:Nd):Prop where
 ins:n.ins.length < 2 ^ 36
 args:n.args.length < 2 ^ 36
 shape:n.shape.length < 2 ^ 36
 data:n.data.length < 2 ^ 36
theorem d5i (sh:List Int) (w:Bool) (hlen:sh.length < 2 ^ 62):ACalls pg G a88 [.agg [slI sh,lb w],.agg [slI sh,lb w]] (lb true):=by
 refine a7j rfl ?_
 simp (disch:=omega) [go_sem,a5j]
 refine a0e (b1w hlen) rfl rfl ?_
 simp (disch:=omega) [go_sem]
theorem d1o (sh:List Int) (w:Bool) (data:List Int) (hlen:sh.length < 2 ^ 62) (hl:data.length < 2 ^ 62):ACalls pg G a7o [e6w sh w data,e6w sh w data] (lb true):=by
 refine a6l rfl ?_
 simp (disch:=omega) [go_sem,a4t]
 refine a0e (d5i sh w hlen) rfl rfl ?_
 simp (disch:=omega) [go_sem]
 refine a0e (b1w hl) rfl rfl ?_
 simp (disch:=omega) [go_sem]
theorem c2u (sh:List Int) (w:Bool) (data:List Int):a5s sh w data= .nil\/(∃ g,g < 21/\a5s sh w data= .s g)\/∃ p g,g < 21/\a5s sh w data= .at p (.s g):=by
 unfold a5s
 split
 ·split
  ·cases a20 w data 0 with
   | none=>exact .inl rfl
   | some i=>exact .inr (.inr ⟨i,3,by decide,rfl⟩)
  ·exact .inr (.inl ⟨6,by decide,rfl⟩)
 ·rcases a5g sh with e | e | e<;>rw [e]
  ·exact .inl rfl
  ·exact .inr (.inl ⟨2,by decide,rfl⟩)
  ·exact .inr (.inl ⟨3,by decide,rfl⟩)
end
structure Nd.good (n:Nd):Prop where
 ins:n.ins.length<=8
 args:n.args.length<=8
 tens:n.op=2->a5s n.shape n.wide n.data= .nil
section
variable {G:GG} {bk:Nat->Nat×Nat} {Q:Exit->St->Prop} {st:St}
end
end Go.Ideal.Tryz
end
section
namespace Go.Ideal
theorem c1p {α:Type} {f:α->List AV} {k:Nat} {xs:List α} (hf:∀ x,(f x).length=k) {i j:Nat} (h:i < xs.length) (hj:j < k):(fm f xs)[i*k+j]? =(f xs[i])[j]? :=by
 have h1:=a81 (f:=f) (k:=k) hf h
 rw [<-h1,List.getElem?_take,if_pos hj,List.getElem?_drop]
theorem d2e {α:Type} {f:α->List AV} {k:Nat} {xs:List α} (hf:∀ x,(f x).length=k) {i j m:Nat} (h:i < xs.length) (hj:j+m<=k):((fm f xs).drop (i*k+j)).take m=((f xs[i]).drop j).take m:=by
 have h1:=a81 (f:=f) (k:=k) hf h
 rw [<-h1,List.drop_take,List.take_take,List.drop_drop,Nat.min_eq_left (by omega)]
namespace Tryz
section
variable {xs:List Nd} {i:Nat}
@[go_sem] theorem g0b (h:i < xs.length):(fm a5q xs)[i*6]? =some (li xs[i].op):=c1p (f:=a5q) (k:=6) (j:=0) (fun _=>rfl) h (by omega)
@[go_sem] theorem g0c (h:i < xs.length):(fm a5q xs)[i*6+1]? =some (slI xs[i].ins):=c1p (f:=a5q) (k:=6) (fun _=>rfl) h (by omega)
@[go_sem] theorem g0d (h:i < xs.length):(fm a5q xs)[i*6+2]? =some (slI xs[i].args):=c1p (f:=a5q) (k:=6) (fun _=>rfl) h (by omega)
@[go_sem] theorem g0e (h:i < xs.length):((fm a5q xs).drop (i*6+3)).take 3=[slI xs[i].shape,lb xs[i].wide,slI xs[i].data]:=d2e (f:=a5q) (k:=6) (fun _=>rfl) h (by omega)
end
section
variable {G:GG} {bk:Nat->Nat×Nat} {Q:Exit->St->Prop} {st:St}
end
end Tryz
end Go.Ideal
end
section
namespace Go.Ideal.Tryz
def Er.isNil:Er->Bool
 | .nil=>true
 | _=>false
section
variable {G:GG} {bk:Nat->Nat×Nat} {Q:Exit->St->Prop} {st:St}
end
structure Ordered (ins:List (List Int)) (done:List Bool) (out:List Int):Prop where
 hd:done.length=ins.length
 nd:out.Nodup
 mem:∀ x,x < ins.length->(done[x]! =true↔(x:Int)∈out)
 rng:∀ x∈out,0<=x/\x < (ins.length:Int)
 beh:∀ p,p < out.length->∀ y∈ins[(out[p]!).toNat]!,y∈out.take p
theorem b4q {ins:List (List Int)} {done:List Bool}:∀ {rs:List (List Int)} {k:Nat} {f:Int},ins.drop k=rs->0<=(a46 done rs k f).1->done[(a46 done rs k f).1.toNat]! =false/\ins[(a46 done rs k f).1.toNat]!.all (fun x=>done[x.toNat]!)=true
 | [],k,f,h,h0=>by simp [a46] at h0
 | r::rs,k,f,h,h0=>by
  have hk:k < ins.length:=by
   by_cases hk:k < ins.length
   ·exact hk
   ·rw [List.drop_eq_nil_of_le (by omega)] at h; cases h
  rw [get!_drop hk] at h
  injection h with h1 h2
  rw [a46] at h0 ⊢
  split at h0
  ·rename_i hd
   rw [if_pos hd]
   exact b4q h2 h0
  ·rename_i hd
   rw [if_neg hd]
   split at h0
   ·rename_i ha
    rw [if_pos ha]
    simp only [Int.toNat_natCast]
    rw [h1]
    exact ⟨by simpa using hd,ha⟩
   ·rename_i ha
    rw [if_neg ha]
    exact b4q h2 h0
theorem b0u {ins:List (List Int)} (hin:inB ins.length ins):∀ (f:Nat) {done:List Bool} {out res:List Int},Ordered ins done out->done.count false=f->a9t ins f done out= .ok res->
  res.Nodup/\(∀ x,x < ins.length->(x:Int)∈res)/\(∀ x∈res,0<=x/\x < (ins.length:Int))/\∀ p,p < res.length->∀ y∈ins[(res[p]!).toNat]!,y∈res.take p
 | 0,done,out,res,h,hc,hl=>by
  simp only [a9t,Except.ok.injEq] at hl
  subst hl
  refine ⟨h.nd,fun x hx=>(h.mem x hx).1 ?_,h.rng,h.beh⟩
  rw [List.count_eq_zero] at hc
  have hxd:x < done.length:=by rw [h.hd]; exact hx
  simp only [hxd,getElem!_pos]
  cases hv:done[x] with
  | true=>rfl
  | false=>exact absurd (by rw [<-hv]; exact List.getElem_mem hxd) hc
 | f+1,done,out,res,h,hc,hl=>by
  rw [a9t] at hl
  split at hl
  ·cases hl
  ·rename_i hnx
   obtain ⟨g1,g2⟩:=b4q (ins:=ins) (done:=done) (rs:=ins) (k:=0) (f:= -1) rfl (by omega)
   have hrng:=b4n (done:=done) (rs:=ins) (k:=0) (f:= -1)
   generalize (a46 done ins 0 (-1)).1=nx at hl g1 g2 hnx hrng
   have hn:nx.toNat < ins.length:=by omega
   have hnd:nx.toNat < done.length:=by rw [h.hd]; exact hn
   have e:(nx.toNat:Int)=nx:=by omega
   have hni:nx ∉ out:=fun hm=>by
    rw [<-e] at hm
    rw [(h.mem _ hn).2 hm] at g1
    cases g1
   refine b0u hin f (done:=done.set nx.toNat true) (out:=out++[nx]) ?_ ?_ hl
   ·refine ⟨by simpa using h.hd,?_,fun x hx=> ?_,fun x hx=> ?_,fun p hp y hy=> ?_⟩
    ·rw [List.nodup_append]
     exact ⟨h.nd,by simp,fun a ha b hb hab=>by simp at hb; subst hb; subst hab; exact hni ha⟩
    ·rw [get!_set hnd]
     by_cases hxn:x=nx.toNat
     ·subst hxn; simp [e]
     ·rw [if_neg hxn,h.mem x hx]
      simp only [List.mem_append,List.mem_cons,List.not_mem_nil,or_false]
      exact ⟨.inl,fun hh=>hh.elim id fun hh=>absurd (by omega) hxn⟩
    ·rcases List.mem_append.1 hx with hx | hx
     ·exact h.rng x hx
     ·simp at hx; omega
    ·rw [List.length_append] at hp
     simp only [List.length_cons,List.length_nil] at hp
     by_cases hpo:p < out.length
     ·have e1:(out++[nx])[p]! =out[p]! :=by simp [hpo,List.getElem?_append_left]
      rw [e1] at hy
      rw [List.take_append_of_le_length (by omega)]
      exact h.beh p hpo y hy
     ·have hpe:p=out.length:=by omega
      subst hpe
      have e1:(out++[nx])[out.length]! =nx:=by simp
      rw [e1] at hy
      rw [List.take_left]
      rw [List.all_eq_true] at g2
      have hy2:=g2 y hy
      have hyr:=hin _ (show ins[nx.toNat]! ∈ins by simp [hn]) y hy
      have:=(h.mem y.toNat (by omega)).1 hy2
      rwa [show (y.toNat:Int)=y by omega] at this
   ·have hc2:(done.set nx.toNat true).count false+1=done.count false:=by
     have e2:done=done.take nx.toNat++false::done.drop (nx.toNat+1):=by
      conv=>lhs; rw [<-List.take_append_drop nx.toNat done,get!_drop hnd,g1]
     have e3:done.set nx.toNat true=done.take nx.toNat++true::done.drop (nx.toNat+1):=by
      rw [List.set_eq_take_append_cons_drop,if_pos hnd]
     rw [e3]
     conv=>rhs; rw [e2]
     simp
     omega
    omega
theorem b7t {ins:List (List Int)} (hr:∀ r∈ins,r.length < 2 ^ 61) {out:List Int} (h:a9r ins= .ok out) :
  out.Nodup/\(∀ x,x < ins.length->(x:Int)∈out)/\(∀ x∈out,0<=x/\x < (ins.length:Int))/\(∀ p,p < out.length->∀ y∈ins[(out[p]!).toNat]!,y∈out.take p)/\inB ins.length ins:=by
 have h2:=(b1x hr).2 out h
 unfold c2k at h2
 cases hb:c5g ins.length ins 0 with
 | some k=>rw [hb] at h2; simp at h2
 | none=>
  rw [hb] at h2
  simp only at h2
  have hin:=b4m hb
  cases hl:a9t ins ins.length (List.replicate ins.length false) [] with
  | error f=>rw [hl] at h2; simp at h2
  | ok out2=>
   rw [hl] at h2
   simp only [Prod.mk.injEq,and_true] at h2
   subst h2
   obtain ⟨a,b,c,d⟩:=b0u hin ins.length (done:=List.replicate ins.length false) (out:=[]) ⟨by simp,by simp,fun x hx=>by rw [get!_rep hx]; simp,fun x hx=>by simp at hx,fun p hp=>by simp at hp⟩ (by simp) hl
   exact ⟨a,b,c,d,hin⟩
theorem b93 {ins:List (List Int)}:∀ (f:Nat) {done:List Bool} {out res:List Int},a9t ins f done out= .ok res->res.length=out.length+f
 | 0,done,out,res,h=>by
  simp only [a9t,Except.ok.injEq] at h
  rw [h]; rfl
 | f+1,done,out,res,h=>by
  rw [a9t] at h
  split at h
  ·cases h
  ·have:=b93 f h
   simp only [List.length_append,List.length_cons,List.length_nil] at this
   omega
theorem c71 {ins:List (List Int)} (hr:∀ r∈ins,r.length < 2 ^ 61) {out:List Int} (h:a9r ins= .ok out):out.length=ins.length:=by
 have h2:=(b1x hr).2 out h
 unfold c2k at h2
 cases hb:c5g ins.length ins 0 with
 | some k=>rw [hb] at h2; simp at h2
 | none=>
  rw [hb] at h2
  simp only at h2
  cases hl:a9t ins ins.length (List.replicate ins.length false) [] with
  | error f=>rw [hl] at h2; simp at h2
  | ok out2=>
   rw [hl] at h2
   simp only [Prod.mk.injEq,and_true] at h2
   subst h2
   have:=b93 _ hl
   simpa using this
section
variable {G:GG} {bk:Nat->Nat×Nat} {Q:Exit->St->Prop} {st:St}
theorem e6x {l:List (List Int)} {m:Nat} (h:∀ r∈l,r.length<=m):tot l<=m*l.length:=by
 induction l with
 | nil=>simp [tot]
 | cons r l ih=>
  have h1:=h r (by simp)
  have h2:=ih fun x hx=>h x (by simp [hx])
  simp only [tot,List.map_cons,List.sum_cons,List.length_cons] at h2 ⊢
  rw [Nat.mul_add,Nat.mul_one]
  omega
end
def b02:IC:=(.seq (.reg [oo 1 (.box 26 2 (.t 0)),
 oo 2 (.alloc 26 [.own 1 0 [],.lit (.bool false)])]) (.seq (.draw [oo 3 (.faddr 26 0 (.t 1) 0),
 oo 4 (.load 22 none (.t 3)),
 oc 5 30 [(false,(.t 4))] [22],
 oo 6 (.faddr 26 1 (.t 1) 1),
 oo 7 (.load 4 none (.t 6)),
 oo 8 (.build 26 [.own 1 0 [],.lit (.bool false)] [(0,0,1,(.t 5)),(1,1,1,(.t 7))]),
 ov (.store 26 2 (.t 2) (.t 8))] [[],[0],[1],[],[3],[2,4],[5,2,0,1,2,3,4,5]]) .ret))
abbrev b6q:Nat:=29
theorem b2z:fnC pg 29 9 [(.cells 2 2)] b02:=a0w Go.Proofs.Tryz.f29 [(.cell 2 26)] (by kernel_rfl)
@[go_sem] theorem c8g:fnB pg 29=true:=by kernel_rfl
def b2n:IC:=(.seq (.reg [oo 1 (.box 28 3 (.t 0)),
 oo 2 (.alloc 28 [.own 1 0 [],.lit (.bool false),.own 1 0 []])]) (.seq (.draw [oo 3 (.faddr 28 0 (.t 1) 0),
 oo 4 (.load 26 (some 2) (.t 3)),
 oc 5 29 [(false,(.t 4))] [26],
 oo 6 (.faddr 28 2 (.t 1) 1),
 oo 7 (.load 22 none (.t 6)),
 oc 8 30 [(false,(.t 7))] [22],
 oo 9 (.build 28 [.own 1 0 [],.lit (.bool false),.own 1 0 []] [(0,0,2,(.t 5)),(1,2,1,(.t 8))]),
 ov (.store 28 3 (.t 2) (.t 9))] [[],[0],[1],[],[3],[4,2],[2,5],[6,5,0,1,2,3,4,5,6]]) .ret))
abbrev b8m:Nat:=18
theorem b4y:fnC pg 18 10 [(.cells 2 3)] b2n:=a0w Go.Proofs.Tryz.f18 [(.cell 2 28)] (by kernel_rfl)
@[go_sem] theorem c9d:fnB pg 18=true:=by kernel_rfl
def a52:IC:=(.seq (.reg [oo 2 (.asg (.nl 1))]) (.seq (.seq (.reg [om 3 0,
 ⟨(some 4),.nilq 22 (.t 3) 22,none⟩]) (.cond (.t 4) (.seq (.reg [oo 2 (.asg (.nl 1))]) .ret) .skip)) (.seq (.reg [oo 5 (.bslice 22 3 1 0 [.lit (.int .i64 0)] []),
 om 6 0,
 oo 7 (.app 22 3 1 8 (.t 5) (.t 6)),
 oo 2 (.asg (.t 7))]) .ret)))
abbrev a90:Nat:=30
theorem a8e:fnC pg 30 8 [(.tmp 2)] a52:=a0w Go.Proofs.Tryz.f30 [(.tmp 2)] (by kernel_rfl)
@[go_sem] theorem c0o:fnB pg 30=true:=by kernel_rfl
def a8d:IC:=(.seq (.reg [oo 2 (.box 26 2 (.t 0)),
 oo 3 (.box 26 2 (.t 1)),
 oo 4 (.asg (.c (.bool false)))]) (.seq (.reg [oo 5 (.faddr 26 1 (.t 2) 1),
 oo 6 (.load 4 none (.t 5)),
 oo 7 (.faddr 26 1 (.t 3) 1),
 oo 8 (.load 4 none (.t 7)),
 oo 9 (.bin .eql 4 1 (.t 6) (.t 8) 4),
 om 10 9,
 og 11 (.faddr 26 0 (.t 2) 0) 5 10 true,
 og 12 (.load 22 none (.t 11)) 5 10 true,
 og 13 (.faddr 26 0 (.t 3) 0) 5 10 true,
 og 14 (.load 22 none (.t 13)) 5 10 true,
 ⟨(some 15),.call 46 [(false,(.t 12)),(false,(.t 14))] [22,22],(some (5,10,true))⟩,
 oo 16 (.pick (.t 10) (.t 15) (.c (.bool false))),
 oo 4 (.asg (.t 16))]) .ret))
abbrev b10:Nat:=28
theorem b4s:fnC pg 28 17 [(.tmp 4)] a8d:=a0w Go.Proofs.Tryz.f28 [(.tmp 4)] (by kernel_rfl)
@[go_sem] theorem c9a:fnB pg 28=true:=by kernel_rfl
def a3s:IC:=(.seq (.reg [oo 14 (.bin .lss 3 0 (.t 13) (.t 12) 3)]) (.seq (.cond (.t 14) .skip (.exit 0)) (.seq (.block 1 (.seq (.reg [om 15 13,
 oo 5 (.asg (.t 15))]) (.seq (.draw [om 16 0,
 om 17 5,
 oo 18 (.iaddr 22 1 (.t 16) (.t 17)),
 oo 19 (.load 3 none (.t 18)),
 om 20 1,
 om 21 5,
 oo 22 (.iaddr 22 1 (.t 20) (.t 21)),
 oo 23 (.load 3 none (.t 22)),
 oo 24 (.bin .neq 3 0 (.t 19) (.t 23) 3)] [[],[],[0,1],[2],[],[],[4,5],[6],[3,7]]) (.cond (.t 24) (.seq (.reg [oo 4 (.asg (.c (.bool false)))]) .ret) .skip)))) (.reg [oo 25 (.bin .add 3 0 (.t 13) (.n 1) 3),
 om 13 25]))))
def a36:IC:=(.seq (.reg [oo 4 (.asg (.c (.bool false)))]) (.seq (.seq (.reg [om 6 0,
 oo 7 (.len 22 false (.t 6)),
 om 8 1,
 oo 9 (.len 22 false (.t 8)),
 oo 10 (.bin .neq 3 0 (.t 7) (.t 9) 3)]) (.cond (.t 10) (.seq (.reg [oo 4 (.asg (.c (.bool false)))]) .ret) .skip)) (.seq (.seq (.reg [om 11 0,
 oo 12 (.len 22 false (.t 11)),
 oo 13 (.mv (.n 0))]) (.block 0 (.loop a3s))) (.seq (.reg [oo 4 (.asg (.c (.bool true)))]) .ret))))
abbrev a91:Nat:=46
theorem a8f:fnC pg 46 26 [(.tmp 4)] a36:=a0w Go.Proofs.Tryz.f46 [(.tmp 4)] (by kernel_rfl)
@[go_sem] theorem c0p:fnB pg 46=true:=by kernel_rfl
end Go.Ideal.Tryz
end
