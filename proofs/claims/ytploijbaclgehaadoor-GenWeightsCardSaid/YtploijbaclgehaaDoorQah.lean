/- Part Qah of the proof: walks on a machine that is proved sound. -/
import Derived.Test.YtploijbaclgehaaDoorQag
import Derived.Test.YtploijbaclgehaaDoorProg
set_option linter.unusedVariables false
set_option linter.unusedSimpArgs false
set_option maxRecDepth 10000
section
namespace Go.Ideal
section
variable {P:Program} {G:GG} {N:Nat} {st:St} {K:St->Prop} {T:List (Nat×AV)} {u:Nat}
def cvK (N d:Nat) (o:Option (St×Nat×Nat×List AV)):Option St:=match o with
 | some r=>gO (r.2.1=1/\0 < r.2.2.1) (some ((r.1.put N (.own r.2.1 r.2.2.1 r.2.2.2)).thru N d (.own r.2.1 r.2.2.1 r.2.2.2)))
 | none=>none
@[congr] theorem e2v {d:Nat} {o o':Option (St×Nat×Nat×List AV)} (h:o=o'):cvK N d o=cvK N d o':=by rw [h]
@[go_sem] theorem e93 {d sz n:Nat} {ks:List AV}:cvK N d (some (st,sz,n,ks))=gO (sz=1/\0 < n) (some ((st.put N (.own sz n ks)).thru N d (.own sz n ks))):=(rfl)
@[go_sem] theorem e3l {d:Nat} {s t:TypeId} {x:X}:evS G N (some d) (.conv s t .keep x) st=cvK N d (tkS st N x (rdv st x)):=by
 simp only [evS,a07,Ev.run_bind,c0w,Option.bind]
 cases tkS st N x (rdv st x) with
 | none=>rfl
 | some r=>
  simp only [Option.map,a1o,St.put_s,if_true,a0f,Ev.run_bind,Option.bind,cvK,gO]
  by_cases h1:r.2.1=1
  ·by_cases h2:0 < r.2.2.1
   ·simp only [h1,h2,beq_self_eq_true,decide_true,Bool.and_self,if_true,and_self,a7n]
   ·simp only [h1,h2,beq_self_eq_true,decide_false,Bool.and_false,Bool.false_eq_true,if_false,and_false]
  ·have:(r.2.1==1)=false:=by simpa using h1
   simp only [this,Bool.false_and,Bool.false_eq_true,if_false,h1,false_and]
def lkB {α:Type} (b:Bool) (v:α) (o:Option α):Option α:=if b then some v else o
@[congr] theorem e5b {α:Type} {b b':Bool} {v:α} {o:Option α} (h:b=b'):lkB b v o=lkB b' v o:=by rw [h]
@[go_sem] theorem g5l {α:Type} {v:α} {o:Option α}:lkB true v o=some v:=(rfl)
@[go_sem] theorem g5k {α:Type} {v:α} {o:Option α}:lkB false v o=o:=(rfl)
@[go_sem] theorem f1s {α:Type} {a b:Nat} {v:α} {T:List (Nat×α)}:List.lookup a ((b,v)::T)=lkB (a==b) v (List.lookup a T):=by
 simp only [List.lookup_cons,lkB]
 cases a==b<;>rfl
def d57 (b:Bool) (o:Option AV) (T:List (Nat×AV)) (v:AV):AV:=if b then (match o with
 | some av=>av
 | none=>a08 (a8x T) v) else .dead
@[congr] theorem d9y {b b':Bool} {o o':Option AV} {v:AV} (h:b=b') (h2:o=o'):d57 b o T v=d57 b' o' T v:=by rw [h,h2]
@[go_sem] theorem g3a {o:Option AV} {v:AV}:d57 false o T v= .dead:=(rfl)
@[go_sem] theorem g3c {av v:AV}:d57 true (some av) T v=av:=(rfl)
@[go_sem] theorem g3b {v:AV}:d57 true none T v=a08 (a8x T) v:=(rfl)
@[go_sem] theorem f7n:(st.lentS N T).s u=d57 (decide (u < N)) (T.lookup u) T (st.s u):=by
 simp only [St.lentS,d57,decide_eq_true_eq]
 cases T.lookup u<;>rfl
@[go_sem] theorem f1j:(st.lentS N T).ep u=st.ep u:=(rfl)
def b7y (o:Option AV):Bool:=match o with
 | some (.var ks)=> !a0m ks
 | some (.own _ _ ks)=> !a0m ks
 | _=>false
@[congr] theorem d58 {o o':Option AV} (h:o=o'):b7y o=b7y o':=by rw [h]
@[go_sem] theorem f7k:b7y none=false:=(rfl)
@[go_sem] theorem f7m {ks:List AV}:b7y (some (.var ks))= !a0m ks:=(rfl)
@[go_sem] theorem f7l {sz n:Nat} {ks:List AV}:b7y (some (.own sz n ks))= !a0m ks:=(rfl)
theorem b6l {t i:Nat} {q:List Nat}:a8x T t (i::q)=b7y (T.lookup t):=by
 simp only [a8x,b7y]
 cases T.lookup t with
 | none=>rfl
 | some av=>cases av<;>rfl
def d33 (b:Bool) (v:AV):AV:=if b then .dead else v
@[congr] theorem d9o {b b':Bool} {v:AV} (h:b=b'):d33 b v=d33 b' v:=by rw [h]
@[go_sem] theorem g24 {v:AV}:d33 true v= .dead:=(rfl)
@[go_sem] theorem g23 {v:AV}:d33 false v=v:=(rfl)
@[go_sem] theorem d9t {t o e:Nat}:a08 (a8x T) (.ref t [] o e)= .ref t [] o e:=by simp [a08,a8x]
@[go_sem] theorem d9u {t i o e:Nat} {q:List Nat}:a08 (a8x T) (.ref t (i::q) o e)=d33 (b7y (T.lookup t)) (.ref t (i::q) o e):=by simp only [a08,b6l,d33]
@[go_sem] theorem d9p {t lo n e:Nat}:a08 (a8x T) (.bor t [] lo n e)= .bor t [] lo n e:=by simp [a08,a8x]
@[go_sem] theorem d9q {t i lo n e:Nat} {q:List Nat}:a08 (a8x T) (.bor t (i::q) lo n e)=d33 (b7y (T.lookup t)) (.bor t (i::q) lo n e):=by simp only [a08,b6l,d33]
def b74 (b:Bool) (o:Option (List AV×List (Nat×Nat))):Option (List AV×List (Nat×Nat)):=if b then o else none
@[congr] theorem e0d {b b':Bool} {o:Option (List AV×List (Nat×Nat))} (h:b=b'):b74 b o=b74 b' o:=by rw [h]
@[go_sem] theorem g3u {o:Option (List AV×List (Nat×Nat))}:b74 true o=o:=(rfl)
section
variable {st1:St} {acc:List AV} {L:List (Nat×Nat)} {es:List (Option Nat×AV)}
def pxV (N:Nat) (st1 st:St) (acc:List AV) (L:List (Nat×Nat)) (t:Nat) (v v1:AV) (es:List (Option Nat×AV)):Option (List AV×List (Nat×Nat)):=match v,v1 with
 | .var (k::ks),.var (_::_)=>pX N st1 st (acc++[.var (k::ks)]) (L++[(t,acc.length)]) es
 | _,_=>none
def pxR (N:Nat) (st1 st:St) (acc:List AV) (L:List (Nat×Nat)) (t e:Nat) (o:Option Nat) (es:List (Option Nat×AV)):Option (List AV×List (Nat×Nat)):=match o with
 | some j=>b74 (decide (e=st.ep t)) (pX N st1 st (acc++[.ref j [] 0 0]) L es)
 | none=>b74 (decide (e=st.ep t)&&decide (t < N)) (pxV N st1 st acc L t (st.s t) (st1.s t) es)
def pxT (N:Nat) (st1 st:St) (acc:List AV) (L:List (Nat×Nat)) (o:Option AV) (es:List (Option Nat×AV)):Option (List AV×List (Nat×Nat)):=match o with
 | some p=>pX N st1 st (acc++[p]) L es
 | none=>none
@[congr] theorem e7k {t:Nat} {v v' v1 v1':AV} (h:v=v') (h1:v1=v1'):pxV N st1 st acc L t v v1 es=pxV N st1 st acc L t v' v1' es:=by rw [h,h1]
@[congr] theorem e7i {t e:Nat} {o o':Option Nat} (h:o=o'):pxR N st1 st acc L t e o es=pxR N st1 st acc L t e o' es:=by rw [h]
@[congr] theorem e7j {o o':Option AV} (h:o=o'):pxT N st1 st acc L o es=pxT N st1 st acc L o' es:=by rw [h]
@[congr] theorem f2m {acc':List AV} {L':List (Nat×Nat)} {es':List (Option Nat×AV)} (h1:acc=acc') (h2:L=L') (h3:es=es'):pX N st1 st acc L es=pX N st1 st acc' L' es':=by rw [h1,h2,h3]
@[go_sem] theorem f9e {t:Nat} {k k1:AV} {ks ks1:List AV}:pxV N st1 st acc L t (.var (k::ks)) (.var (k1::ks1)) es=pX N st1 st (acc++[.var (k::ks)]) (L++[(t,acc.length)]) es:=(rfl)
@[go_sem] theorem g5u {t e j:Nat}:pxR N st1 st acc L t e (some j) es=b74 (decide (e=st.ep t)) (pX N st1 st (acc++[.ref j [] 0 0]) L es):=(rfl)
@[go_sem] theorem g5t {t e:Nat}:pxR N st1 st acc L t e none es=b74 (decide (e=st.ep t)&&decide (t < N)) (pxV N st1 st acc L t (st.s t) (st1.s t) es):=(rfl)
@[go_sem] theorem g5v {p:AV}:pxT N st1 st acc L (some p) es=pX N st1 st (acc++[p]) L es:=(rfl)
@[go_sem] theorem g3z:pX N st1 st acc L []=some (acc,L):=(rfl)
@[go_sem] theorem g6l {k:Nat} {av:AV}:pX N st1 st acc L ((some k,av)::es)=b74 (noRef av) (pX N st1 st (acc++[av]) L es):=by
 simp only [pX,b74]
@[go_sem] theorem g30 {t e:Nat}:pX N st1 st acc L ((none,.ref t [] 0 e)::es)=pxR N st1 st acc L t e (L.lookup t) es:=by
 simp only [pX,pxR,b74,pxV,decide_eq_true_eq,Bool.and_eq_true]
 cases L.lookup t<;>rfl
@[go_sem] theorem e5y {t e sz n:Nat} {ks:List AV}:c57 t e (.own sz n ks)= .bor t [] 0 n e:=(rfl)
@[go_sem] theorem e5z {t e:Nat} {ks:List AV}:c57 t e (.var ks)= .ref t [] 0 e:=(rfl)
def pxO (N:Nat) (st1 st:St) (acc:List AV) (L:List (Nat×Nat)) (t n:Nat) (v v1:AV) (es:List (Option Nat×AV)):Option (List AV×List (Nat×Nat)):=match v,v1 with
 | .own sz n0 ks,.own sz1 n1 _=>b74 (decide (n=n0)&&(decide (sz1=sz)&&decide (n1=n0))) (pX N st1 st (acc++[.own sz n0 ks]) (L++[(t,acc.length)]) es)
 | _,_=>none
def pxB (N:Nat) (st1 st:St) (acc:List AV) (L:List (Nat×Nat)) (t n e:Nat) (o:Option Nat) (es:List (Option Nat×AV)):Option (List AV×List (Nat×Nat)):=match o with
 | some _=>none
 | none=>b74 (decide (e=st.ep t)&&decide (t < N)) (pxO N st1 st acc L t n (st.s t) (st1.s t) es)
@[congr] theorem e7h {t n n':Nat} {v v' v1 v1':AV} (hn:n=n') (h:v=v') (h1:v1=v1'):pxO N st1 st acc L t n v v1 es=pxO N st1 st acc L t n' v' v1' es:=by rw [hn,h,h1]
@[congr] theorem e7g {t n e:Nat} {o o':Option Nat} (h:o=o'):pxB N st1 st acc L t n e o es=pxB N st1 st acc L t n e o' es:=by rw [h]
@[go_sem] theorem f9d {t n sz n0 sz1 n1:Nat} {ks ks1:List AV}:pxO N st1 st acc L t n (.own sz n0 ks) (.own sz1 n1 ks1) es=b74 (decide (n=n0)&&(decide (sz1=sz)&&decide (n1=n0))) (pX N st1 st (acc++[.own sz n0 ks]) (L++[(t,acc.length)]) es):=(rfl)
@[go_sem] theorem g5s {t n e:Nat}:pxB N st1 st acc L t n e none es=b74 (decide (e=st.ep t)&&decide (t < N)) (pxO N st1 st acc L t n (st.s t) (st1.s t) es):=(rfl)
@[go_sem] theorem g3w {t n e:Nat}:pX N st1 st acc L ((none,.bor t [] 0 n e)::es)=pxB N st1 st acc L t n e (L.lookup t) es:=by
 simp only [pX,pxB,b74,pxO,decide_eq_true_eq,Bool.and_eq_true]
 cases L.lookup t<;>rfl
@[go_sem] theorem g3y {v:Value}:pX N st1 st acc L ((none,.lit v)::es)=pX N st1 st (acc++[.lit v]) L es:=(rfl)
@[go_sem] theorem g5p {n:Nat} {ks:List AV}:pX N st1 st acc L ((none,.sl n ks)::es)=pX N st1 st (acc++[.sl n ks]) L es:=(rfl)
@[go_sem] theorem g5o {n:Nat} {ks:List AV}:pX N st1 st acc L ((none,.ip ks n)::es)=pX N st1 st (acc++[.ip ks n]) L es:=(rfl)
@[go_sem] theorem g3v {ks:List AV}:pX N st1 st acc L ((none,.agg ks)::es)=b74 (a0m ks) (pX N st1 st (acc++[.agg ks]) L es):=by
 simp only [pX,trA,a0n,b74]
 by_cases h:a0m ks=true<;>simp [h]
@[go_sem] theorem g3x {t:TypeId} {k:AV}:pX N st1 st acc L ((none,.ifc t k)::es)=b74 (a0n k) (pX N st1 st (acc++[.ifc t k]) L es):=by
 simp only [pX,trA,a0n,b74]
 by_cases h:a0n k=true<;>simp [h]
@[go_sem] theorem g5n {f:FuncId} {fs cs:List AV}:pX N st1 st acc L ((none,.fn f fs cs)::es)=pxT N st1 st acc L (trA st L (.fn f fs cs)) es:=(rfl)
def fn2 (f:FuncId) (a b:Option (List AV)):Option AV:=match a,b with
 | some a,some b=>some (.fn f a b)
 | _,_=>none
@[go_sem] theorem g5d {f:FuncId} {a b:List AV}:fn2 f (some a) (some b)=some (.fn f a b):=(rfl)
@[go_sem] theorem g4h {f:FuncId} {fs cs:List AV}:trA st L (.fn f fs cs)=fn2 f (trL st L fs) (trL st L cs):=by
 simp only [trA,fn2]
 cases trL st L fs<;>cases trL st L cs<;>rfl
@[go_sem] theorem g0l:trL st L []=some []:=by simp only [trL]
@[go_sem] theorem f3z {k:AV} {ks:List AV}:trL st L (k::ks)=avs (trA st L k) (trL st L ks):=by
 simp only [trL,avs]
 cases trA st L k<;>cases trL st L ks<;>rfl
@[go_sem] theorem g0j {v:Value}:trA st L (.lit v)=some (.lit v):=by simp only [trA,a0n,if_true]
@[go_sem] theorem g4j {n:Nat} {ks:List AV}:trA st L (.sl n ks)=some (.sl n ks):=by simp only [trA,a0n,if_true]
@[go_sem] theorem g4i {n:Nat} {ks:List AV}:trA st L (.ip ks n)=some (.ip ks n):=by simp only [trA,a0n,if_true]
def e81 (b:Bool) (l:Option Nat) (o:Nat):Option AV:=if b then l.map fun i=> .ref i [] o 0 else none
@[congr] theorem e1g {b b':Bool} {l l':Option Nat} {o:Nat} (h:b=b') (h2:l=l'):e81 b l o=e81 b' l' o:=by rw [h,h2]
@[go_sem] theorem g4k {i o:Nat}:e81 true (some i) o=some (.ref i [] o 0):=(rfl)
@[go_sem] theorem g0k {t o e:Nat}:trA st L (.ref t [] o e)=e81 (decide (e=st.ep t)) (L.lookup t) o:=by simp [trA,e81]
@[go_sem] theorem g6p {t:Nat}:xv st (.t t)=st.s t:=(rfl)
@[go_sem] theorem g6m {v:Value}:xv st (.c v)= .lit v:=(rfl)
@[go_sem] theorem g6n {n:Nat}:xv st (.f n)= .fn n [] []:=(rfl)
@[go_sem] theorem g6o {n:Nat}:xv st (.g n)= .lit (.pointer (some ⟨n,0,none⟩)):=(rfl)
@[go_sem] theorem f5d {fs cs:List AV} {lay:List CS}:b7m N st fs lay cs=fs.map (fun a=>(none,a))++(lay.map (c3z N st)++cs.map (fun a=>(none,a))):=(rfl)
@[go_sem] theorem g1d {k:Nat}:c3z N st (.p k)=(some k,st.s (N+2+k)):=(rfl)
@[go_sem] theorem g1c {t:Nat}:c3z N st (.l t)=(none,c57 t (st.ep t) (st.s t)):=(rfl)
@[go_sem] theorem g1e {y:X}:c3z N st (.x y)=(none,xv st y):=(rfl)
end
def c5q (st:St) (N:Nat) (T:List (Nat×AV)) (d:Option Nat) (res:AV):St:=match d with
 | some d=>(st.lentS N T).thru N d res
 | none=>st.lentS N T
@[go_sem] theorem e30 {d:Nat} {res:AV}:c5q st N T (some d) res=(st.lentS N T).thru N d res:=(rfl)
@[go_sem] theorem e3z {res:AV}:c5q st N T none res=st.lentS N T:=(rfl)
def c2q:AV->Bool
 | .var _=>true
 | _=>false
def b0i (pre:List AV) (posts:List (Nat×AV)):Prop:=∀ i av,(i,av)∈posts->∃ p,pre[i]? =some p/\c68 p av
theorem c49 {pre:List AV}:b0i pre []:=fun _ _ h=>by cases h
theorem c5b {pre:List AV} {i:Nat} {ks ks':List AV} {ps:List (Nat×AV)} (h:pre[i]? =some (.var ks)) (hr:b0i pre ps):b0i pre ((i,.var ks')::ps):=fun j av hm=>by
 rcases List.mem_cons.1 hm with hm | hm
 ·injection hm with h1 h2
  subst h1; subst h2
  exact ⟨_,h,trivial⟩
 ·exact hr j av hm
theorem c5a {pre:List AV} {i sz n:Nat} {ks ks':List AV} {ps:List (Nat×AV)} (h:pre[i]? =some (.own sz n ks)) (hr:b0i pre ps):b0i pre ((i,.own sz n ks')::ps):=fun j av hm=>by
 rcases List.mem_cons.1 hm with hm | hm
 ·injection hm with h1 h2
  subst h1; subst h2
  exact ⟨_,h,rfl,rfl⟩
 ·exact hr j av hm
def c8d:Option AV->Bool
 | some v=>c2q v
 | none=>false
def c6r (pre:List AV) (p:Nat×AV):Bool:=c2q p.2&&c8d pre[p.1]?
@[go_sem] theorem e4w {ks:List AV}:c2q (.var ks)=true:=(rfl)
@[go_sem] theorem d55 {v:AV}:c8d (some v)=c2q v:=(rfl)
@[go_sem] theorem f31 {pre:List AV} {i:Nat} {v:AV}:c6r pre (i,v)=(c2q v&&c8d pre[i]?):=(rfl)
theorem c4f {v:AV} (h:c2q v=true):∃ ks,v= .var ks:=by cases v<;>simp [c2q] at h; exact ⟨_,rfl⟩
theorem d3i {pre:List AV} {p:Nat×AV} (h:c6r pre p=true):∃ ks ks0,p.2= .var ks/\pre[p.1]? =some (.var ks0):=by
 simp only [c6r,Bool.and_eq_true] at h
 obtain ⟨ks,h1⟩:=c4f h.1
 cases h2:pre[p.1]? with
 | none=>rw [h2] at h; cases h.2
 | some v=>
  rw [h2] at h
  obtain ⟨ks0,rfl⟩:=c4f h.2
  exact ⟨ks,ks0,h1,rfl⟩
theorem c1v {pre:List AV} {posts:List (Nat×AV)} (h:(posts.all fun p=>c6r pre p)=true):b0i pre posts:=fun i av hm=>by
 obtain ⟨ks,ks0,h1,h2⟩:=d3i (List.all_eq_true.1 h _ hm)
 simp only at h1 h2
 subst h1
 exact ⟨_,h2,trivial⟩
def clx (P:Program) (G:GG) (N:Nat) (d:Option Nat) (f:FuncId) (pre:List AV) (L:List (Nat×Nat)) (st1 st2:St) (K:St->Prop):Prop:=
 ∃ res posts,ACallsX P G f pre res posts/\noRef res=true/\posts.map (·.1)=L.map (·.2)/\b0i pre posts/\K (c5q (if a0y res&&posts.all fun p=>a0y p.2 then st1 else st2) N ((L.map (·.1)).zip (posts.map (·.2))) d res)
def d8n (P:Program) (G:GG) (N:Nat) (d:Option Nat) (f:FuncId) (st1 st2:St) (o:Option (List AV×List (Nat×Nat))) (K:St->Prop):Prop:=match o with
 | some x=>clx P G N d f x.1 x.2 st1 st2 K
 | none=>False
def d45 (P:Program) (G:GG) (N:Nat) (d:Option Nat) (v:AV) (lay:List CS) (st1 st2:St) (K:St->Prop):Prop:=match v with
 | .fn f fs cs=>fnB P f=true/\d8n P G N d f st1 st2 (pX N st1 st2 [] [] (b7m N st2 fs lay cs)) K
 | _=>False
def d07 (P:Program) (G:GG) (N:Nat) (d:Option Nat) (cv:X) (lay:List CS) (o1 o2:Option St) (K:St->Prop):Prop:=match o1,o2 with
 | some st1,some st2=>d45 P G N d (xv st2 cv) lay st1 st2 K
 | _,_=>False
def d46 (P:Program) (G:GG) (N:Nat) (d:Option Nat) (cv:X) (args:List (Bool×X)) (lay:List CS) (o1:Option St) (K:St->Prop):Prop:=d07 P G N d cv lay o1 (pss N (N+2) args o1) K
section
variable {d:Option Nat} {cv:X} {args:List (Bool×X)} {lay:List CS} {st1 st2:St} {f:FuncId}
@[congr] theorem d8l {o o':Option St} (h:o=o'):d46 P G N d cv args lay o K=d46 P G N d cv args lay o' K:=by rw [h]
@[congr] theorem d8m {o1 o o':Option St} (h:o=o'):d07 P G N d cv lay o1 o K=d07 P G N d cv lay o1 o' K:=by rw [h]
@[congr] theorem d8k {v v':AV} (h:v=v'):d45 P G N d v lay st1 st2 K=d45 P G N d v' lay st1 st2 K:=by rw [h]
@[congr] theorem d8o {o o':Option (List AV×List (Nat×Nat))} (h:o=o'):d8n P G N d f st1 st2 o K=d8n P G N d f st1 st2 o' K:=by rw [h]
@[congr] theorem e2r {pre pre':List AV} {L L':List (Nat×Nat)} (h:pre=pre') (h2:L=L'):clx P G N d f pre L st1 st2 K=clx P G N d f pre' L' st1 st2 K:=by rw [h,h2]
@[go_sem] theorem e2o:d46 P G N d cv args lay (some st) K=d07 P G N d cv lay (some st) (pss N (N+2) args (some st)) K:=(rfl)
@[go_sem] theorem e2p:d07 P G N d cv lay (some st1) (some st2) K=d45 P G N d (xv st2 cv) lay st1 st2 K:=(rfl)
@[go_sem] theorem f4l {fs cs:List AV}:d45 P G N d (.fn f fs cs) lay st1 st2 K=(fnB P f=true/\d8n P G N d f st1 st2 (pX N st1 st2 [] [] (b7m N st2 fs lay cs)) K):=(rfl)
@[go_sem] theorem e2q {pre:List AV} {L:List (Nat×Nat)}:d8n P G N d f st1 st2 (some (pre,L)) K=clx P G N d f pre L st1 st2 K:=(rfl)
@[go_sem] theorem d70 {tys:List TypeId} {rest:List AO}:b0a P G N (⟨d,.callx cv args lay tys,none⟩::rest) K st=d46 P G N d cv args lay (gvs N (N+2) args (some st)) (b0a P G N rest K):=by
 simp only [b0a,a9v,b5q,c3t]
 rw [<-a7m]
 apply propext
 constructor
 ·rintro ⟨f,fs,cs,st1,st2,L,pre,res,posts,st3,h1,h2,h3,h4,h5,h6,h7,h8,h9,h10,h11⟩
  have e2:=a3z (N:=N) args (N+2) st1
  rw [h2] at e2
  simp only [h1,Option.map,d46,d07,<-e2,h3,d45,h5,d8n]
  refine ⟨h4,res,posts,h6,h7,h8,h9,?_⟩
  have:c5q (if a0y res&&posts.all fun p=>a0y p.2 then st1 else st2) N ((L.map (·.1)).zip (posts.map (·.2))) d res=st3:=by
   cases d with
   | none=>
    simp only [c1c,Ev.run_pure,Option.some.injEq,Prod.mk.injEq,true_and] at h10
    exact h10
   | some d=>
    simp only [c1c,a7n,Option.some.injEq,Prod.mk.injEq,true_and] at h10
    exact h10
  rw [this]; exact h11
 ·cases h1:(a5m N (N+2) args).run st with
  | none=>intro h; simp only [Option.map,d46,d07] at h
  | some r=>
   obtain ⟨_,st1⟩:=r
   simp only [Option.map,d46]
   rw [<-a3z]
   cases h2:(a3k N (N+2) args).run st1 with
   | none=>intro h; simp only [Option.map,d07] at h
   | some r2=>
    obtain ⟨_,st2⟩:=r2
    simp only [Option.map,d07]
    cases h3:xv st2 cv<;>simp only [d45]<;>try exact False.elim
    rename_i f fs cs
    rintro ⟨h4,h⟩
    cases h5:pX N st1 st2 [] [] (b7m N st2 fs lay cs) with
    | none=>rw [h5] at h; exact h.elim
    | some x=>
     obtain ⟨pre,L⟩:=x
     rw [h5] at h
     obtain ⟨res,posts,h6,h7,h8,h9,h10⟩:=h
     refine ⟨f,fs,cs,st1,st2,L,pre,res,posts,_,rfl,h2,h3,h4,h5,h6,h7,h8,h9,?_,h10⟩
     cases d<;>rfl
theorem d08 {pre:List AV} {L:List (Nat×Nat)} {res:AV} {posts:List (Nat×AV)} (hA:ACallsX P G f pre res posts) (hn:noRef res=true) (hp:posts.map (·.1)=L.map (·.2)) (hv:b0i pre posts)
  (h:K (c5q st1 N ((L.map (·.1)).zip (posts.map (·.2))) d res)) (h2:K (c5q st2 N ((L.map (·.1)).zip (posts.map (·.2))) d res)):clx P G N d f pre L st1 st2 K:=⟨res,posts,hA,hn,hp,hv,by split; exact h; exact h2⟩
theorem d47 {pre:List AV} {L:List (Nat×Nat)} {res:AV} {posts:List (Nat×AV)} (hA:ACallsX P G f pre res posts) (hn:noRef res=true) (hp:posts.map (·.1)=L.map (·.2)) (hv:(posts.all fun p=>c6r pre p)=true)
  (h:K (c5q st1 N ((L.map (·.1)).zip (posts.map (·.2))) d res)) (h2:K (c5q st2 N ((L.map (·.1)).zip (posts.map (·.2))) d res)):clx P G N d f pre L st1 st2 K:=⟨res,posts,hA,hn,hp,c1v hv,by split; exact h; exact h2⟩
end
section
variable {d:Option Nat} {cv:X} {args:List (Bool×X)} {lay:List CS} {f:FuncId} {aft:DA} {rest:List AO} {fps:List (List Nat×List Nat)} {K:St->Prop} {ex:List Nat}
def g0q:AV->Bool
 | .var ks=>a0m ks
 | _=>false
@[go_sem] theorem e85 {ks:List AV}:g0q (.var ks)=a0m ks:=(rfl)
@[go_sem] theorem f1k {v:Value}:d2g (.lit v)=true:=(rfl)
@[go_sem] theorem e8n {rd:List Nat} {n:Nat}:a5i rd (.t n)=rd.contains n:=(rfl)
@[go_sem] theorem e8k {rd:List Nat} {v:Value}:a5i rd (.c v)=true:=(rfl)
@[go_sem] theorem e8l {rd:List Nat} {n:Nat}:a5i rd (.f n)=true:=(rfl)
@[go_sem] theorem e8m {rd:List Nat} {n:Nat}:a5i rd (.g n)=true:=(rfl)
@[go_sem] theorem e0y {rd:List Nat} {t:Nat} {q:List Nat} {o e:Nat}:a22 rd (.ref t q o e)=rd.contains t:=by simp only [a22]
@[go_sem] theorem e0w {rd:List Nat} {t:Nat} {q:List Nat} {lo n e:Nat}:a22 rd (.bor t q lo n e)=rd.contains t:=by simp only [a22]
@[go_sem] theorem e7q {rd:List Nat} {f:FuncId} {a c:List AV}:a22 rd (.fn f a c)=(a2w rd a&&a2w rd c):=by simp only [a22]
@[go_sem] theorem e0x {rd:List Nat} {v:Value}:a22 rd (.lit v)=true:=by simp only [a22]
@[go_sem] theorem e7r {rd:List Nat} {n:Nat} {ks:List AV}:a22 rd (.sl n ks)=true:=by simp only [a22]
@[go_sem] theorem d63 {rd:List Nat}:a2w rd []=true:=by simp only [a2w]
@[go_sem] theorem d4c {rd:List Nat} {k:AV} {ks:List AV}:a2w rd (k::ks)=(a22 rd k&&a2w rd ks):=by simp only [a2w]
@[go_sem] theorem d9z {rd:List Nat}:c2u st rd args=args.all fun p=> !p.1&&(d2g (rdv st p.2)&&a5i rd p.2):=(rfl)
@[go_sem] theorem d6z {j:Nat}:a1m st j []=st:=(rfl)
@[go_sem] theorem d4a {j:Nat} {p:Bool×X}:a1m st j (p::args)=a1m (st.put j (rdv st p.2)) (j+1) args:=(rfl)
@[go_sem] theorem e46 {rd:List Nat} {n:Nat}:c2s st rd n []=true:=(rfl)
@[go_sem] theorem f7f {rd:List Nat} {n k:Nat}:c2s st rd n (.p k::lay)=(decide (k < n)&&c2s st rd n lay):=(rfl)
@[go_sem] theorem f7g {rd:List Nat} {n:Nat} {y:X}:c2s st rd n (.x y::lay)=((a5i rd y&&a22 rd (xv st y))&&c2s st rd n lay):=(rfl)
def dCx (P:Program) (G:GG) (N:Nat) (aft:DA) (ex:List Nat) (d:Option Nat) (cv:X) (args:List (Bool×X)) (lay:List CS) (rest:List AO) (fps:List (List Nat×List Nat)) (K:St->Prop) (st:St):Prop:=
 c7l P G N aft ex d (.callx cv args lay []) fps (fun fps st=>a62 aft.2 st/\a65 P G N aft rest fps K st) st
@[congr] theorem e2z {st':St} (h:st=st'):dCx P G N aft ex d cv args lay rest fps K st=dCx P G N aft ex d cv args lay rest fps K st':=by rw [h]
@[go_sem] theorem d8z {tys:List TypeId}:a65 P G N aft (⟨d,.callx cv args lay tys,none⟩::rest) fps K st=dCx P G N aft [] d cv args lay rest fps K st:=(rfl)
end
def c2a (rs:List RV) (res:AV) (posts:List (Nat×AV)):Exit->St->Prop
 | .normal,st | .ret,st=>e02 rs st=some res/\∀ p∈posts,st.s p.1=p.2
 | _,_=>False
section
variable {rs:List RV} {res:AV} {posts:List (Nat×AV)}
@[congr] theorem d5l {e:Exit} {st':St} (h2:st=st'):c2a rs res posts e st=c2a rs res posts e st':=by rw [h2]
def poK:List (Nat×AV)->St->Prop
 | [],_=>True
 | p::ps,st=>st.s p.1=p.2/\poK ps st
@[congr] theorem e68 {ps:List (Nat×AV)} {st':St} (h:st=st'):poK ps st=poK ps st':=by rw [h]
@[go_sem] theorem f8u:poK [] st=True:=(rfl)
@[go_sem] theorem f2o {t:Nat} {v:AV} {ps:List (Nat×AV)}:poK ((t,v)::ps) st=(st.s t=v/\poK ps st):=(rfl)
theorem c3a:∀ {ps:List (Nat×AV)},(∀ p∈ps,st.s p.1=p.2)=poK ps st
 | []=>by simp [poK]
 | p::ps=>by simp only [List.mem_cons,forall_eq_or_imp,poK,c3a (ps:=ps)]
@[go_sem] theorem f5e:c2a rs res posts .normal st=(d7q (rvL rs st)=some res/\poK posts st):=by rw [<-c3a]; rfl
@[go_sem] theorem f5f:c2a rs res posts .ret st=(d7q (rvL rs st)=some res/\poK posts st):=by rw [<-c3a]; rfl
theorem c2b {vs:List ResultVar} (h:c0y P N rs vs=true):∀ e st,c2a rs res posts e st->g2b P N vs res posts e st:=by
 intro e st hq
 have key:e02 rs st=some res->b4t P N st vs=some res:=by
  intro hk
  unfold e02 at hk
  cases hl:rvL rs st with
  | none=>rw [hl] at hk; cases hk
  | some ks=>
   rw [hl] at hk
   simp only [b4t,b42 h hl]
   exact hk
 cases e<;>first | exact ⟨key hq.1,hq.2⟩ | exact hq
end
theorem ACallsX.of_walk {P:Program} {G:GG} {f:FuncId} {fn:Func} {c:Code} {N:Nat} {vs:List ResultVar} {rs:List RV} {ic:IC} (hord:P.follows .mixedOrders=true) (hf:P.funcs[f]? =some fn) (hb:fn.body=some c) (hN:fn.ntmps=N) (hrs:fn.results.toList=vs) (hnd:(vs.map rvT).Nodup)
  (he:a9h c=ic.ec) (hok:ic.ok P N=true) (hr:c0y P N rs vs=true) {pins:List Nat} (hpin:ic.pin pins=true) {pre:List AV} {res:AV} {posts:List (Nat×AV)} (hsz:pre.length<=N) (hpo:posts.map (·.1)=pins) (hpr:pins.all (fun t=> !(vs.map rvT).contains t&&decide (t < pre.length))=true) (hnr:(posts.all fun p=>noRef p.2)=true)
  (h:AW P G N ic (c2a rs res posts) (St.init pre)):ACallsX P G f pre res posts:=
 a8m hf hb hN hrs hnd hsz (fun p hp=>by
  have:=List.all_eq_true.1 hpr p.1 (by rw [<-hpo]; exact List.mem_map.2 ⟨p,hp,rfl⟩)
  simp only [Bool.and_eq_true,Bool.not_eq_true',decide_eq_true_eq] at this
  exact ⟨fun hm=>by simp [hm] at this,this.2,List.all_eq_true.1 hnr p hp⟩) (by rw [hpo]; exact (c3o hord ic c _ _ he hok hpin h).mono (c2b hr))
end
abbrev oo (d:Nat) (i:IOp):AO:=⟨some d,.op i,none⟩
abbrev om (d t:Nat):AO:=⟨some d,.op (.mv (.t t)),none⟩
abbrev ov (i:IOp):AO:=⟨none,.op i,none⟩
abbrev og (d:Nat) (i:IOp) (j t:Nat) (b:Bool):AO:=⟨some d,.op i,some (j,t,b)⟩
abbrev oc (d:Nat) (f:FuncId) (args:List (Bool×X)) (tys:List TypeId):AO:=⟨some d,.call f args tys,none⟩
abbrev X.n (k:Int):X:= .c (.int .i64 k)
abbrev fnK:Type:=Bool×Option Func×Option EC×Nat×List ResultVar×Bool×Bool×Bool
def fnL (P:Program) (f:FuncId) (fn:Func) (N:Nat) (rs:List RV) (vs:List ResultVar) (ic:IC):fnK:=
 (P.follows .mixedOrders,P.funcs[f]?,fn.body.map a9h,fn.ntmps,fn.results.toList,decide ((vs.map rvT).Nodup),ic.ok P N,c0y P N rs vs)
def fnR (fn:Func) (N:Nat) (vs:List ResultVar) (ic:IC):fnK:=(true,some fn,some ic.ec,N,vs,true,true,true)
abbrev fnC (P:Program) (f:FuncId) (N:Nat) (rs:List RV) (ic:IC):Prop:=
 ∀ {G:GG} {pre:List AV} {res:AV} (hsz:decide (pre.length<=N)=true) (hw:AW P G N ic (d5k rs res) (St.init pre)),ACalls P G f pre res
abbrev fnX (P:Program) (f:FuncId) (N:Nat) (rs:List RV) (vs:List ResultVar) (ic:IC):Prop:=
 ∀ {G:GG} {pre:List AV} {res:AV} {posts:List (Nat×AV)} {pins:List Nat} (hpin:ic.pin pins=true) (hpo:posts.map (·.1)=pins)
  (hpr:pins.all (fun t=> !(vs.map rvT).contains t&&decide (t < pre.length))=true) (hnr:(posts.all fun p=>noRef p.2)=true) (hsz:decide (pre.length<=N)=true) (hw:AW P G N ic (c2a rs res posts) (St.init pre)),ACallsX P G f pre res posts
section
variable {P:Program} {f:FuncId} {N:Nat} {rs:List RV} {ic:IC}
theorem a05 (fn:Func) (vs:List ResultVar) (h:fnL P f fn N rs vs ic=fnR fn N vs ic):fnC P f N rs ic:=by
 intro G pre res hsz hw
 simp only [fnL,fnR,Prod.mk.injEq,Option.map_eq_some_iff,decide_eq_true_eq] at h
 obtain ⟨h1,h2,⟨c,hc,he⟩,h4,h5,h6,h7,h8⟩:=h
 exact ACalls.of_walk h1 h2 hc h4 h5 h6 he h7 h8 (of_decide_eq_true hsz) hw
theorem c39 (fn:Func) {vs:List ResultVar} (h:fnL P f fn N rs vs ic=fnR fn N vs ic):fnX P f N rs vs ic:=by
 intro G pre res posts pins hpin hpo hpr hnr hsz hw
 simp only [fnL,fnR,Prod.mk.injEq,Option.map_eq_some_iff,decide_eq_true_eq] at h
 obtain ⟨h1,h2,⟨c,hc,he⟩,h4,h5,h6,h7,h8⟩:=h
 exact ACallsX.of_walk h1 h2 hc h4 h5 h6 he h7 h8 hpin (of_decide_eq_true hsz) hpo hpr hnr hw
end
end Go.Ideal
end
section
namespace Go.Ideal.Tryd
noncomputable abbrev pg:Program:=Go.Proofs.Tryd.prog
@[go_sem] def order_Sort_r10:List AO:=[om 43 6,
 oo 44 (.load 53 none (.g 1)),
 oo 45 (.build 108 [.lit (.int .i64 0),.lit .nilIface] [(0,0,1,(.t 43)),(1,1,1,(.t 44))]),
 oo 46 (.box 108 2 (.t 45)),
 oo 47 (.mki 106 (.t 46)),
 oo 2 (.asg (.nl 1)),
 oo 3 (.asg (.t 47))]
def a3c:IC:=(.seq (.reg [oo 32 (.bin .lss 3 0 (.t 31) (.t 30) 3)]) (.seq (.cond (.t 32) .skip (.exit 2)) (.seq (.block 3 (.seq (.reg [oo 33 (.iaddr 34 1 (.t 29) (.t 31)),
 oo 34 (.load 3 none (.t 33)),
 oo 9 (.asg (.t 34))]) (.seq (.seq (.reg [om 35 9,
 oo 36 (.bin .lss 3 0 (.t 35) (.n 0) 3),
 om 37 36,
 og 38 (.mv (.t 9)) 2 37 false,
 og 39 (.mv (.t 0)) 2 37 false,
 og 40 (.len 90 false (.t 39)) 2 37 false,
 og 41 (.bin .geq 3 0 (.t 38) (.t 40) 3) 2 37 false,
 oo 42 (.pick (.t 37) (.c (.bool true)) (.t 41))]) (.cond (.t 42) (.seq (.draw order_Sort_r10 [[],[],[0,1],[2],[3],[],[4,5,0,1,2,3,4,5]]) .ret) .skip)) (.seq (.reg [om 48 5,
 om 49 9,
 om 50 5,
 om 51 9,
 oo 52 (.iaddr 90 1 (.t 50) (.t 51)),
 oo 53 (.load 34 none (.t 52)),
 om 54 6,
 oo 55 (.bslice 34 3 1 1 [.lit (.int .i64 0)] [(0,(.t 54))]),
 oo 56 (.app 34 3 1 8 (.t 53) (.t 55)),
 oo 57 (.iaddr 90 1 (.t 48) (.t 49)),
 ov (.store 34 1 (.t 57) (.t 56))]) (.reg [om 58 4,
 om 59 6,
 oo 60 (.iaddr 34 1 (.t 58) (.t 59)),
 oo 61 (.load 3 none (.t 60)),
 oo 62 (.bin .add 3 0 (.t 61) (.n 1) 3),
 oo 63 (.iaddr 34 1 (.t 58) (.t 59)),
 ov (.store 3 1 (.t 63) (.t 62))]))))) (.reg [oo 64 (.bin .add 3 0 (.t 31) (.n 1) 3),
 om 31 64]))))
def a5r:IC:=(.seq (.reg [oo 25 (.bin .lss 3 0 (.t 24) (.t 23) 3)]) (.seq (.cond (.t 25) .skip (.exit 0)) (.seq (.block 1 (.seq (.reg [om 26 24,
 oo 27 (.iaddr 90 1 (.t 22) (.t 24)),
 oo 28 (.load 34 none (.t 27)),
 oo 6 (.asg (.t 26)),
 oo 7 (.asg (.t 28))]) (.seq (.reg [om 29 7,
 oo 30 (.len 34 false (.t 29)),
 oo 31 (.mv (.n 0))]) (.block 2 (.loop a3c))))) (.reg [oo 65 (.bin .add 3 0 (.t 24) (.n 1) 3),
 om 24 65]))))
def a5s:IC:=(.seq (.reg [oo 98 (.bin .lss 3 0 (.t 97) (.t 96) 3)]) (.seq (.cond (.t 98) .skip (.exit 8)) (.seq (.block 9 (.seq (.reg [oo 99 (.iaddr 34 1 (.t 95) (.t 97)),
 oo 100 (.load 3 none (.t 99)),
 oo 14 (.asg (.t 100))]) (.reg [om 101 4,
 om 102 14,
 oo 103 (.iaddr 34 1 (.t 101) (.t 102)),
 oo 104 (.load 3 none (.t 103)),
 oo 105 (.bin .sub 3 0 (.t 104) (.n 1) 3),
 oo 106 (.iaddr 34 1 (.t 101) (.t 102)),
 ov (.store 3 1 (.t 106) (.t 105))]))) (.reg [oo 107 (.bin .add 3 0 (.t 97) (.n 1) 3),
 om 97 107]))))
def a3d:IC:=(.seq (.reg [oo 72 (.bin .lss 3 0 (.t 71) (.t 70) 3)]) (.seq (.cond (.t 72) .skip (.exit 6)) (.seq (.block 7 (.seq (.reg [om 73 71,
 oo 12 (.asg (.t 73))]) (.seq (.seq (.reg [om 74 11,
 om 75 12,
 oo 76 (.iaddr 123 1 (.t 74) (.t 75)),
 oo 77 (.load 4 none (.t 76)),
 om 78 77,
 og 79 (.mv (.t 4)) 4 78 false,
 og 80 (.mv (.t 12)) 4 78 false,
 og 81 (.iaddr 34 1 (.t 79) (.t 80)) 4 78 false,
 og 82 (.load 3 none (.t 81)) 4 78 false,
 og 83 (.bin .gtr 3 0 (.t 82) (.n 0) 3) 4 78 false,
 oo 84 (.pick (.t 78) (.c (.bool true)) (.t 83))]) (.cond (.t 84) (.exit 7) .skip)) (.seq (.reg [om 85 11,
 om 86 12,
 oo 87 (.iaddr 123 1 (.t 85) (.t 86)),
 ov (.store 4 1 (.t 87) (.c (.bool true)))]) (.seq (.reg [om 88 10,
 om 89 12,
 oo 90 (.bslice 34 3 1 1 [.lit (.int .i64 0)] [(0,(.t 89))]),
 oo 91 (.app 34 3 1 8 (.t 88) (.t 90)),
 oo 10 (.asg (.t 91))]) (.seq (.seq (.reg [om 92 5,
 om 93 12,
 oo 94 (.iaddr 90 1 (.t 92) (.t 93)),
 oo 95 (.load 34 none (.t 94)),
 oo 96 (.len 34 false (.t 95)),
 oo 97 (.mv (.n 0))]) (.block 8 (.loop a5s))) (.exit 5))))))) (.reg [oo 108 (.bin .add 3 0 (.t 71) (.n 1) 3),
 om 71 108]))))
def a75:IC:=(.block 5 (.seq (.seq (.reg [om 69 4,
 oo 70 (.len 34 false (.t 69)),
 oo 71 (.mv (.n 0))]) (.block 6 (.loop a3d))) (.exit 4)))
def b2r:IC:=(.seq (.reg [oo 2 (.asg (.nl 1)),
 oo 3 (.asg (.c .nilIface))]) (.scope (.seq (.reg [om 16 0,
 oo 17 (.len 90 false (.t 16)),
 oo 18 (.mks 34 3 1 8 [.lit (.int .i64 0)] (.t 17) (.t 17)),
 oo 4 (.asg (.t 18))]) (.seq (.reg [om 19 0,
 oo 20 (.len 90 false (.t 19)),
 oo 21 (.mks 90 34 1 24 [.own 1 0 []] (.t 20) (.t 20)),
 oo 5 (.asg (.t 21))]) (.seq (.seq (.reg [om 22 0,
 oo 23 (.len 90 false (.t 22)),
 oo 24 (.mv (.n 0))]) (.block 0 (.loop a5r))) (.seq (.reg [oo 10 (.asg (.nl 1))]) (.seq (.reg [om 66 0,
 oo 67 (.len 90 false (.t 66)),
 oo 68 (.mks 123 4 1 1 [.lit (.bool false)] (.t 67) (.t 67)),
 oo 11 (.asg (.t 68))]) (.seq (.label 0) (.seq (.block 4 (.loop a75)) (.seq (.seq (.reg [om 109 11,
 oc 110 62 [(false,(.t 109)),(false,(.c (.bool false)))] [123,4],
 oo 15 (.asg (.t 110))]) (.seq (.reg [om 111 15,
 oo 112 (.bin .geq 3 0 (.t 111) (.n 0) 3)]) (.cond (.t 112) (.seq (.draw [om 113 15,
 oo 114 (.load 53 none (.g 3)),
 oo 115 (.build 108 [.lit (.int .i64 0),.lit .nilIface] [(0,0,1,(.t 113)),(1,1,1,(.t 114))]),
 oo 116 (.box 108 2 (.t 115)),
 oo 117 (.mki 106 (.t 116)),
 oo 2 (.asg (.nl 1)),
 oo 3 (.asg (.t 117))] [[],[],[0,1],[2],[3],[],[4,5,0,1,2,3,4,5]]) .ret) .skip))) (.seq (.reg [om 118 10,
 oo 2 (.asg (.t 118)),
 oo 3 (.asg (.c .nilIface))]) .ret)))))))))))
abbrev b86:Nat:=41
theorem b4r:fnC pg 41 119 [(.tmp 2),(.tmp 3)] b2r:=a05 Go.Proofs.Tryd.f41 [(.tmp 2),(.tmp 3)] (by kernel_rfl)
@[go_sem] theorem d0o:fnB pg 41=true:=by kernel_rfl
def a3i:IC:=(.seq (.seq (.reg [om 12 5,
 om 13 0,
 oo 14 (.len 34 false (.t 13)),
 oo 15 (.bin .lss 3 0 (.t 12) (.t 14) 3)]) (.cond (.t 15) .skip (.exit 0))) (.seq (.block 1 (.seq (.draw [om 18 0,
 om 19 5,
 oo 20 (.iaddr 34 1 (.t 18) (.t 19)),
 oo 21 (.load 3 none (.t 20)),
 om 22 1,
 om 23 5,
 oo 24 (.iaddr 34 1 (.t 22) (.t 23)),
 oo 25 (.load 3 none (.t 24)),
 oo 26 (.bin .eql 3 0 (.t 21) (.t 25) 3),
 oo 6 (.asg (.t 26))] [[],[],[0,1],[2],[],[],[4,5],[6],[3,7],[8,0,1,2,3,4,5,6,7,8]]) (.seq (.reg [om 27 6,
 oo 28 (.un .not 4 (.t 27))]) (.cond (.t 28) (.seq (.reg [oo 4 (.asg (.c (.bool false)))]) .ret) .skip)))) (.reg [om 16 5,
 oo 17 (.bin .add 3 0 (.t 16) (.n 1) 3),
 oo 5 (.asg (.t 17))])))
def a3w:IC:=(.seq (.reg [oo 4 (.asg (.c (.bool false)))]) (.seq (.seq (.reg [om 7 0,
 oo 8 (.len 34 false (.t 7)),
 om 9 1,
 oo 10 (.len 34 false (.t 9)),
 oo 11 (.bin .neq 3 0 (.t 8) (.t 10) 3)]) (.cond (.t 11) (.seq (.reg [oo 4 (.asg (.c (.bool false)))]) .ret) .skip)) (.seq (.seq (.reg [oo 5 (.asg (.n 0))]) (.block 0 (.loop a3i))) (.seq (.reg [oo 4 (.asg (.c (.bool true)))]) .ret))))
abbrev a9r:Nat:=19
theorem a8g:fnC pg 19 29 [(.tmp 4)] a3w:=a05 Go.Proofs.Tryd.f19 [(.tmp 4)] (by kernel_rfl)
@[go_sem] theorem b97:fnB pg 19=true:=by kernel_rfl
def a57:IC:=(.seq (.reg [oo 4 (.asg (.n 0))]) (.seq (.reg [om 5 0,
 om 6 1,
 oo 7 (.bin .rem 3 0 (.t 5) (.t 6) 3),
 om 8 1,
 oo 9 (.bin .add 3 0 (.t 7) (.t 8) 3),
 om 10 1,
 oo 11 (.bin .rem 3 0 (.t 9) (.t 10) 3),
 oo 4 (.asg (.t 11))]) .ret))
abbrev a9s:Nat:=13
theorem a8h:fnC pg 13 12 [(.tmp 4)] a57:=a05 Go.Proofs.Tryd.f13 [(.tmp 4)] (by kernel_rfl)
@[go_sem] theorem b98:fnB pg 13=true:=by kernel_rfl
def a2f:IC:=(.seq (.reg [oo 9 (.bin .lss 3 0 (.t 8) (.t 7) 3)]) (.seq (.cond (.t 9) .skip (.exit 0)) (.seq (.block 1 (.seq (.reg [om 10 8,
 oo 5 (.asg (.t 10))]) (.seq (.reg [om 11 1,
 om 12 0,
 om 13 5,
 oo 14 (.iaddr 123 1 (.t 12) (.t 13)),
 oo 15 (.load 4 none (.t 14)),
 oo 16 (.bin .eql 4 1 (.t 11) (.t 15) 4)]) (.cond (.t 16) (.seq (.reg [om 17 5,
 oo 4 (.asg (.t 17))]) .ret) .skip)))) (.reg [oo 18 (.bin .add 3 0 (.t 8) (.n 1) 3),
 om 8 18]))))
def a6c:IC:=(.seq (.reg [oo 4 (.asg (.n 0))]) (.seq (.seq (.reg [om 6 0,
 oo 7 (.len 123 false (.t 6)),
 oo 8 (.mv (.n 0))]) (.block 0 (.loop a2f))) (.seq (.reg [oo 4 (.asg (.n (-1)))]) .ret)))
abbrev a9u:Nat:=62
theorem a8i:fnC pg 62 19 [(.tmp 4)] a6c:=a05 Go.Proofs.Tryd.f62 [(.tmp 4)] (by kernel_rfl)
@[go_sem] theorem c01:fnB pg 62=true:=by kernel_rfl
def a29:IC:=(.seq (.reg [oo 24 (.bin .lss 3 0 (.t 23) (.t 22) 3)]) (.seq (.cond (.t 24) .skip (.exit 2)) (.seq (.block 3 (.seq (.reg [oo 25 (.iaddr 34 1 (.t 21) (.t 23)),
 oo 26 (.load 3 none (.t 25)),
 oo 7 (.asg (.t 26))]) (.seq (.reg [om 27 7,
 oo 28 (.bin .geq 3 0 (.t 27) (.n 0) 3),
 om 29 28,
 og 30 (.mv (.t 7)) 2 29 true,
 og 31 (.mv (.t 3)) 2 29 true,
 og 32 (.len 90 false (.t 31)) 2 29 true,
 og 33 (.bin .lss 3 0 (.t 30) (.t 32) 3) 2 29 true,
 oo 34 (.pick (.t 29) (.t 33) (.c (.bool false))),
 om 35 34,
 og 36 (.mv (.t 3)) 8 35 true,
 og 37 (.mv (.t 7)) 8 35 true,
 og 38 (.iaddr 90 1 (.t 36) (.t 37)) 8 35 true,
 og 39 (.load 34 none (.t 38)) 8 35 true,
 og 40 (.mv (.t 4)) 8 35 true,
 ⟨(some 41),.call 123 [(false,(.t 39)),(false,(.t 40))] [34,3],(some (8,35,true))⟩,
 og 42 (.un .not 4 (.t 41)) 8 35 true,
 oo 43 (.pick (.t 35) (.t 42) (.c (.bool false)))]) (.cond (.t 43) (.reg [om 44 3,
 om 45 7,
 om 46 3,
 om 47 7,
 oo 48 (.iaddr 90 1 (.t 46) (.t 47)),
 oo 49 (.load 34 none (.t 48)),
 om 50 4,
 oo 51 (.bslice 34 3 1 1 [.lit (.int .i64 0)] [(0,(.t 50))]),
 oo 52 (.app 34 3 1 8 (.t 49) (.t 51)),
 oo 53 (.iaddr 90 1 (.t 44) (.t 45)),
 ov (.store 34 1 (.t 53) (.t 52))]) .skip)))) (.reg [oo 54 (.bin .add 3 0 (.t 23) (.n 1) 3),
 om 23 54]))))
def a7z:IC:=(.seq (.reg [oo 16 (.bin .lss 3 0 (.t 15) (.t 14) 3)]) (.seq (.cond (.t 16) .skip (.exit 0)) (.seq (.block 1 (.seq (.reg [om 17 15,
 oo 18 (.iaddr 47 6 (.t 13) (.t 15)),
 oo 19 (.load 46 (some 6) (.t 18)),
 oo 5 (.alloc 46 [.lit (.int .i64 0),.own 1 0 [],.own 1 0 [],.own 1 0 [],.lit (.bool false),.own 1 0 []]),
 oo 4 (.asg (.t 17)),
 ov (.store 46 6 (.t 5) (.t 19))]) (.seq (.reg [oo 20 (.faddr 46 1 (.t 5) 1),
 oo 21 (.load 34 none (.t 20)),
 oo 22 (.len 34 false (.t 21)),
 oo 23 (.mv (.n 0))]) (.block 2 (.loop a29))))) (.reg [oo 55 (.bin .add 3 0 (.t 15) (.n 1) 3),
 om 15 55]))))
def b2e:IC:=(.seq (.reg [oo 1 (.box 49 2 (.t 0)),
 oo 2 (.asg (.nl 1))]) (.seq (.reg [oo 8 (.faddr 49 0 (.t 1) 0),
 oo 9 (.load 47 none (.t 8)),
 oo 10 (.len 47 false (.t 9)),
 oo 11 (.mks 90 34 1 24 [.own 1 0 []] (.t 10) (.t 10)),
 oo 3 (.asg (.t 11))]) (.seq (.seq (.reg [oo 12 (.faddr 49 0 (.t 1) 0),
 oo 13 (.load 47 none (.t 12)),
 oo 14 (.len 47 false (.t 13)),
 oo 15 (.mv (.n 0))]) (.block 0 (.loop a7z))) (.seq (.reg [om 56 3,
 oo 2 (.asg (.t 56))]) .ret))))
abbrev b8z:Nat:=103
theorem b38:fnC pg 103 57 [(.tmp 2)] b2e:=a05 Go.Proofs.Tryd.f103 [(.tmp 2)] (by kernel_rfl)
@[go_sem] theorem d0g:fnB pg 103=true:=by kernel_rfl
def a5d:IC:=(.seq (.reg [oo 4 (.asg (.c (.bool false)))]) (.seq (.reg [om 5 0,
 om 6 1,
 oc 7 128 [(false,(.t 5)),(false,(.t 6))] [34,3],
 oo 8 (.bin .geq 3 0 (.t 7) (.n 0) 3),
 oo 4 (.asg (.t 8))]) .ret))
abbrev a8l:Nat:=123
theorem a7o:fnC pg 123 9 [(.tmp 4)] a5d:=a05 Go.Proofs.Tryd.f123 [(.tmp 4)] (by kernel_rfl)
@[go_sem] theorem b8j:fnB pg 123=true:=by kernel_rfl
def a5w:IC:=(.seq (.reg [oo 25 (.bin .lss 3 0 (.t 24) (.t 23) 3)]) (.seq (.cond (.t 25) .skip (.exit 0)) (.seq (.block 1 (.seq (.reg [om 26 24,
 oo 27 (.iaddr 34 1 (.t 22) (.t 24)),
 oo 28 (.load 3 none (.t 27)),
 oo 4 (.asg (.t 26)),
 oo 5 (.asg (.t 28))]) (.seq (.reg [om 29 5,
 oo 30 (.faddr 44 0 (.t 1) 0),
 oo 31 (.faddr 39 1 (.t 30) 1),
 oo 32 (.load 4 none (.t 31)),
 oc 33 99 [(false,(.t 29)),(false,(.t 32))] [3,4],
 oo 34 (.un .not 4 (.t 33))]) (.cond (.t 34) (.seq (.reg [om 35 4,
 oo 36 (.load 53 none (.g 7)),
 oo 37 (.build 108 [.lit (.int .i64 0),.lit .nilIface] [(0,0,1,(.t 35)),(1,1,1,(.t 36))]),
 oo 38 (.box 108 2 (.t 37)),
 oo 39 (.mki 106 (.t 38)),
 oo 2 (.asg (.t 39))]) .ret) .skip)))) (.reg [oo 40 (.bin .add 3 0 (.t 24) (.n 1) 3),
 om 24 40]))))
def b2z:IC:=(.seq (.reg [oo 1 (.box 44 3 (.t 0)),
 oo 2 (.asg (.c .nilIface))]) (.seq (.seq (.reg [oo 6 (.faddr 44 0 (.t 1) 0),
 oo 7 (.load 39 (some 2) (.t 6)),
 oc 8 98 [(false,(.t 7))] [39],
 oo 3 (.asg (.t 8))]) (.seq (.reg [om 9 3,
 oo 10 (.bin .neq 53 2 (.t 9) (.c .nilIface) 53)]) (.cond (.t 10) (.seq (.reg [om 11 3,
 oo 2 (.asg (.t 11))]) .ret) .skip))) (.seq (.seq (.draw [oo 12 (.faddr 44 2 (.t 1) 1),
 oo 13 (.load 34 none (.t 12)),
 oo 14 (.len 34 false (.t 13)),
 oo 15 (.faddr 44 0 (.t 1) 0),
 oo 16 (.faddr 39 0 (.t 15) 0),
 oo 17 (.load 34 none (.t 16)),
 oc 18 73 [(false,(.t 17))] [34],
 oo 19 (.bin .neq 3 0 (.t 14) (.t 18) 3)] [[],[0],[1],[],[3],[4],[5],[2,6]]) (.cond (.t 19) (.seq (.reg [oo 20 (.load 53 none (.g 5)),
 oo 2 (.asg (.t 20))]) .ret) .skip)) (.seq (.seq (.reg [oo 21 (.faddr 44 2 (.t 1) 1),
 oo 22 (.load 34 none (.t 21)),
 oo 23 (.len 34 false (.t 22)),
 oo 24 (.mv (.n 0))]) (.block 0 (.loop a5w))) (.seq (.reg [oo 2 (.asg (.c .nilIface))]) .ret)))))
abbrev b9b:Nat:=67
theorem b5d:fnC pg 67 41 [(.tmp 2)] b2z:=a05 Go.Proofs.Tryd.f67 [(.tmp 2)] (by kernel_rfl)
@[go_sem] theorem d0u:fnB pg 67=true:=by kernel_rfl
def a2k:IC:=(.seq (.reg [oo 9 (.bin .lss 3 0 (.t 8) (.t 7) 3)]) (.seq (.cond (.t 9) .skip (.exit 0)) (.seq (.block 1 (.seq (.reg [om 10 8,
 oo 5 (.asg (.t 10))]) (.seq (.reg [om 11 1,
 om 12 0,
 om 13 5,
 oo 14 (.iaddr 34 1 (.t 12) (.t 13)),
 oo 15 (.load 3 none (.t 14)),
 oo 16 (.bin .eql 3 0 (.t 11) (.t 15) 3)]) (.cond (.t 16) (.seq (.reg [om 17 5,
 oo 4 (.asg (.t 17))]) .ret) .skip)))) (.reg [oo 18 (.bin .add 3 0 (.t 8) (.n 1) 3),
 om 8 18]))))
def a6p:IC:=(.seq (.reg [oo 4 (.asg (.n 0))]) (.seq (.seq (.reg [om 6 0,
 oo 7 (.len 34 false (.t 6)),
 oo 8 (.mv (.n 0))]) (.block 0 (.loop a2k))) (.seq (.reg [oo 4 (.asg (.n (-1)))]) .ret)))
abbrev b0f:Nat:=128
theorem a89:fnC pg 128 19 [(.tmp 4)] a6p:=a05 Go.Proofs.Tryd.f128 [(.tmp 4)] (by kernel_rfl)
@[go_sem] theorem c1g:fnB pg 128=true:=by kernel_rfl
def a2s:IC:=(.seq (.reg [oo 17 (.bin .lss 3 0 (.t 16) (.t 15) 3)]) (.seq (.cond (.t 17) .skip (.exit 0)) (.seq (.block 1 (.seq (.reg [oo 18 (.iaddr 34 1 (.t 14) (.t 16)),
 oo 19 (.load 3 none (.t 18)),
 oo 5 (.asg (.t 19))]) (.seq (.reg [om 20 5,
 oo 21 (.bin .lss 3 0 (.t 20) (.n 1) 3),
 om 22 21,
 og 23 (.mv (.t 5)) 2 22 false,
 og 24 (.bin .gtr 3 0 (.t 23) (.n 256) 3) 2 22 false,
 oo 25 (.pick (.t 22) (.c (.bool true)) (.t 24))]) (.cond (.t 25) (.seq (.reg [oo 26 (.load 53 none (.g 7)),
 oo 2 (.asg (.t 26))]) .ret) .skip)))) (.reg [oo 27 (.bin .add 3 0 (.t 16) (.n 1) 3),
 om 16 27]))))
def a3p:IC:=(.seq (.reg [oo 32 (.bin .lss 3 0 (.t 31) (.t 30) 3)]) (.seq (.cond (.t 32) .skip (.exit 2)) (.seq (.block 3 (.seq (.reg [oo 33 (.iaddr 34 1 (.t 29) (.t 31)),
 oo 34 (.load 3 none (.t 33)),
 oo 7 (.asg (.t 34))]) (.seq (.reg [om 35 3,
 om 36 7,
 oo 37 (.bin .mul 3 0 (.t 35) (.t 36) 3),
 oo 3 (.asg (.t 37))]) (.seq (.reg [om 38 3,
 oo 39 (.bin .gtr 3 0 (.t 38) (.n 16384) 3)]) (.cond (.t 39) (.seq (.reg [oo 40 (.load 53 none (.g 0)),
 oo 2 (.asg (.t 40))]) .ret) .skip))))) (.reg [oo 41 (.bin .add 3 0 (.t 31) (.n 1) 3),
 om 31 41]))))
def a79:IC:=(.seq (.reg [oo 1 (.box 39 2 (.t 0)),
 oo 2 (.asg (.c .nilIface))]) (.seq (.seq (.reg [oo 8 (.faddr 39 0 (.t 1) 0),
 oo 9 (.load 34 none (.t 8)),
 oo 10 (.len 34 false (.t 9)),
 oo 11 (.bin .gtr 3 0 (.t 10) (.n 4) 3)]) (.cond (.t 11) (.seq (.reg [oo 12 (.load 53 none (.g 0)),
 oo 2 (.asg (.t 12))]) .ret) .skip)) (.seq (.reg [oo 3 (.asg (.n 1))]) (.seq (.seq (.reg [oo 13 (.faddr 39 0 (.t 1) 0),
 oo 14 (.load 34 none (.t 13)),
 oo 15 (.len 34 false (.t 14)),
 oo 16 (.mv (.n 0))]) (.block 0 (.loop a2s))) (.seq (.seq (.reg [oo 28 (.faddr 39 0 (.t 1) 0),
 oo 29 (.load 34 none (.t 28)),
 oo 30 (.len 34 false (.t 29)),
 oo 31 (.mv (.n 0))]) (.block 2 (.loop a3p))) (.seq (.reg [oo 2 (.asg (.c .nilIface))]) .ret))))))
abbrev b7b:Nat:=98
theorem b3b:fnC pg 98 42 [(.tmp 2)] a79:=a05 Go.Proofs.Tryd.f98 [(.tmp 2)] (by kernel_rfl)
@[go_sem] theorem c9q:fnB pg 98=true:=by kernel_rfl
def a6y:IC:=(.seq (.reg [oo 12 (.bin .lss 3 0 (.t 11) (.t 10) 3)]) (.seq (.cond (.t 12) .skip (.exit 0)) (.seq (.block 1 (.seq (.reg [oo 13 (.iaddr 34 1 (.t 9) (.t 11)),
 oo 14 (.load 3 none (.t 13)),
 oo 5 (.asg (.t 14))]) (.reg [om 15 3,
 om 16 5,
 oo 17 (.bin .mul 3 0 (.t 15) (.t 16) 3),
 oo 3 (.asg (.t 17))]))) (.reg [oo 18 (.bin .add 3 0 (.t 11) (.n 1) 3),
 om 11 18]))))
def b1j:IC:=(.seq (.reg [oo 2 (.asg (.n 0))]) (.seq (.seq (.reg [om 6 0,
 oc 7 107 [(false,(.t 6))] [34],
 oo 8 (.un .not 4 (.t 7))]) (.cond (.t 8) (.seq (.reg [oo 2 (.asg (.n 0))]) .ret) .skip)) (.seq (.reg [oo 3 (.asg (.n 1))]) (.seq (.seq (.reg [om 9 0,
 oo 10 (.len 34 false (.t 9)),
 oo 11 (.mv (.n 0))]) (.block 0 (.loop a6y))) (.seq (.reg [om 19 3,
 oo 2 (.asg (.t 19))]) .ret)))))
abbrev b7a:Nat:=73
theorem b3a:fnC pg 73 20 [(.tmp 2)] b1j:=a05 Go.Proofs.Tryd.f73 [(.tmp 2)] (by kernel_rfl)
@[go_sem] theorem c9p:fnB pg 73=true:=by kernel_rfl
def a98:IC:=(.seq (.reg [oo 4 (.asg (.c (.bool false)))]) (.seq (.seq (.reg [om 5 1]) (.cond (.t 5) (.seq (.reg [om 6 0,
 oo 7 (.bin .geq 3 0 (.t 6) (.n (-2147483648)) 3),
 om 8 7,
 og 9 (.mv (.t 0)) 2 8 true,
 og 10 (.bin .leq 3 0 (.t 9) (.n 2147483647) 3) 2 8 true,
 oo 11 (.pick (.t 8) (.t 10) (.c (.bool false))),
 oo 4 (.asg (.t 11))]) .ret) .skip)) (.seq (.reg [om 12 0,
 oo 13 (.bin .geq 3 0 (.t 12) (.n (-128)) 3),
 om 14 13,
 og 15 (.mv (.t 0)) 2 14 true,
 og 16 (.bin .leq 3 0 (.t 15) (.n 127) 3) 2 14 true,
 oo 17 (.pick (.t 14) (.t 16) (.c (.bool false))),
 oo 4 (.asg (.t 17))]) .ret)))
abbrev c1m:Nat:=99
theorem b52:fnC pg 99 18 [(.tmp 4)] a98:=a05 Go.Proofs.Tryd.f99 [(.tmp 4)] (by kernel_rfl)
@[go_sem] theorem d3d:fnB pg 99=true:=by kernel_rfl
def b1h:IC:=(.seq (.reg [oo 1 (.box 39 2 (.t 0)),
 oo 2 (.asg (.n 0))]) (.seq (.seq (.reg [oo 3 (.faddr 39 1 (.t 1) 1),
 oo 4 (.load 4 none (.t 3))]) (.cond (.t 4) (.seq (.reg [oo 5 (.faddr 39 0 (.t 1) 0),
 oo 6 (.load 34 none (.t 5)),
 oc 7 73 [(false,(.t 6))] [34],
 oo 8 (.bin .mul 3 0 (.n 4) (.t 7) 3),
 oo 2 (.asg (.t 8))]) .ret) .skip)) (.seq (.reg [oo 9 (.faddr 39 0 (.t 1) 0),
 oo 10 (.load 34 none (.t 9)),
 oc 11 73 [(false,(.t 10))] [34],
 oo 2 (.asg (.t 11))]) .ret)))
abbrev b68:Nat:=105
theorem b28:fnC pg 105 12 [(.tmp 2)] b1h:=a05 Go.Proofs.Tryd.f105 [(.tmp 2)] (by kernel_rfl)
@[go_sem] theorem c9n:fnB pg 105=true:=by kernel_rfl
def b2x:IC:=(.seq (.reg [oo 2 (.asg (.c (.bool false)))]) (.seq (.reg [om 3 0,
 oo 4 (.build 39 [.own 1 0 [],.lit (.bool false)] [(0,0,1,(.t 3))]),
 oc 5 98 [(false,(.t 4))] [39],
 oo 6 (.bin .eql 53 2 (.t 5) (.c .nilIface) 53),
 oo 2 (.asg (.t 6))]) .ret))
abbrev b89:Nat:=107
theorem b48:fnC pg 107 7 [(.tmp 2)] b2x:=a05 Go.Proofs.Tryd.f107 [(.tmp 2)] (by kernel_rfl)
@[go_sem] theorem d0r:fnB pg 107=true:=by kernel_rfl
abbrev li (n:Int):AV:= .lit (.int .i64 n)
abbrev lb (b:Bool):AV:= .lit (.bool b)
abbrev f5y (k:Int) (p:Bool) (n:Int):AV:= .agg [li k,lb p,li n]
@[go_sem] abbrev c48:Nat:=198
@[go_sem] abbrev g0x:Nat:=106
def cn (g:Nat):Nat:=[2,0,9,1,5,6,7,3,99,4,8,10,11,12,13,14,15,16,17,18,19,20].getD g g
def gn (g:Nat):Nat:=[1,3,0,7,9,4,5,6,10,2,11,12,13,14,15,16,17,18,19,20,21].getD g g
@[go_sem] theorem g53:cn 0=2:=(rfl)
@[go_sem] theorem g54:cn 1=0:=(rfl)
@[go_sem] theorem g55:cn 2=9:=(rfl)
@[go_sem] theorem g56:cn 3=1:=(rfl)
@[go_sem] theorem g57:cn 4=5:=(rfl)
@[go_sem] theorem g58:cn 5=6:=(rfl)
@[go_sem] theorem g59:cn 6=7:=(rfl)
@[go_sem] theorem g6a:cn 7=3:=(rfl)
@[go_sem] theorem g6b:cn 9=4:=(rfl)
@[go_sem] theorem g4s:cn 10=8:=(rfl)
@[go_sem] theorem g4t:cn 11=10:=(rfl)
@[go_sem] theorem g4u:cn 12=11:=(rfl)
@[go_sem] theorem g4v:cn 13=12:=(rfl)
@[go_sem] theorem g4w:cn 14=13:=(rfl)
@[go_sem] theorem g4x:cn 15=14:=(rfl)
@[go_sem] theorem g4y:cn 16=15:=(rfl)
@[go_sem] theorem g4z:cn 17=16:=(rfl)
@[go_sem] theorem g40:cn 18=17:=(rfl)
@[go_sem] theorem g41:cn 19=18:=(rfl)
@[go_sem] theorem g42:cn 20=19:=(rfl)
@[go_sem] theorem g43:cn 21=20:=(rfl)
structure Sent (G:GG) (bk:Nat->Nat×Nat):Prop where
 val:∀ g,g < 22/\g≠8->G g=some (.iface c48 (.pointer (some ⟨(bk (cn g)).1,(bk (cn g)).2,none⟩)))
 blk:∀ g,g < 21->(G (bk g).1).isSome=true
 inj:∀ g h,g < 21->h < 21->bk g=bk h->g=h
structure Sent5 (G:GG) (bk:Nat->Nat×Nat):Prop where
 val:∀ g,g=0\/g=4\/g=5\/g=7\/g=9->G g=some (.iface c48 (.pointer (some ⟨(bk (cn g)).1,(bk (cn g)).2,none⟩)))
 blk:∀ g,2<=g/\g<=6->(G (bk g).1).isSome=true
 inj:∀ g h,2<=g/\g<=6->2<=h/\h<=6->bk g=bk h->g=h
structure Sent3 (G:GG) (bk:Nat->Nat×Nat):Prop where
 val:∀ g,g=0\/g=5\/g=7->G g=some (.iface c48 (.pointer (some ⟨(bk (cn g)).1,(bk (cn g)).2,none⟩)))
theorem Sent5.three {G:GG} {bk:Nat->Nat×Nat} (h:Sent5 G bk):Sent3 G bk:=⟨fun g hg=>h.val g (by omega)⟩
structure SentO (G:GG) (bk:Nat->Nat×Nat):Prop where
 val:∀ g,g=0\/g=1\/g=3\/g=4\/g=5\/g=6\/g=7->G g=some (.iface c48 (.pointer (some ⟨(bk (cn g)).1,(bk (cn g)).2,none⟩)))
theorem Sent.o {G:GG} {bk:Nat->Nat×Nat} (h:Sent G bk):SentO G bk:=⟨fun g hg=>h.val g (by omega)⟩
theorem SentO.three {G:GG} {bk:Nat->Nat×Nat} (h:SentO G bk):Sent3 G bk:=⟨fun g hg=>h.val g (by omega)⟩
instance {G:GG} {bk:Nat->Nat×Nat}:Coe (Sent G bk) (SentO G bk):=⟨Sent.o⟩
@[go_sem] abbrev sv (bk:Nat->Nat×Nat) (g:Nat):AV:= .lit (.iface c48 (.pointer (some ⟨(bk g).1,(bk g).2,none⟩)))
def c9h:List Nat:=[6,3,5,2,4,7,0,8,9,10,1,11,12,13,14,15,16,17,18,19,20]
abbrev slB (xs:List Bool):AV:= .sl xs.length (xs.map lb)
abbrev slI (xs:List Int):AV:= .sl xs.length (xs.map li)
abbrev owI (xs:List Int):AV:= .own 1 xs.length (xs.map li)
abbrev owB (xs:List Bool):AV:= .own 1 xs.length (xs.map lb)
abbrev b0b (xs:List (List Int)):AV:= .sl xs.length (xs.map slI)
abbrev b5o (xs:List (List Int)):AV:= .own 1 xs.length (xs.map owI)
attribute [go_sem] slB slI owI owB b0b b5o
@[go_sem] theorem a1i (xs:List Int):a0z (xs.map li)=true:=b12 fun x=>by simp only [a0y]
@[go_sem] theorem e6c (xs:List Bool):a0z (xs.map lb)=true:=b12 fun x=>by simp only [a0y]
@[go_sem] theorem e6l (xs:List Int):a0m (xs.map li)=true:=b14 fun x=>by simp only [a0n]
@[go_sem] theorem e6k (xs:List Bool):a0m (xs.map lb)=true:=b14 fun x=>by simp only [a0n]
def a2z (v:Bool):List Bool->Nat->Int
 | [],_=> -1
 | x::xs,i=>if v=x then i else a2z v xs (i+1)
theorem c2o {v:Bool} {bs:List Bool} {i k:Nat} (h:i < bs.length):a2z v (bs.drop i) k=if v=bs[i] then (k:Int) else a2z v (bs.drop (i+1)) (k+1):=by
 rw [List.drop_eq_getElem_cons h]; rfl
theorem d52 (G:GG) (bs:List Bool) (v:Bool) (hlen:bs.length < 2 ^ 62):ACalls pg G a9u [slB bs,lb v] (li (a2z v bs 0)):=by
 refine a8i rfl ?_
 simp (disch:=omega) [go_sem,a6c]
 refine a0x Nat (fun i st=>st.s 0=slB bs/\st.s 1=lb v/\st.s 7=li bs.length/\st.s 8=li i/\i<=bs.length/\a2z v (bs.drop i) i=a2z v bs 0) (fun i=>bs.length - i) 0 ?_ ?_
 ·simp (disch:=omega) [go_sem]
 ·rintro i st K ⟨h0,h1,h7,h8,hi,hno⟩ hK
  by_cases hlt:i < bs.length
  ·rw [c2o hlt] at hno
   by_cases hv:v=bs[i]
   ·rw [if_pos hv] at hno
    simp (disch:=omega) [go_sem,a2f,h0,h1,h7,h8,hlt,<-hno,hv]
    rw [<-hv]; exact hno
   ·rw [if_neg hv] at hno
    simp (disch:=omega) [go_sem,a2f,h0,h1,h7,h8,hlt,hv]
    exact hK (i+1) _ ⟨by simp [h0],by simp [h1],by simp [h7],by simp,by omega,hno⟩ (by omega)
  ·rw [List.drop_eq_nil_of_le (by omega)] at hno
   simp (disch:=omega) [go_sem,a2f,h0,h1,h7,h8,hlt,<-hno,a2z]
section
variable {G:GG} {Q:Exit->St->Prop} {st:St}
abbrev lu (n:Int):AV:= .lit (.int .u8 n)
abbrev u8 (n:Int):Int:=IntKind.u8.wrap n
end
end Go.Ideal.Tryd
end
section
namespace Go.Ideal
section
variable {k yk:IntKind} {a b:Int}
theorem d42 (h:0<=b):a13 .shr (.int k a) (.int yk b)=some (.int k (a.fdiv (2 ^ min b.toNat k.bits))):=by simp [a13,Op.shift,show ¬ b < 0 by omega]; rfl
@[go_sem] theorem g1a (h:0<=b):a3g .shr 0 (.lit (.int k a)) (.lit (.int yk b))=some (.lit (.int k (a.fdiv (2 ^ min b.toNat k.bits)))):=by simp [a3g,c50,d42 h]
end
namespace Tryd
section
variable {G:GG} {Q:Exit->St->Prop} {st:St}
end
end Tryd
end Go.Ideal
end
section
namespace Go.Ideal.Tryd
section
variable {Q:Exit->St->Prop} {st:St}
def a9o (v:Int):List Int->Nat->Int
 | [],_=> -1
 | x::xs,i=>if v=x then i else a9o v xs (i+1)
theorem c2p {v:Int} {bs:List Int} {i k:Nat} (h:i < bs.length):a9o v (bs.drop i) k=if v=bs[i] then (k:Int) else a9o v (bs.drop (i+1)) (k+1):=by
 rw [List.drop_eq_getElem_cons h]; rfl
theorem d2c (G:GG) (bs:List Int) (v:Int) (hlen:bs.length < 2 ^ 62):ACalls pg G b0f [slI bs,li v] (li (a9o v bs 0)):=by
 refine a89 rfl ?_
 simp (disch:=omega) [go_sem,a6p]
 refine a0x Nat (fun i st=>st.s 0=slI bs/\st.s 1=li v/\st.s 7=li bs.length/\st.s 8=li i/\i<=bs.length/\a9o v (bs.drop i) i=a9o v bs 0) (fun i=>bs.length - i) 0 ?_ ?_
 ·simp (disch:=omega) [go_sem]
 ·rintro i st K ⟨h0,h1,h7,h8,hi,hno⟩ hK
  by_cases hlt:i < bs.length
  ·rw [c2p hlt] at hno
   by_cases hv:v=bs[i]
   ·rw [if_pos hv] at hno
    simp (disch:=omega) [go_sem,a2k,h0,h1,h7,h8,hlt,<-hno,hv]
    rw [<-hv]; exact hno
   ·rw [if_neg hv] at hno
    simp (disch:=omega) [go_sem,a2k,h0,h1,h7,h8,hlt,hv]
    exact hK (i+1) _ ⟨by simp [h0],by simp [h1],by simp [h7],by simp,by omega,hno⟩ (by omega)
  ·rw [List.drop_eq_nil_of_le (by omega)] at hno
   simp (disch:=omega) [go_sem,a2k,h0,h1,h7,h8,hlt,<-hno,a9o]
theorem b90 {v:Int}:∀ {bs:List Int} {i:Nat},0<=a9o v bs i↔v∈bs
 | [],i=>by simp [a9o]
 | x::xs,i=>by
  simp only [a9o,List.mem_cons]
  split
  ·rename_i h; simp [h]
  ·rename_i h; rw [b90]; simp [h]
theorem c5i (G:GG) (bs:List Int) (v:Int) (hlen:bs.length < 2 ^ 62):ACalls pg G a8l [slI bs,li v] (lb (decide (v∈bs))):=by
 refine a7o rfl ?_
 simp (disch:=omega) [go_sem,a5d]
 refine a0i (d2c G bs v hlen) rfl rfl ?_
 simp (disch:=omega) [go_sem,b90]
end
end Go.Ideal.Tryd
end
section
namespace Go.Ideal
def fm {α:Type} (f:α->List AV) (xs:List α):List AV:=xs.flatMap f
section
variable {α:Type} {f:α->List AV} {k:Nat} {xs:List α}
@[go_sem] theorem f3h {z y:AV} {zs:List AV}:a61 1 (z::y::zs)=z::y::zs:=by simp [a61]
@[go_sem] theorem e7t {zs:List AV}:a61 0 zs=[]:=by simp [a61]
theorem a24:fm f []=[]:=rfl
theorem a3h {x:α}:fm f (x::xs)=f x++fm f xs:=rfl
theorem a6i (hf:∀ x,(f x).length=k):(fm f xs).length=xs.length*k:=by
 induction xs with
 | nil=>simp [fm]
 | cons x xs ih=>rw [a3h,List.length_append,hf,ih,List.length_cons,Nat.add_mul,Nat.one_mul,Nat.add_comm]
theorem a5l {x:α}:fm f [x]=f x:=by simp [fm]
theorem a38 (hf:∀ x,(f x).length=k):(fm f xs).take (xs.length*k)=fm f xs:=List.take_of_length_le (by rw [a6i hf]; exact Nat.le_refl _)
theorem a5k {ys:List α}:fm f (xs++ys)=fm f xs++fm f ys:=by simp [fm,List.flatMap_append]
theorem b0z (hf:∀ x,(f x).length=k) {i:Nat} (h:i < xs.length):((fm f xs).drop (i*k)).take k=f xs[i]:=by
 induction xs generalizing i with
 | nil=>simp at h
 | cons x xs ih=>
  rw [a3h]
  cases i with
  | zero=>rw [Nat.zero_mul,List.drop_zero,List.take_append_of_le_length (by rw [hf]; exact Nat.le_refl _),List.take_of_length_le (by rw [hf]; exact Nat.le_refl _)]; rfl
  | succ i=>
   rw [Nat.add_mul,Nat.one_mul,List.drop_append,hf,List.drop_of_length_le (by rw [hf]; omega),List.nil_append,Nat.add_sub_cancel]
   rw [ih (by simpa using h)]
   rfl
theorem b3h {a b:List AV}:a1k (a++b)=a1k a++a1k b:=by simp only [b7s,List.map_append]
theorem a69:a1k (fm f xs)=fm (fun x=>a1k (f x)) xs:=by
 induction xs with
 | nil=>simp [fm,a1k]
 | cons x xs ih=>rw [a3h,a3h,b3h,ih]
theorem c59 {a b:List AV}:a0m (a++b)=(a0m a&&a0m b):=by
 induction a with
 | nil=>simp [a0m]
 | cons x a ih=>simp only [List.cons_append,a0m,ih,Bool.and_assoc]
theorem c58 {a b:List AV}:a0z (a++b)=(a0z a&&a0z b):=by
 induction a with
 | nil=>simp [a0z]
 | cons x a ih=>simp only [List.cons_append,a0z,ih,Bool.and_assoc]
theorem a7w (h:∀ x,a0m (f x)=true):a0m (fm f xs)=true:=by
 induction xs with
 | nil=>simp [fm,a0m]
 | cons x xs ih=>rw [a3h,c59,h,ih]; rfl
theorem a7v (h:∀ x,a0z (f x)=true):a0z (fm f xs)=true:=by
 induction xs with
 | nil=>simp [fm,a0z]
 | cons x xs ih=>rw [a3h,c58,h,ih]; rfl
end
end Go.Ideal
end
section
namespace Go.Ideal.Tryd
inductive Er where
 | nil
 | s (g:Nat)
 | at (p:Int) (e:Er)
def a0r (bk:Nat->Nat×Nat):Er->AV
 | .nil=> .lit .nilIface
 | .s g=>sv bk g
 | .at p e=> .ifc g0x (.ip [li p,a0r bk e] 0)
abbrev wr (n:Int):Int:=IntKind.i64.wrap n
def a1f (n i:Nat):List Int->List (List Int)->List Int->Option (List (List Int)×List Int)
 | [],u,l=>some (u,l)
 | k::ks,u,l=>if k < 0\/(n:Int)<=k then none else a1f n i ks (u.set k.toNat (u[k.toNat]! ++[(i:Int)])) (l.set i (wr (l[i]! +1)))
def a7f (n:Nat):List (List Int)->Nat->List (List Int)->List Int->Except Nat (List (List Int)×List Int)
 | [],_,u,l=> .ok (u,l)
 | r::rs,i,u,l=>match a1f n i r u l with
  | none=> .error i
  | some p=>a7f n rs (i+1) p.1 p.2
def inB (n:Nat) (u:List (List Int)):Prop:=∀ r∈u,∀ k∈r,0<=k/\k < (n:Int)
theorem c8b {n:Nat} {u:List (List Int)} {k:Nat} {r:List Int} (h:inB n u) (hr:∀ k∈r,0<=k/\k < (n:Int)):inB n (u.set k r):=by
 intro x hx
 rcases List.mem_or_eq_of_mem_set hx with hx | rfl
 ·exact h x hx
 ·exact hr
section
variable {G:GG} {bk:Nat->Nat×Nat} {Q:Exit->St->Prop} {st:St}
theorem d7g (hS:SentO G bk) {ins u0:List (List Int)} {l0 row:List Int} {i c0:Nat} (hn:ins.length < 2 ^ 40) (hi:i < ins.length) (hc:c0+row.length < 2 ^ 40)
  (h0:st.s 0=b0b ins) (h4:st.s 4=owI l0) (h5:st.s 5=b5o u0) (h6:st.s 6=li i) (h22:st.s 22=b0b ins) (h23:st.s 23=li ins.length) (h24:st.s 24=li i)
  (h29:st.s 29=slI row) (h30:st.s 30=li row.length) (h31:st.s 31=li 0) (hl:l0.length=ins.length) (hu:u0.length=ins.length) (hb:∀ r∈u0,r.length<=c0) (hin:inB ins.length u0)
  (hex:∀ u l s,a1f ins.length i row u0 l0=some (u,l)->l.length=ins.length->u.length=ins.length->(∀ r∈u,r.length<=c0+row.length)->inB ins.length u->s.s 0=b0b ins->s.s 4=owI l->s.s 5=b5o u->s.s 22=b0b ins->s.s 23=li ins.length->s.s 24=li i->Q (.exit 2) s)
  (hret:a1f ins.length i row u0 l0=none->∀ s,s.s 2= .own 1 0 []->s.s 3=a0r bk (.at i (.s 0))->Q .ret s):AW pg G 119 (.loop a3c) Q st:=by
 refine a0x (Nat×List (List Int)×List Int) (fun p st=>p.1<=row.length/\a1f ins.length i (row.drop p.1) p.2.1 p.2.2=a1f ins.length i row u0 l0/\p.2.2.length=ins.length/\p.2.1.length=ins.length/\(∀ r∈p.2.1,r.length<=c0+p.1)/\inB ins.length p.2.1/\
  st.s 0=b0b ins/\st.s 4=owI p.2.2/\st.s 5=b5o p.2.1/\st.s 6=li i/\st.s 22=b0b ins/\st.s 23=li ins.length/\st.s 24=li i/\st.s 29=slI row/\st.s 30=li row.length/\st.s 31=li p.1) (fun p=>row.length - p.1) (0,u0,l0) ?_ ?_
 ·exact ⟨by simp,by simp,hl,hu,by simpa using hb,hin,h0,h4,h5,h6,h22,h23,h24,h29,h30,h31⟩
 ·clear h0 h4 h5 h6 h22 h23 h24 h29 h30 h31 hl hu hb hin
  rintro ⟨j,u,l⟩ st K ⟨hj,ht,hl,hu,hb,hin,h0,h4,h5,h6,h22,h23,h24,h29,h30,h31⟩ hK
  simp only at hj ht hl hu hb hin h4 h5 h31
  by_cases hlt:j < row.length
  ·rw [List.drop_eq_getElem_cons hlt,a1f] at ht
   by_cases hk:row[j] < 0\/(ins.length:Int)<=row[j]
   ·rw [if_pos hk] at ht
    have key:∀ (s:St) (Q' Q2:Exit->St->Prop),s.s 6=li i->(∀ s,Q .ret s->Q' .ret s)->AW pg G 119 (.draw order_Sort_r10 [[],[],[0,1],[2],[3],[],[4,5,0,1,2,3,4,5]]) (b19 (AW pg G 119 .ret Q') Q2) s:=by
     intro s Q' Q2 h6 hq
     refine a0b ?_
     simp (disch:=omega) [go_sem,hS.val,h6]
     refine a0c (by decide) fun s2 hs he=> ?_
     simp (disch:=omega) [go_sem]
     exact hq _ (hret ht.symm _ (by simp (disch:=omega) [go_sem,hs]) (by simp (disch:=omega) [go_sem,hs,a0r]))
    by_cases hk1:row[j] < 0
    ·simp (disch:=omega) [go_sem,a3c,h0,h6,h29,h30,h31,hlt,hk1]
     exact key _ _ _ (by simp (disch:=omega) [go_sem,h6]) (fun s h=>h)
    ·have hk2:(ins.length:Int)<=row[j]:=by omega
     simp (disch:=omega) [go_sem,a3c,h0,h6,h29,h30,h31,hlt,hk1,hk2]
     exact key _ _ _ (by simp (disch:=omega) [go_sem,h6]) (fun s h=>h)
   ·rw [if_neg hk] at ht
    have hk1:0<=row[j]:=by omega
    have hk2:row[j] < ins.length:=by omega
    have hk3:row[j].toNat < u.length:=by omega
    have hk4:u[row[j].toNat].length<=c0+j:=hb _ (List.getElem_mem _)
    simp (disch:=omega) [go_sem,a3c,h0,h4,h5,h6,h22,h23,h24,h29,h30,h31,hlt,hk1,hk2]
    refine hK (j+1,u.set row[j].toNat (u[row[j].toNat]! ++[(i:Int)]),l.set i (wr (l[i]! +1))) _ ⟨by simp only; omega,ht,by simpa using hl,by simpa using hu,fun r hr=> ?_,c8b hin fun k hk=> ?_,?_⟩ (by simp only; omega)
    ·rcases List.mem_or_eq_of_mem_set hr with hr | rfl
     ·have:=hb r hr; simp only; omega
     ·simp [hk3]; omega
    ·simp [hk3] at hk
     rcases hk with hk | rfl
     ·exact hin _ (List.getElem_mem _) k hk
     ·omega
    ·refine ⟨by simp (disch:=omega) [go_sem,h0],?_,?_,by simp (disch:=omega) [go_sem,h6],by simp (disch:=omega) [go_sem,h22],by simp (disch:=omega) [go_sem,h23],by simp (disch:=omega) [go_sem,h24],by simp (disch:=omega) [go_sem,h29],by simp (disch:=omega) [go_sem,h30],by simp (disch:=omega) [go_sem,h31]⟩
     ·simp (disch:=omega) [go_sem,h4]
     ·simp (disch:=omega) [go_sem,h5]
  ·rw [List.drop_eq_nil_of_le (by omega)] at ht
   simp (disch:=omega) [go_sem,a3c,h30,h31,hlt]
   obtain rfl:j=row.length:=by omega
   exact hex u l _ ht.symm hl hu hb hin (by simp (disch:=omega) [go_sem,h0]) (by simp (disch:=omega) [go_sem,h4]) (by simp (disch:=omega) [go_sem,h5]) (by simp (disch:=omega) [go_sem,h22]) (by simp (disch:=omega) [go_sem,h23]) (by simp (disch:=omega) [go_sem,h24])
def tot (ins:List (List Int)):Nat:=(ins.map List.length).sum
theorem c40 {ins:List (List Int)} {i:Nat} (h:i < ins.length):tot (ins.take (i+1))=tot (ins.take i)+ins[i].length/\tot (ins.take (i+1))<=tot ins:=by
 constructor
 ·simp only [tot]
  rw [List.take_succ_eq_append_getElem h,List.map_append,List.sum_append]
  simp
 ·have:tot ins=tot (ins.take (i+1))+tot (ins.drop (i+1)):=by
   simp only [tot]
   rw [<-List.sum_append,<-List.map_append,List.take_append_drop]
  omega
theorem d7h (hS:SentO G bk) {ins u0:List (List Int)} {l0:List Int} (hn:ins.length < 2 ^ 40) (hc:tot ins < 2 ^ 40)
  (h0:st.s 0=b0b ins) (h4:st.s 4=owI l0) (h5:st.s 5=b5o u0) (h22:st.s 22=b0b ins) (h23:st.s 23=li ins.length) (h24:st.s 24=li 0) (hl:l0.length=ins.length) (hu:u0.length=ins.length) (hb:∀ r∈u0,r.length<=0) (hin:inB ins.length u0)
  (hex:∀ u l s,a7f ins.length ins 0 u0 l0= .ok (u,l)->l.length=ins.length->u.length=ins.length->inB ins.length u->(∀ r∈u,r.length < 2 ^ 40)->s.s 0=b0b ins->s.s 4=owI l->s.s 5=b5o u->Q (.exit 0) s)
  (hret:∀ i s,a7f ins.length ins 0 u0 l0= .error i->i < ins.length->s.s 2= .own 1 0 []->s.s 3=a0r bk (.at i (.s 0))->Q .ret s):AW pg G 119 (.loop a5r) Q st:=by
 refine a0x (Nat×List (List Int)×List Int) (fun p st=>p.1<=ins.length/\a7f ins.length (ins.drop p.1) p.1 p.2.1 p.2.2=a7f ins.length ins 0 u0 l0/\p.2.2.length=ins.length/\p.2.1.length=ins.length/\(∀ r∈p.2.1,r.length<=tot (ins.take p.1))/\inB ins.length p.2.1/\
  st.s 0=b0b ins/\st.s 4=owI p.2.2/\st.s 5=b5o p.2.1/\st.s 22=b0b ins/\st.s 23=li ins.length/\st.s 24=li p.1) (fun p=>ins.length - p.1) (0,u0,l0) ?_ ?_
 ·exact ⟨by simp,by simp,hl,hu,by simpa [tot] using hb,hin,h0,h4,h5,h22,h23,h24⟩
 ·clear h0 h4 h5 h22 h23 h24 hl hu hb hin
  rintro ⟨i,u,l⟩ st K ⟨hi,ht,hl,hu,hb,hin,h0,h4,h5,h22,h23,h24⟩ hK
  simp only at hi ht hl hu hb hin h4 h5 h24
  by_cases hlt:i < ins.length
  ·rw [List.drop_eq_getElem_cons hlt,a7f] at ht
   obtain ⟨t1,t2⟩:=c40 hlt
   simp (disch:=omega) [go_sem,a5r,h22,h23,h24,hlt]
   refine d7g hS (ins:=ins) (row:=ins[i]) (i:=i) (u0:=u) (l0:=l) (c0:=tot (ins.take i)) hn hlt (by omega) (by simp (disch:=omega) [go_sem,h0]) (by simp (disch:=omega) [go_sem,h4]) (by simp (disch:=omega) [go_sem,h5]) (by simp (disch:=omega) [go_sem]) (by simp (disch:=omega) [go_sem,h22]) (by simp (disch:=omega) [go_sem,h23]) (by simp (disch:=omega) [go_sem,h24])
    (by simp (disch:=omega) [go_sem]) (by simp (disch:=omega) [go_sem]) (by simp (disch:=omega) [go_sem]) hl hu hb hin ?_ ?_
   ·intro u2 l2 s e1 e2 e3 e4 e5 h0 h4 h5 h22 h23 h24
    rw [e1] at ht
    simp (disch:=omega) [go_sem,h24]
    exact hK (i+1,u2,l2) _ ⟨by simp only; omega,ht,e2,e3,by simp only; rw [t1]; exact e4,e5,by simp (disch:=omega) [go_sem,h0],by simp (disch:=omega) [go_sem,h4],by simp (disch:=omega) [go_sem,h5],by simp (disch:=omega) [go_sem,h22],by simp (disch:=omega) [go_sem,h23],by simp (disch:=omega) [go_sem,h24]⟩ (by simp only; omega)
   ·intro e1 s h2 h3
    rw [e1] at ht
    simp (disch:=omega) [go_sem]
    exact hret i _ ht.symm hlt h2 h3
  ·obtain rfl:i=ins.length:=by omega
   rw [List.drop_length,a7f] at ht
   simp (disch:=omega) [go_sem,a5r,h23,h24]
   refine hex u l _ ht.symm hl hu hin (fun r hr=> ?_) (by simp (disch:=omega) [go_sem,h0]) (by simp (disch:=omega) [go_sem,h4]) (by simp (disch:=omega) [go_sem,h5])
   have:=hb r hr
   rw [List.take_length] at this
   omega
end
def c23:List Int->List Int->List Int
 | [],l=>l
 | k::ks,l=>c23 ks (l.set k.toNat (wr (l[k.toNat]! - 1)))
theorem b72:∀ (ks l:List Int),(c23 ks l).length=l.length
 | [],l=>rfl
 | k::ks,l=>by rw [c23,b72]; simp
def a7h:List Bool->List Int->Nat->Option Nat
 | d::ds,l::ls,i=>if d=true\/0 < l then a7h ds ls (i+1) else some i
 | _,_,_=>none
theorem c6c {done:List Bool} {l:List Int} {i k:Nat} (h:i < done.length) (h2:i < l.length):a7h (done.drop i) (l.drop i) k=if done[i]=true\/0 < l[i] then a7h (done.drop (i+1)) (l.drop (i+1)) (k+1) else some k:=by
 rw [List.drop_eq_getElem_cons h,List.drop_eq_getElem_cons h2,a7h]
section
variable {G:GG} {Q:Exit->St->Prop} {st:St}
theorem d7i {ins u:List (List Int)} {l0 out:List Int} {done:List Bool} {i:Nat} (hi:i < u.length) (hl:l0.length=u.length) (hin:inB u.length u) (hb:u[i].length < 2 ^ 40)
  (h0:st.s 0=b0b ins) (h4:st.s 4=owI l0) (h5:st.s 5=b5o u) (h10:st.s 10=owI out) (h11:st.s 11=owB done) (h95:st.s 95= .bor 5 [i] 0 u[i].length (st.ep 5)) (h96:st.s 96=li u[i].length) (h97:st.s 97=li 0)
  (hex:∀ s,s.s 0=b0b ins->s.s 4=owI (c23 u[i] l0)->s.s 5=b5o u->s.s 10=owI out->s.s 11=owB done->Q (.exit 8) s):AW pg G 119 (.loop a5s) Q st:=by
 refine a0x (Nat×List Int) (fun p st=>p.1<=u[i].length/\c23 (u[i].drop p.1) p.2=c23 u[i] l0/\p.2.length=u.length/\st.s 0=b0b ins/\st.s 4=owI p.2/\st.s 5=b5o u/\st.s 10=owI out/\st.s 11=owB done/\st.s 95= .bor 5 [i] 0 u[i].length (st.ep 5)/\st.s 96=li u[i].length/\st.s 97=li p.1) (fun p=>u[i].length - p.1) (0,l0) ?_ ?_
 ·exact ⟨by simp,by simp,hl,h0,h4,h5,h10,h11,h95,h96,h97⟩
 ·clear h0 h4 h5 h10 h11 h95 h96 h97 hl
  rintro ⟨j,l⟩ st K ⟨hj,ht,hl,h0,h4,h5,h10,h11,h95,h96,h97⟩ hK
  simp only at hj ht hl h4 h97
  by_cases hlt:j < u[i].length
  ·rw [List.drop_eq_getElem_cons hlt,c23] at ht
   obtain ⟨k1,k2⟩:=hin _ (List.getElem_mem hi) _ (List.getElem_mem hlt)
   have k3:u[i][j].toNat < l.length:=by omega
   simp (disch:=omega) [go_sem,a5s,h4,h5,h95,h96,h97,hlt,k1,k2]
   refine hK (j+1,l.set u[i][j].toNat (wr (l[u[i][j].toNat]! - 1))) _ ⟨by simp only; omega,ht,by simpa using hl,by simp (disch:=omega) [go_sem,h0],?_,by simp (disch:=omega) [go_sem,h5],by simp (disch:=omega) [go_sem,h10],by simp (disch:=omega) [go_sem,h11],by simp (disch:=omega) [go_sem,h95],by simp (disch:=omega) [go_sem,h96],by simp (disch:=omega) [go_sem,h97]⟩ (by simp only; omega)
   simp (disch:=omega) [go_sem,h4]
  ·rw [List.drop_eq_nil_of_le (by omega),c23] at ht
   subst ht
   simp (disch:=omega) [go_sem,a5s,h96,h97,hlt]
   exact hex _ (by simp (disch:=omega) [go_sem,h0]) (by simp (disch:=omega) [go_sem,h4]) (by simp (disch:=omega) [go_sem,h5]) (by simp (disch:=omega) [go_sem,h10]) (by simp (disch:=omega) [go_sem,h11])
theorem d7j {ins u:List (List Int)} {l out:List Int} {done:List Bool} {n:Nat} (hn:n < 2 ^ 40) (hl:l.length=n) (hu:u.length=n) (hd:done.length=n) (ho:out.length < 2 ^ 41) (hin:inB n u) (hb:∀ r∈u,r.length < 2 ^ 40)
  (h0:st.s 0=b0b ins) (h4:st.s 4=owI l) (h5:st.s 5=b5o u) (h10:st.s 10=owI out) (h11:st.s 11=owB done) (h70:st.s 70=li n) (h71:st.s 71=li 0)
  (hex:a7h done l 0=none->∀ s,s.s 0=b0b ins->s.s 4=owI l->s.s 5=b5o u->s.s 10=owI out->s.s 11=owB done->Q (.exit 6) s)
  (hf:∀ k s,a7h done l 0=some k->k < n->done[k]! =false->s.s 0=b0b ins->s.s 4=owI (c23 u[k]! l)->s.s 5=b5o u->s.s 10=owI (out++[(k:Int)])->s.s 11=owB (done.set k true)->Q (.exit 5) s):AW pg G 119 (.loop a3d) Q st:=by
 refine a0x Nat (fun i st=>i<=n/\a7h (done.drop i) (l.drop i) i=a7h done l 0/\st.s 0=b0b ins/\st.s 4=owI l/\st.s 5=b5o u/\st.s 10=owI out/\st.s 11=owB done/\st.s 70=li n/\st.s 71=li i) (fun i=>n - i) 0 ?_ ?_
 ·exact ⟨by simp,by simp,h0,h4,h5,h10,h11,h70,h71⟩
 ·clear h0 h4 h5 h10 h11 h70 h71
  rintro i st K ⟨hi,ht,h0,h4,h5,h10,h11,h70,h71⟩ hK
  by_cases hlt:i < n
  ·have hlt1:i < done.length:=by omega
   have hlt2:i < l.length:=by omega
   have hlt3:i < u.length:=by omega
   rw [c6c hlt1 hlt2] at ht
   have next:(done[i]=true\/0 < l[i])->∀ s,s.s 0=b0b ins->s.s 4=owI l->s.s 5=b5o u->s.s 10=owI out->s.s 11=owB done->s.s 70=li n->s.s 71=li (i+1)->K s:=fun hc s h0 h4 h5 h10 h11 h70 h71=>by
    rw [if_pos hc] at ht
    exact hK (i+1) s ⟨by omega,ht,h0,h4,h5,h10,h11,h70,h71⟩ (by omega)
   by_cases hd1:done[i]=true
   ·simp (disch:=omega) [go_sem,a3d,h4,h5,h10,h11,h70,h71,hlt,hd1]
    exact next (.inl hd1) _ (by simp (disch:=omega) [go_sem,h0]) (by simp (disch:=omega) [go_sem,h4]) (by simp (disch:=omega) [go_sem,h5]) (by simp (disch:=omega) [go_sem,h10]) (by simp (disch:=omega) [go_sem,h11]) (by simp (disch:=omega) [go_sem,h70]) (by simp (disch:=omega) [go_sem])
   ·by_cases hl1:0 < l[i]
    ·simp (disch:=omega) [go_sem,a3d,h4,h5,h10,h11,h70,h71,hlt,hd1,hl1]
     exact next (.inr hl1) _ (by simp (disch:=omega) [go_sem,h0]) (by simp (disch:=omega) [go_sem,h4]) (by simp (disch:=omega) [go_sem,h5]) (by simp (disch:=omega) [go_sem,h10]) (by simp (disch:=omega) [go_sem,h11]) (by simp (disch:=omega) [go_sem,h70]) (by simp (disch:=omega) [go_sem])
    ·rw [if_neg (by simp [hd1,hl1])] at ht
     simp (disch:=omega) [go_sem,a3d,h4,h5,h10,h11,h70,h71,hlt,hd1,hl1]
     refine d7i (ins:=ins) (u:=u) (l0:=l) (out:=out++[(i:Int)]) (done:=done.set i true) (i:=i) hlt3 (by omega) (by rw [hu]; exact hin) (hb _ (List.getElem_mem _)) (by simp (disch:=omega) [go_sem,h0]) (by simp (disch:=omega) [go_sem,h4]) (by simp (disch:=omega) [go_sem,h5]) (by simp (disch:=omega) [go_sem,h10]) (by simp (disch:=omega) [go_sem,h11]) (by simp (disch:=omega) [go_sem]) (by simp (disch:=omega) [go_sem]) (by simp (disch:=omega) [go_sem]) ?_
     intro s h0 h4 h5 h10 h11
     simp (disch:=omega) [go_sem]
     exact hf i _ ht.symm hlt (by simpa [hlt1] using hd1) h0 (by simpa [hlt3] using h4) h5 h10 h11
  ·obtain rfl:i=n:=by omega
   rw [List.drop_eq_nil_of_le (by omega),a7h] at ht
   ·simp (disch:=omega) [go_sem,a3d,h70,h71]
    exact hex ht.symm _ (by simp (disch:=omega) [go_sem,h0]) (by simp (disch:=omega) [go_sem,h4]) (by simp (disch:=omega) [go_sem,h5]) (by simp (disch:=omega) [go_sem,h10]) (by simp (disch:=omega) [go_sem,h11])
   ·intros; simp_all
def a7g (u:List (List Int)):Nat->List Bool->List Int->List Int->List Bool×List Int
 | 0,done,_,out=>(done,out)
 | f+1,done,l,out=>match a7h done l 0 with
  | none=>(done,out)
  | some i=>a7g u f (done.set i true) (c23 u[i]! l) (out++[(i:Int)])
theorem b73:∀ {done:List Bool} {l:List Int} {k i:Nat},a7h done l k=some i->k<=i/\∃ h:i - k < done.length,done[i - k]=false
 | [],l,k,i,h=>by cases l<;>simp [a7h] at h
 | d::ds,[],k,i,h=>by simp [a7h] at h
 | d::ds,l::ls,k,i,h=>by
  simp only [a7h] at h
  split at h
  ·obtain ⟨h1,h2,h3⟩:=b73 h
   refine ⟨by omega,?_⟩
   have e:i - k=(i - (k+1))+1:=by omega
   simp only [e,List.length_cons,List.getElem_cons_succ]
   exact ⟨by omega,h3⟩
  ·rename_i hc
   injection h with h
   subst h
   simp at hc
   simp [hc.1]
theorem c0l {done:List Bool} {l:List Int} {i:Nat} (h:a7h done l 0=some i):(done.set i true).count false+1=done.count false:=by
 obtain ⟨_,h2,h3⟩:=b73 h
 simp only [Nat.sub_zero] at h2 h3
 have e:done=done.take i++false::done.drop (i+1):=by
  conv=>lhs; rw [<-List.take_append_drop i done,List.drop_eq_getElem_cons h2,h3]
 have e2:done.set i true=done.take i++true::done.drop (i+1):=by
  rw [List.set_eq_take_append_cons_drop,if_pos h2]
 rw [e2]
 conv=>rhs; rw [e]
 simp
 omega
theorem d7k {ins u:List (List Int)} {l0 out0:List Int} {done0:List Bool} {n f0:Nat} (hn:n < 2 ^ 40) (hu:u.length=n) (hin:inB n u) (hb:∀ r∈u,r.length < 2 ^ 40) (hl:l0.length=n) (hd:done0.length=n) (hc:done0.count false+out0.length=n) (hf:done0.count false<=f0)
  (h0:st.s 0=b0b ins) (h4:st.s 4=owI l0) (h5:st.s 5=b5o u) (h10:st.s 10=owI out0) (h11:st.s 11=owB done0)
  (hex:∀ s,(a7g u f0 done0 l0 out0).1.length=n->(a7g u f0 done0 l0 out0).2.length<=n->s.s 10=owI (a7g u f0 done0 l0 out0).2->s.s 11=owB (a7g u f0 done0 l0 out0).1->Q (.exit 4) s):AW pg G 119 (.loop a75) Q st:=by
 refine a0x (Nat×List Bool×List Int×List Int) (fun p st=>p.2.1.count false<=p.1/\a7g u p.1 p.2.1 p.2.2.1 p.2.2.2=a7g u f0 done0 l0 out0/\p.2.1.length=n/\p.2.2.1.length=n/\p.2.1.count false+p.2.2.2.length=n/\
  st.s 0=b0b ins/\st.s 4=owI p.2.2.1/\st.s 5=b5o u/\st.s 10=owI p.2.2.2/\st.s 11=owB p.2.1) (fun p=>p.1) (f0,done0,l0,out0) ?_ ?_
 ·exact ⟨hf,rfl,hd,hl,hc,h0,h4,h5,h10,h11⟩
 ·clear h0 h4 h5 h10 h11 hf hd hl hc
  rintro ⟨f,done,l,out⟩ st K ⟨hf,ht,hd,hl,hc,h0,h4,h5,h10,h11⟩ hK
  simp only at hf ht hd hl hc h4 h10 h11
  simp (disch:=omega) [go_sem,a75,h4]
  refine d7j (ins:=ins) (u:=u) (l:=l) (out:=out) (done:=done) (n:=n) hn hl hu hd (by omega) hin hb (by simp (disch:=omega) [go_sem,h0]) (by simp (disch:=omega) [go_sem,h4]) (by simp (disch:=omega) [go_sem,h5]) (by simp (disch:=omega) [go_sem,h10]) (by simp (disch:=omega) [go_sem,h11]) (by simp (disch:=omega) [go_sem,hl]) (by simp (disch:=omega) [go_sem]) ?_ ?_
  ·intro hp s h0 h4 h5 h10 h11
   have e:a7g u f0 done0 l0 out0=(done,out):=by
    rw [<-ht]; cases f<;>simp [a7g,hp]
   simp (disch:=omega) [go_sem]
   exact hex _ (by rw [e]; exact hd) (by rw [e]; simp only; omega) (by rw [e]; exact h10) (by rw [e]; exact h11)
  ·intro k s hp hk hdk h0 h4 h5 h10 h11
   have hcnt:=c0l hp
   obtain ⟨f',rfl⟩:∃ f',f=f'+1:=⟨f - 1,by omega⟩
   rw [a7g,hp] at ht
   simp (disch:=omega) [go_sem]
   exact hK (f',done.set k true,c23 u[k]! l,out++[(k:Int)]) _ ⟨by simp only; omega,ht,by simpa using hd,by simp only [b72]; exact hl,by simp only [List.length_append,List.length_cons,List.length_nil]; omega,h0,h4,h5,h10,h11⟩ (by simp only; omega)
end
def a80 (ins:List (List Int)):Except (Int×Nat) (List Int):=
 match a7f ins.length ins 0 (List.replicate ins.length []) (List.replicate ins.length 0) with
 | .error i=> .error (i,0)
 | .ok p=>
  if 0<=a2z false (a7g p.1 ins.length (List.replicate ins.length false) p.2 []).1 0 then .error (a2z false (a7g p.1 ins.length (List.replicate ins.length false) p.2 []).1 0,1)
  else .ok (a7g p.1 ins.length (List.replicate ins.length false) p.2 []).2
def d1k (bk:Nat->Nat×Nat):Except (Int×Nat) (List Int)->AV
 | .error e=> .tup [.own 1 0 [],a0r bk (.at e.1 (.s e.2))]
 | .ok out=> .tup [owI out,.lit .nilIface]
theorem e8p {G:GG} {bk:Nat->Nat×Nat} (hS:SentO G bk) (ins:List (List Int)) (hn:ins.length < 2 ^ 40) (hc:tot ins < 2 ^ 40):ACalls pg G b86 [b0b ins] (d1k bk (a80 ins)):=by
 refine b4r rfl ?_
 simp (disch:=omega) [go_sem,b2r]
 refine d7h hS (ins:=ins) (u0:=List.replicate ins.length []) (l0:=List.replicate ins.length 0) hn hc (by simp (disch:=omega) [go_sem]) (by simp (disch:=omega) [go_sem]) (by simp (disch:=omega) [go_sem]) (by simp (disch:=omega) [go_sem]) (by simp (disch:=omega) [go_sem]) (by simp (disch:=omega) [go_sem]) (by simp) (by simp)
  (fun r hr=>by rw [List.eq_of_mem_replicate hr]; simp) (fun r hr=>by rw [List.eq_of_mem_replicate hr]; simp) ?_ ?_
 ·intro u l s hfill hl hu hin hb h0 h4 h5
  simp (disch:=omega) [go_sem,h0]
  refine d7k (ins:=ins) (u:=u) (l0:=l) (out0:=[]) (done0:=List.replicate ins.length false) (n:=ins.length) (f0:=ins.length) hn hu hin hb hl (by simp) (by simp) (by simp) (by simp (disch:=omega) [go_sem,h0]) (by simp (disch:=omega) [go_sem,h4]) (by simp (disch:=omega) [go_sem,h5]) (by simp (disch:=omega) [go_sem]) (by simp (disch:=omega) [go_sem]) ?_
  generalize hp:a7g u ins.length (List.replicate ins.length false) l []=p
  intro s hd ho h10 h11
  simp (disch:=omega) [go_sem,h11]
  refine a0i (d52 G p.1 false (by omega)) rfl rfl ?_
  have hres:a80 ins=if 0<=a2z false p.1 0 then .error (a2z false p.1 0,1) else .ok p.2:=by
   simp only [a80,hfill,hp]
  by_cases hk:0<=a2z false p.1 0
  ·rw [if_pos hk] at hres
   simp (disch:=omega) [go_sem,hk]
   refine a0b ?_
   simp (disch:=omega) [go_sem,hS.val]
   refine a0c (by decide) fun s2 hs he=> ?_
   simp (disch:=omega) [go_sem,hs,hres,d1k,a0r]
  ·rw [if_neg hk] at hres
   simp (disch:=omega) [go_sem,hk,h10,hres,d1k]
 ·intro i s hfill hi h2 h3
  have hres:a80 ins= .error (i,0):=by simp only [a80,hfill]
  simp (disch:=omega) [go_sem,h2,h3,hres,d1k,a0r]
structure Nd where
 op:Int
 ins:List Int
 args:List Int
 shape:List Int
 wide:Bool
 data:List Int
def a4p (n:Nd):List AV:=[li n.op,slI n.ins,slI n.args,slI n.shape,lb n.wide,slI n.data]
@[go_sem] theorem f0h {xs:List Nd}:(fm a4p xs).length=xs.length*6:=a6i fun _=>rfl
@[go_sem] theorem f0g {xs:List Nd} {i:Nat} (h:i < xs.length):((fm a4p xs).drop (i*6)).take 6=[li xs[i].op,slI xs[i].ins,slI xs[i].args,slI xs[i].shape,lb xs[i].wide,slI xs[i].data]:=b0z (f:=a4p) (k:=6) (fun _=>rfl) h
@[go_sem] theorem e3c {xs:List Nd}:(fm a4p xs).take (xs.length*6)=fm a4p xs:=a38 fun _=>rfl
@[go_sem] theorem d85 {xs:List Nd}:a0m (fm a4p xs)=true:=a7w fun _=>rfl
@[go_sem] theorem f0f {xs:List Nd}:a1k (fm a4p xs)=fm a4p xs:=by
 rw [a69]; congr 1
section
variable {G:GG} {Q:Exit->St->Prop} {st:St}
def b8x (i:Nat):List Int->List (List Int)->List (List Int)
 | [],u=>u
 | k::ks,u=>b8x i ks (if 0<=k/\k < (u.length:Int)/\(i:Int) ∉ u[k.toNat]! then u.set k.toNat (u[k.toNat]! ++[(i:Int)]) else u)
def c6w:List (List Int)->Nat->List (List Int)->List (List Int)
 | [],_,u=>u
 | r::rs,i,u=>c6w rs (i+1) (b8x i r u)
theorem d7r {row:List Int} {u0:List (List Int)} {i c:Nat} {v13 v14 v15:AV} (hu:u0.length < 2 ^ 40) (hr:row.length < 2 ^ 40) (hc:c+row.length < 2 ^ 41) (hb:∀ r∈u0,r.length<=c) (e13:∃ n ks,v13= .sl n ks) (e14:∃ v,v14= .lit v) (e15:∃ v,v15= .lit v)
  (h21:st.s 21=slI row) (h22:st.s 22=li row.length) (h23:st.s 23=li 0) (h3:st.s 3=b5o u0) (h4:st.s 4=li i) (h13:st.s 13=v13) (h14:st.s 14=v14) (h15:st.s 15=v15)
  (hex:∀ s,s.s 3=b5o (b8x i row u0)->s.s 13=v13->s.s 14=v14->s.s 15=v15->(b8x i row u0).length=u0.length->(∀ r∈b8x i row u0,r.length<=c+row.length)->Q (.exit 2) s):AW pg G 57 (.loop a29) Q st:=by
 obtain ⟨n13,k13,rfl⟩:=e13
 obtain ⟨w14,rfl⟩:=e14
 obtain ⟨w15,rfl⟩:=e15
 refine a0x (Nat×List (List Int)) (fun p st=>p.1<=row.length/\b8x i (row.drop p.1) p.2=b8x i row u0/\p.2.length=u0.length/\(∀ r∈p.2,r.length<=c+p.1)/\st.s 21=slI row/\st.s 22=li row.length/\st.s 23=li p.1/\st.s 3=b5o p.2/\st.s 4=li i/\st.s 13= .sl n13 k13/\st.s 14= .lit w14/\st.s 15= .lit w15) (fun p=>row.length - p.1) (0,u0) ?_ ?_
 ·exact ⟨by simp,rfl,rfl,fun r hr=>by have:=hb r hr; omega,h21,h22,h23,h3,h4,h13,h14,h15⟩
 ·clear h21 h22 h23 h3 h4 h13 h14 h15
  rintro ⟨j,u⟩ st K ⟨hj,ht,hl,hb2,h21,h22,h23,h3,h4,h13,h14,h15⟩ hK
  simp only at hj ht hl hb2 h23 h3
  by_cases hlt:j < row.length
  ·rw [List.drop_eq_getElem_cons hlt,b8x] at ht
   by_cases k1:0<=row[j]
   ·by_cases k2:row[j] < (u.length:Int)
    ·have k3:row[j].toNat < u.length:=by omega
     have k4:u[row[j].toNat].length < 2 ^ 62:=by have:=hb2 _ (List.getElem_mem k3); omega
     simp (disch:=omega) [go_sem,a29,h21,h22,h23,h3,h4,hlt,k1,k2]
     refine a0i (c5i G u[row[j].toNat] i k4) rfl rfl ?_
     by_cases k5:(i:Int)∈u[row[j].toNat]
     ·rw [if_neg (by simp [k3,k5])] at ht
      simp (disch:=omega) [go_sem,h21,h22,h23,h3,h4,hlt,k1,k2,k5]
      exact hK (j+1,u) _ ⟨by simp only; omega,ht,hl,fun r hr=>by have:=hb2 r hr; simp only; omega,by simp (disch:=omega) [go_sem,h21],by simp (disch:=omega) [go_sem,h22],by simp (disch:=omega) [go_sem,h23],by simp (disch:=omega) [go_sem,h3],by simp (disch:=omega) [go_sem,h4],by simp (disch:=omega) [go_sem,h13],by simp (disch:=omega) [go_sem,h14],by simp (disch:=omega) [go_sem,h15]⟩ (by simp only; omega)
     ·rw [if_pos (by simp [k1,k2,k3,k5])] at ht
      have k6:u[row[j].toNat].length<=c+j:=hb2 _ (List.getElem_mem k3)
      simp (disch:=omega) [go_sem,h21,h22,h23,h3,h4,hlt,k1,k2,k5]
      refine hK (j+1,u.set row[j].toNat (u[row[j].toNat]! ++[(i:Int)])) _ ⟨by simp only; omega,ht,by simpa using hl,fun r hr=> ?_,by simp (disch:=omega) [go_sem,h21],by simp (disch:=omega) [go_sem,h22],by simp (disch:=omega) [go_sem,h23],by simp (disch:=omega) [go_sem,h3,k3],by simp (disch:=omega) [go_sem,h4],by simp (disch:=omega) [go_sem,h13],by simp (disch:=omega) [go_sem,h14],by simp (disch:=omega) [go_sem,h15]⟩ (by simp only; omega)
      simp only at hr ⊢
      rcases List.mem_or_eq_of_mem_set hr with hr | rfl
      ·have:=hb2 r hr; omega
      ·simp [k3]; omega
    ·rw [if_neg (by simp; omega)] at ht
     simp (disch:=omega) [go_sem,a29,h21,h22,h23,h3,h4,hlt,k1,k2]
     exact hK (j+1,u) _ ⟨by simp only; omega,ht,hl,fun r hr=>by have:=hb2 r hr; simp only; omega,by simp (disch:=omega) [go_sem,h21],by simp (disch:=omega) [go_sem,h22],by simp (disch:=omega) [go_sem,h23],by simp (disch:=omega) [go_sem,h3],by simp (disch:=omega) [go_sem,h4],by simp (disch:=omega) [go_sem,h13],by simp (disch:=omega) [go_sem,h14],by simp (disch:=omega) [go_sem,h15]⟩ (by simp only; omega)
   ·rw [if_neg (by simp; omega)] at ht
    simp (disch:=omega) [go_sem,a29,h21,h22,h23,h3,h4,hlt,k1]
    exact hK (j+1,u) _ ⟨by simp only; omega,ht,hl,fun r hr=>by have:=hb2 r hr; simp only; omega,by simp (disch:=omega) [go_sem,h21],by simp (disch:=omega) [go_sem,h22],by simp (disch:=omega) [go_sem,h23],by simp (disch:=omega) [go_sem,h3],by simp (disch:=omega) [go_sem,h4],by simp (disch:=omega) [go_sem,h13],by simp (disch:=omega) [go_sem,h14],by simp (disch:=omega) [go_sem,h15]⟩ (by simp only; omega)
  ·obtain rfl:j=row.length:=by omega
   rw [List.drop_eq_nil_of_le (Nat.le_refl _),b8x] at ht
   subst ht
   simp (disch:=omega) [go_sem,a29,h21,h22,h23]
   exact hex _ (by simp (disch:=omega) [go_sem,h3]) (by simp (disch:=omega) [go_sem,h13]) (by simp (disch:=omega) [go_sem,h14]) (by simp (disch:=omega) [go_sem,h15]) hl hb2
theorem c41 {i:Nat}:∀ {row:List Int} {u:List (List Int)},(b8x i row u).length=u.length
 | [],u=>rfl
 | k::ks,u=>by
  rw [b8x,c41]
  split<;>simp
theorem e84 (g:List Nd) (out:Int) (hg:g.length < 2 ^ 40) (hc:tot (g.map (·.ins)) < 2 ^ 40):ACalls pg G b8z [.agg [.sl g.length (fm a4p g),li out]] (b5o (c6w (g.map (·.ins)) 0 (List.replicate g.length []))):=by
 refine b38 rfl ?_
 simp (disch:=omega) [go_sem,b2e]
 have hlm:(g.map (·.ins)).length=g.length:=by simp
 refine a0x (Nat×List (List Int)) (fun p st=>p.1<=g.length/\c6w ((g.map (·.ins)).drop p.1) p.1 p.2=c6w (g.map (·.ins)) 0 (List.replicate g.length [])/\p.2.length=g.length/\(∀ r∈p.2,r.length<=tot ((g.map (·.ins)).take p.1))/\st.s 3=b5o p.2/\st.s 13= .sl g.length (fm a4p g)/\st.s 14=li g.length/\st.s 15=li p.1) (fun p=>g.length - p.1) (0,List.replicate g.length []) ?_ ?_
 ·exact ⟨by simp,rfl,by simp,fun r hr=>by rw [List.eq_of_mem_replicate hr]; simp,by simp (disch:=omega) [go_sem],by simp (disch:=omega) [go_sem],by simp (disch:=omega) [go_sem],by simp (disch:=omega) [go_sem]⟩
 ·rintro ⟨i,u⟩ st K ⟨hi,ht,hl,hb,h3,h13,h14,h15⟩ hK
  simp only at hi ht hl hb h3 h15
  by_cases hlt:i < g.length
  ·have hlt2:i < (g.map (·.ins)).length:=by omega
   obtain ⟨t1,t2⟩:=c40 hlt2
   rw [List.getElem_map] at t1
   rw [List.drop_eq_getElem_cons hlt2,List.getElem_map,c6w] at ht
   simp (disch:=omega) [go_sem,a7z,h3,h13,h14,h15,hlt]
   refine d7r (row:=g[i].ins) (u0:=u) (i:=i) (c:=tot ((g.map (·.ins)).take i)) (v13:= .sl g.length (fm a4p g)) (v14:=li g.length) (v15:=li i) (by omega) (by omega) (by omega) hb ⟨_,_,rfl⟩ ⟨_,rfl⟩ ⟨_,rfl⟩ (by simp (disch:=omega) [go_sem]) (by simp (disch:=omega) [go_sem]) (by simp (disch:=omega) [go_sem]) (by simp (disch:=omega) [go_sem,h3]) (by simp (disch:=omega) [go_sem]) (by simp (disch:=omega) [go_sem,h13]) (by simp (disch:=omega) [go_sem,h14]) (by simp (disch:=omega) [go_sem,h15]) ?_
   intro s k3 k13 k14 k15 kl kb
   simp (disch:=omega) [go_sem,k15]
   exact hK (i+1,b8x i g[i].ins u) _ ⟨by simp only; omega,ht,by simp only; omega,fun r hr=>by have:=kb r hr; simp only; omega,by simp (disch:=omega) [go_sem,k3],by simp (disch:=omega) [go_sem,k13],by simp (disch:=omega) [go_sem,k14],by simp (disch:=omega) [go_sem,k15]⟩ (by simp only; omega)
  ·obtain rfl:i=g.length:=by omega
   rw [List.drop_eq_nil_of_le (by omega),c6w] at ht
   subst ht
   simp (disch:=omega) [go_sem,a7z,h3,h13,h14,h15]
def e3d (r:List Int):List AV:=[li 4,owI r,.own 1 0 [],.own 1 0 [],lb false,.own 1 0 []]
def g3j (r:List Int):Nd:=⟨4,r,[],[],false,[]⟩
@[go_sem] theorem f0j {xs:List (List Int)}:(fm e3d xs).length=xs.length*6:=a6i fun _=>rfl
@[go_sem] theorem e3e {xs:List (List Int)}:(fm e3d xs).take (xs.length*6)=fm e3d xs:=a38 fun _=>rfl
@[go_sem] theorem f0i {xs:List (List Int)}:a1k (fm e3d xs)=fm a4p (xs.map g3j):=by
 rw [a69]
 induction xs with
 | nil=>rfl
 | cons x xs ih=>
  rw [a3h,List.map_cons,a3h,ih]
  congr 1
  simp [e3d,a4p,g3j,go_sem]
end
section
variable {G:GG} {bk:Nat->Nat×Nat}
def c3y (g:Nat):List Nat->Nat->Int
 | [],_=> -1
 | h::hs,i=>if g=h then 101+i else c3y g hs (i+1)
def e2t (g:Nat):Int:=c3y g c9h 0
abbrev fl (x:Int×Bool×Int):AV:=f5y x.1 x.2.1 x.2.2
inductive Er.ok:Er->Prop
 | nil:Er.ok .nil
 | s {g:Nat} (h:g < 21):Er.ok (.s g)
 | at {p:Int} {g:Nat} (h:g < 21):Er.ok (.at p (.s g))
theorem c7u (e:Er):noRef (a0r bk e)=true/\a0n (a0r bk e)=true:=by
 cases e<;>simp [a0r,noRef,a0n]
end
section
variable {G:GG} {bk:Nat->Nat}
theorem c2t {α:Type} [Inhabited α] {xs ys:List α} (hl:xs.length=ys.length) (h:∀ i,i < xs.length->xs[i]! =ys[i]!):xs=ys:=by
 apply List.ext_getElem hl
 intro i h1 h2
 have:=h i h1
 simpa [h1,h2] using this
theorem b61 {a b:List Int} (ha:a.length < 2 ^ 62):ACalls pg G a9r [slI a,slI b] (lb (decide (a=b))):=by
 refine a8g rfl ?_
 by_cases hl:a.length=b.length
 ·have hl':(a.length:Int)=b.length:=by omega
  simp (disch:=omega) [go_sem,a3w,hl']
  refine a0x Nat (fun i st=>st.s 0=slI a/\st.s 1=slI b/\st.s 5=li i/\i<=a.length/\∀ j,j < i->a[j]! =b[j]!) (fun i=>a.length - i) 0 ?_ ?_
  ·exact ⟨by simp (disch:=omega) [go_sem,hl],by simp (disch:=omega) [go_sem],by simp (disch:=omega) [go_sem],by simp,fun j hj=>by omega⟩
  ·rintro i st K ⟨h0,h1,h5,hi,hc⟩ hK
   by_cases hlt:i < a.length
   ·have hlt2:i < b.length:=by omega
    simp (disch:=omega) [go_sem,a3i,h0,h1,h5,hlt]
    refine a0b ?_
    simp (disch:=omega) [go_sem,h0,h1,h5]
    refine a0c (by decide) fun s2 hs he=> ?_
    by_cases he2:a[i]=b[i]
    ·simp (disch:=omega) [go_sem,hs,he2,h5]
     exact hK (i+1) _ ⟨by simp (disch:=omega) [go_sem,hs,h0],by simp (disch:=omega) [go_sem,hs,h1],by simp (disch:=omega) [go_sem],by omega,fun j hj=>by
      by_cases hji:j=i
      ·subst hji; simpa [hlt,hlt2] using he2
      ·exact hc j (by omega)⟩ (by omega)
    ·have:a≠b:=by rintro rfl; exact he2 rfl
     simp (disch:=omega) [go_sem,hs,he2,h5,this]
   ·have:a=b:=c2t hl fun j hj=>hc j (by omega)
    simp (disch:=omega) [go_sem,a3i,h0,h5,hlt,this]
 ·have hl':¬ (a.length:Int)=b.length:=by omega
  have:a≠b:=by rintro rfl; exact hl rfl
  simp (disch:=omega) [go_sem,a3w,hl',this]
end
def d0c (n:Nat) (k:Int):Bool:=decide (k < 0)||decide ((n:Int)<=k)
def c6h (n:Nat):List (List Int)->Nat->Option Nat
 | [],_=>none
 | r::rs,k=>if r.any (d0c n) then some k else c6h n rs (k+1)
def a5t (done:List Bool):List (List Int)->Nat->Int->Int×Int
 | [],_,f=>(-1,f)
 | r::rs,k,f=>if done[k]! then a5t done rs (k+1) f else
  if r.all (fun x=>done[x.toNat]!) then (k,if f < 0 then k else f) else a5t done rs (k+1) (if f < 0 then k else f)
def a95 (ins:List (List Int)):Nat->List Bool->List Int->Except Int (List Int)
 | 0,_,out=> .ok out
 | f+1,done,out=>if (a5t done ins 0 (-1)).1 < 0 then .error (a5t done ins 0 (-1)).2 else a95 ins f (done.set (a5t done ins 0 (-1)).1.toNat true) (out++[(a5t done ins 0 (-1)).1])
def c3c (ins:List (List Int)):List Int×(Int×Bool×Int):=match c6h ins.length ins 0 with
 | some k=>([],(107,true,k))
 | none=>match a95 ins ins.length (List.replicate ins.length false) [] with
  | .error f=>([],(111,true,f))
  | .ok out=>(out,(0,false,0))
section
variable {G:GG} {bk:Nat->Nat×Nat} {Q:Exit->St->Prop} {st:St}
theorem b40 {done:List Bool}:∀ {rs:List (List Int)} {k:Nat} {f:Int},(a5t done rs k f).1= -1\/((k:Int)<=(a5t done rs k f).1/\(a5t done rs k f).1 < k+rs.length)
 | [],k,f=>by simp [a5t]
 | r::rs,k,f=>by
  simp only [a5t,List.length_cons]
  split
  ·rcases b40 (done:=done) (rs:=rs) (k:=k+1) (f:=f) with h | h
   ·exact .inl h
   ·exact .inr (by omega)
  ·split
   ·exact .inr (by simp only; omega)
   ·rcases b40 (done:=done) (rs:=rs) (k:=k+1) (f:=if f < 0 then k else f) with h | h
    ·exact .inl h
    ·exact .inr (by omega)
theorem b4z {n:Nat}:∀ {rs:List (List Int)} {k:Nat},c6h n rs k=none->inB n rs
 | [],k,h=>fun r hr=>by simp at hr
 | r::rs,k,h=>by
  simp only [c6h] at h
  split at h
  ·cases h
  ·rename_i hb
   intro x hx
   rcases List.mem_cons.1 hx with rfl | hx
   ·intro y hy
    have:d0c n y=false:=by
     simp only [List.any_eq_true,not_exists,not_and,Bool.not_eq_true] at hb
     exact hb y hy
    simp [d0c] at this
    omega
   ·exact b4z h x hx
end
theorem get!_set {α:Type} [Inhabited α] {l:List α} {i k:Nat} {v:α} (hi:i < l.length):(l.set i v)[k]! =if k=i then v else l[k]! :=by
 by_cases h:k=i
 ·subst h; simp [hi]
 ·simp only [h,if_false]
  by_cases hk:k < l.length
  ·simp [hk,Ne.symm h,List.getElem_set]
  ·simp [hk]
theorem get!_rep {α:Type} [Inhabited α] {n k:Nat} {v:α} (h:k < n):(List.replicate n v)[k]! =v:=by simp [h]
theorem get!_drop {α:Type} [Inhabited α] {l:List α} {i:Nat} (h:i < l.length):l.drop i=l[i]! ::l.drop (i+1):=by
 rw [List.drop_eq_getElem_cons h]; simp [h]
theorem a8s {n i:Nat}:∀ {row:List Int} {u:List (List Int)} {l:List Int},a1f n i row u l=none↔row.any (d0c n)=true
 | [],u,l=>by simp [a1f]
 | k::ks,u,l=>by
  rw [a1f,List.any_cons]
  by_cases hb:k < 0\/(n:Int)<=k
  ·rw [if_pos hb]
   have:d0c n k=true:=by simp only [d0c,Bool.or_eq_true,decide_eq_true_eq]; exact hb
   simp [this]
  ·rw [if_neg hb,a8s]
   have:d0c n k=false:=by simp only [d0c,Bool.or_eq_false_iff,decide_eq_false_iff_not]; omega
   simp [this]
theorem c37 {n:Nat}:∀ {rs:List (List Int)} {i:Nat} {u:List (List Int)} {l:List Int},(∀ k,c6h n rs i=some k->a7f n rs i u l= .error k)/\(c6h n rs i=none->∃ p,a7f n rs i u l= .ok p)
 | [],i,u,l=>⟨fun k h=>by simp [c6h] at h,fun _=>⟨_,rfl⟩⟩
 | r::rs,i,u,l=>by
  rw [c6h,a7f]
  by_cases hb:r.any (d0c n)=true
  ·rw [if_pos hb,a8s.2 hb]
   exact ⟨fun k h=>by injection h with h; rw [h],fun h=>by cases h⟩
  ·rw [if_neg hb]
   cases hf:a1f n i r u l with
   | none=>exact absurd (a8s.1 hf) hb
   | some p=>exact c37
theorem b3z {n i:Nat} (hi:i < n):∀ {row:List Int} {u u':List (List Int)} {l l':List Int},a1f n i row u l=some (u',l')->u.length=n->l.length=n->0<=l[i]! ->l[i]! +row.length < 2 ^ 62->
  u'.length=n/\l'.length=n/\(∀ k,k < n->∀ j:Int,(u'[k]!).count j=(u[k]!).count j+if j=i then row.count (k:Int) else 0)/\∀ k,k < n->l'[k]! =l[k]! +if k=i then (row.length:Int) else 0
 | [],u,u',l,l',h,hu,hl,h0,h1=>by
  simp only [a1f,Option.some.injEq,Prod.mk.injEq] at h
  obtain ⟨rfl,rfl⟩:=h
  exact ⟨hu,hl,fun k hk j=>by simp,fun k hk=>by simp⟩
 | x::xs,u,u',l,l',h,hu,hl,h0,h1=>by
  rw [a1f] at h
  split at h
  ·cases h
  ·rename_i hb
   simp only [List.length_cons] at h1
   have hw:wr (l[i]! +1)=l[i]! +1:=a9b (by omega)
   rw [hw] at h
   have hx:x.toNat < u.length:=by omega
   have hli:(l.set i (l[i]! +1))[i]! =l[i]! +1:=by rw [get!_set (by omega)]; simp
   obtain ⟨g1,g2,g3,g4⟩:=b3z hi h (by simpa using hu) (by simpa using hl) (by rw [hli]; omega) (by rw [hli]; omega)
   refine ⟨g1,g2,fun k hk j=> ?_,fun k hk=> ?_⟩
   ·rw [g3 k hk j,get!_set hx]
    by_cases hkx:k=x.toNat
    ·subst hkx
     have:(x.toNat:Int)=x:=by omega
     simp only [if_true,List.count_append,this,List.count_cons,List.count_nil]
     by_cases hj:j=i
     ·subst hj; simp; omega
     ·have:¬ ((i:Int)=j):=fun h=>hj h.symm
      simp [hj,this]
    ·have:¬ (x=(k:Int)):=by omega
     simp only [hkx,if_false,List.count_cons,beq_iff_eq,this,Nat.add_zero]
   ·rw [g4 k hk,get!_set (by omega)]
    by_cases hki:k=i
    ·subst hki; simp; omega
    ·simp [hki]
theorem c38 {n:Nat}:∀ {rs:List (List Int)} {i:Nat} {u u':List (List Int)} {l l':List Int},a7f n rs i u l= .ok (u',l')->i+rs.length=n->u.length=n->l.length=n->(∀ k,k < n->0<=l[k]!)->(∀ k,k < n->i<=k->l[k]! =0)->(∀ r∈rs,r.length < 2 ^ 61)->
  (∀ k,k < n->∀ j:Nat,j < n->(u'[k]!).count (j:Int)=(u[k]!).count (j:Int)+if i<=j then (rs[j - i]!).count (k:Int) else 0)/\∀ k,k < n->l'[k]! =l[k]! +if i<=k then ((rs[k - i]!).length:Int) else 0
 | [],i,u,u',l,l',h,hi,hu,hl,h0,h1,hr=>by
  simp only [a7f,Except.ok.injEq,Prod.mk.injEq] at h
  obtain ⟨rfl,rfl⟩:=h
  simp only [List.length_nil,Nat.add_zero] at hi
  subst hi
  exact ⟨fun k hk j hj=>by rw [if_neg (by omega)]; rfl,fun k hk=>by rw [if_neg (by omega)]; simp⟩
 | r::rs,i,u,u',l,l',h,hi,hu,hl,h0,h1,hr=>by
  rw [a7f] at h
  simp only [List.length_cons] at hi
  have hin:i < n:=by omega
  cases hf:a1f n i r u l with
  | none=>rw [hf] at h; cases h
  | some p=>
   obtain ⟨u1,l1⟩:=p
   rw [hf] at h
   simp only at h
   have hrl:=hr r (by simp)
   obtain ⟨g1,g2,g3,g4⟩:=b3z hin hf hu hl (h0 i hin) (by rw [h1 i hin (Nat.le_refl _)]; omega)
   obtain ⟨k1,k2⟩:=c38 h (by omega) g1 g2 (fun k hk=>by rw [g4 k hk]; have:=h0 k hk; split<;>omega) (fun k hk hik=>by rw [g4 k hk,if_neg (by omega),h1 k hk (by omega)]; rfl) (fun x hx=>hr x (by simp [hx]))
   refine ⟨fun k hk j hj=> ?_,fun k hk=> ?_⟩
   ·rw [k1 k hk j hj,g3 k hk]
    rcases Nat.lt_trichotomy j i with hji | hji | hji
    ·rw [if_neg (by omega),if_neg (by omega),if_neg (by omega)]
    ·subst hji; rw [if_pos rfl,if_neg (by omega),if_pos (Nat.le_refl _)]; simp
    ·have e:j - i=(j - (i+1))+1:=by omega
     rw [if_neg (by omega),if_pos (by omega),if_pos (by omega),e]
     simp
   ·rw [k2 k hk,g4 k hk]
    rcases Nat.lt_trichotomy k i with hji | hji | hji
    ·rw [if_neg (by omega),if_neg (by omega),if_neg (by omega)]; omega
    ·subst hji; rw [if_pos rfl,if_neg (by omega),if_pos (Nat.le_refl _)]; simp
    ·have e:k - i=(k - (i+1))+1:=by omega
     rw [if_neg (by omega),if_pos (by omega),if_pos (by omega),e]
     simp
theorem c7m {n:Nat}:∀ {ks l:List Int},l.length=n->(∀ k∈ks,0<=k/\k < (n:Int))->(∀ k,k < n->(ks.count (k:Int):Int)<=l[k]! /\l[k]! < 2 ^ 62)->∀ k,k < n->(c23 ks l)[k]! =l[k]! - ks.count (k:Int)
 | [],l,hl,hk,hb,k,hkn=>by simp [c23]
 | x::xs,l,hl,hk,hb,k,hkn=>by
  obtain ⟨h1,h2⟩:=hk x (by simp)
  have hx:x.toNat < l.length:=by omega
  have e:(x.toNat:Int)=x:=by omega
  have hbx:=hb x.toNat (by omega)
  rw [e] at hbx
  simp only [List.count_cons_self] at hbx
  have hw:wr (l[x.toNat]! - 1)=l[x.toNat]! - 1:=a9b (by omega)
  rw [c23,hw,c7m (n:=n) (by simpa using hl) (fun k hk'=>hk k (by simp [hk'])) (fun k hkn=> ?_) k hkn,get!_set hx]
  ·by_cases hkx:k=x.toNat
   ·subst hkx; rw [if_pos rfl,e,List.count_cons_self]; omega
   ·have:¬ (x=(k:Int)):=by omega
    simp only [hkx,if_false,List.count_cons,beq_iff_eq,this,Nat.add_zero]
  ·rw [get!_set hx]
   have:=hb k hkn
   by_cases hkx:k=x.toNat
   ·subst hkx; rw [e] at this ⊢; rw [if_pos rfl]; simp only [List.count_cons_self] at this; omega
   ·have hne:¬ (x=(k:Int)):=by omega
    simp only [hkx,if_false]
    simp only [List.count_cons,beq_iff_eq,hne,if_false,Nat.add_zero] at this
    exact this
def cnt (done:List Bool) (row:List Int):Nat:=row.countP fun x=> !done[x.toNat]!
theorem c7g {done:List Bool} {i:Nat} (hi:i < done.length) (hd:done[i]! =false):∀ {row:List Int},(∀ x∈row,0<=x/\x < (done.length:Int))->cnt (done.set i true) row+row.count (i:Int)=cnt done row
 | [],_=>by simp [cnt]
 | x::xs,h=>by
  have ih:=c7g hi hd (row:=xs) (fun y hy=>h y (by simp [hy]))
  simp only [cnt] at ih ⊢
  rw [List.countP_cons,List.countP_cons,List.count_cons,get!_set hi]
  have:=(h x (by simp)).1
  by_cases hx:x.toNat=i
  ·have:x=(i:Int):=by omega
   subst this
   simp [hd] at ih ⊢
   omega
  ·have:¬ (x=(i:Int)):=by omega
   simp only [hx,if_false,beq_iff_eq,this,Nat.add_zero]
   omega
theorem c3x {done:List Bool} {row:List Int}:cnt done row=0↔row.all (fun x=>done[x.toNat]!)=true:=by
 simp only [cnt,List.countP_eq_zero,List.all_eq_true,Bool.not_eq_true',Bool.not_eq_false]
structure J (ins u:List (List Int)) (done:List Bool) (left:List Int):Prop where
 hd:done.length=ins.length
 hl:left.length=ins.length
 left:∀ k,k < ins.length->left[k]! =cnt done ins[k]!
structure U (ins u:List (List Int)):Prop where
 inb:inB ins.length ins
 len:∀ r∈ins,r.length < 2 ^ 61
 cnt:∀ k,k < ins.length->∀ j,j < ins.length->(u[k]!).count (j:Int)=(ins[j]!).count (k:Int)
 ub:∀ k,k < ins.length->∀ x∈u[k]!,0<=x/\x < (ins.length:Int)
theorem e2s {done:List Bool} {row:List Int}:cnt done row<=row.length:=List.countP_le_length
theorem J.step {ins u:List (List Int)} {done:List Bool} {left:List Int} (hU:U ins u) (h:J ins u done left) {i:Nat} (hi:i < ins.length) (hdi:done[i]! =false):J ins u (done.set i true) (c23 u[i]! left) where
 hd:=by simpa using h.hd
 hl:=by rw [b72]; exact h.hl
 left k hk:=by
  have hrow:∀ k,k < ins.length->ins[k]! ∈ins:=fun k hk=>by simp [hk]
  have hset:∀ k,k < ins.length->cnt (done.set i true) ins[k]! +(ins[k]!).count (i:Int)=cnt done ins[k]! :=fun k hk=>c7g (by rw [h.hd]; exact hi) hdi (fun x hx=>by rw [h.hd]; exact hU.inb _ (hrow k hk) x hx)
  rw [c7m h.hl (hU.ub i hi) (fun k hk=> ?_) k hk,h.left k hk,hU.cnt i hi k hk]
  ·have:=hset k hk
   omega
  ·rw [h.left k hk,hU.cnt i hi k hk]
   have:=hset k hk
   have h2:=e2s (done:=done) (row:=ins[k]!)
   have h3:=hU.len _ (hrow k hk)
   omega
theorem b4w {ins u:List (List Int)} {done:List Bool} {left:List Int} (hJ:J ins u done left):∀ (m i:Nat) (f:Int),i+m=ins.length->
  (∀ k,a7h (done.drop i) (left.drop i) i=some k->(a5t done (ins.drop i) i f).1=k)/\(a7h (done.drop i) (left.drop i) i=none->a5t done (ins.drop i) i f=(-1,if f < 0/\0<=a2z false (done.drop i) i then a2z false (done.drop i) i else f))
 | 0,i,f,h=>by
  have h1:=hJ.hd
  have h2:=hJ.hl
  have d1:done.drop i=[]:=List.drop_eq_nil_of_le (by omega)
  have d2:left.drop i=[]:=List.drop_eq_nil_of_le (by omega)
  have d3:ins.drop i=[]:=List.drop_eq_nil_of_le (by omega)
  rw [d1,d2,d3]
  simp [a7h,a5t,a2z]
 | m+1,i,f,h=>by
  have h1:=hJ.hd
  have h2:=hJ.hl
  have hi:i < ins.length:=by omega
  have e1:done.drop i=done[i]! ::done.drop (i+1):=get!_drop (by omega)
  have e2:left.drop i=left[i]! ::left.drop (i+1):=get!_drop (by omega)
  have e3:ins.drop i=ins[i]! ::ins.drop (i+1):=get!_drop hi
  have e4:a2z false (done[i]! ::done.drop (i+1)) i=if false=done[i]! then (i:Int) else a2z false (done.drop (i+1)) (i+1):=rfl
  rw [e1,e2,e3,e4,a7h,a5t]
  by_cases hd:done[i]! =true
  ·rw [if_pos (.inl hd),if_pos hd,if_neg (show ¬ false=done[i]! by rw [hd]; simp)]
   exact b4w hJ m (i+1) f (by omega)
  ·have hd':done[i]! =false:=by simpa using hd
   have hdi:false=done[i]! :=hd'.symm
   rw [if_neg hd,if_pos hdi]
   have hl:=hJ.left i hi
   by_cases hc:cnt done ins[i]! =0
   ·rw [if_neg (by rintro (h | h); exact hd h; rw [hl,hc] at h; simp at h),if_pos (c3x.1 hc)]
    exact ⟨fun k hk=>by injection hk with hk; subst hk; rfl,fun hk=>by cases hk⟩
   ·rw [if_pos (.inr (by rw [hl]; omega)),if_neg (fun h=>hc (c3x.2 h))]
    obtain ⟨g1,g2⟩:=b4w hJ m (i+1) (if f < 0 then (i:Int) else f) (by omega)
    refine ⟨g1,fun hk=> ?_⟩
    rw [g2 hk]
    congr 1
    by_cases hf:f < 0
    ·rw [if_pos hf,if_neg (by omega),if_pos ⟨hf,by omega⟩]
    ·rw [if_neg hf,if_neg (by omega),if_neg (by omega)]
theorem a9x:∀ {l:List Bool} {i:Nat},(l.count false=0↔a2z false l i= -1)/\(l.count false≠0->0<=a2z false l i)
 | [],i=>by simp [a2z]
 | b::l,i=>by
  rw [a2z]
  cases b with
  | false=>rw [if_pos rfl]; simp
  | true=>rw [if_neg (by simp)]; simpa using a9x (l:=l) (i:=i+1)
theorem c0c {ins u:List (List Int)} (hU:U ins u):∀ (f:Nat) {done:List Bool} {left out:List Int},J ins u done left->done.count false=f->
  a95 ins f done out=if 0<=a2z false (a7g u f done left out).1 0 then .error (a2z false (a7g u f done left out).1 0) else .ok (a7g u f done left out).2
 | 0,done,left,out,hJ,hc=>by
  rw [a95,a7g]
  simp only
  rw [(a9x (l:=done) (i:=0)).1.1 hc]
  simp
 | f+1,done,left,out,hJ,hc=>by
  obtain ⟨g1,g2⟩:=b4w hJ ins.length 0 (-1) (by omega)
  simp only [List.drop_zero] at g1 g2
  have hidx:=(a9x (l:=done) (i:=0)).2 (by omega)
  rw [a95,a7g]
  cases hp:a7h done left 0 with
  | none=>
   rw [g2 hp]
   simp [hidx]
  | some i=>
   obtain ⟨_,hi,hdi⟩:=b73 hp
   simp only [Nat.sub_zero] at hi hdi
   have hcnt:=c0l hp
   rw [g1 i hp,if_neg (by omega)]
   simp only [Int.toNat_natCast]
   have hin:i < ins.length:=by rw [<-hJ.hd]; exact hi
   exact c0c hU f (hJ.step hU hin (by simpa [hi] using hdi)) (by omega)
theorem a9y {n i:Nat}:∀ {row:List Int} {u u':List (List Int)} {l l':List Int},a1f n i row u l=some (u',l')->u'.length=u.length/\l'.length=l.length
 | [],u,u',l,l',h=>by
  simp only [a1f,Option.some.injEq,Prod.mk.injEq] at h
  obtain ⟨rfl,rfl⟩:=h
  exact ⟨rfl,rfl⟩
 | x::xs,u,u',l,l',h=>by
  rw [a1f] at h
  split at h
  ·cases h
  ·obtain ⟨h1,h2⟩:=a9y h
   exact ⟨by simpa using h1,by simpa using h2⟩
theorem b7o {n:Nat}:∀ {rs:List (List Int)} {i:Nat} {u u':List (List Int)} {l l':List Int},a7f n rs i u l= .ok (u',l')->u.length=n->l.length=n->u'.length=n/\l'.length=n
 | [],i,u,u',l,l',h,hu,hl=>by
  simp only [a7f,Except.ok.injEq,Prod.mk.injEq] at h
  obtain ⟨rfl,rfl⟩:=h
  exact ⟨hu,hl⟩
 | r::rs,i,u,u',l,l',h,hu,hl=>by
  rw [a7f] at h
  cases hf:a1f n i r u l with
  | none=>rw [hf] at h; cases h
  | some p=>
   rw [hf] at h
   obtain ⟨h1,h2⟩:=a9y hf
   exact b7o h (h1.trans hu) (h2.trans hl)
theorem b6e {n i:Nat} (hi:i < n):∀ {row:List Int} {u u':List (List Int)} {l l':List Int},a1f n i row u l=some (u',l')->inB n u->inB n u'
 | [],u,u',l,l',h,hu=>by
  simp only [a1f,Option.some.injEq,Prod.mk.injEq] at h
  obtain ⟨rfl,rfl⟩:=h
  exact hu
 | x::xs,u,u',l,l',h,hu=>by
  rw [a1f] at h
  split at h
  ·cases h
  ·refine b6e hi h (c8b hu fun k hk=> ?_)
   rcases List.mem_append.1 hk with hk | hk
   ·by_cases hx:x.toNat < u.length
    ·simp [hx] at hk; exact hu _ (List.getElem_mem hx) k hk
    ·simp [hx] at hk
     have e:(default:List Int)=[]:=rfl
     rw [e] at hk
     simp at hk
   ·simp at hk; omega
theorem c71 {n:Nat}:∀ {rs:List (List Int)} {i:Nat} {u u':List (List Int)} {l l':List Int},a7f n rs i u l= .ok (u',l')->i+rs.length=n->u.length=n->l.length=n->inB n u->inB n u'
 | [],i,u,u',l,l',h,hi,hu,hl,hin=>by
  simp only [a7f,Except.ok.injEq,Prod.mk.injEq] at h
  obtain ⟨rfl,rfl⟩:=h
  exact hin
 | r::rs,i,u,u',l,l',h,hi,hu,hl,hin=>by
  rw [a7f] at h
  simp only [List.length_cons] at hi
  cases hf:a1f n i r u l with
  | none=>rw [hf] at h; cases h
  | some p=>
   rw [hf] at h
   obtain ⟨h1,h2⟩:=a9y hf
   exact c71 h (by omega) (h1.trans hu) (h2.trans hl) (b6e (by omega) hf hin)
theorem b18 {ins:List (List Int)} (hr:∀ r∈ins,r.length < 2 ^ 61):(∀ i g,a80 ins= .error (i,g)->c3c ins=([],(e2t g,true,i))/\g < 21)/\(∀ out,a80 ins= .ok out->c3c ins=(out,(0,false,0))):=by
 unfold a80 c3c
 obtain ⟨b1,b2⟩:=c37 (n:=ins.length) (rs:=ins) (i:=0) (u:=List.replicate ins.length []) (l:=List.replicate ins.length 0)
 cases hb:c6h ins.length ins 0 with
 | some k=>
  rw [b1 k hb]
  refine ⟨fun i g h=> ?_,fun out h=>by cases h⟩
  simp only [Except.error.injEq,Prod.mk.injEq] at h
  obtain ⟨rfl,rfl⟩:=h
  exact ⟨rfl,by omega⟩
 | none=>
  obtain ⟨⟨u,l⟩,hp⟩:=b2 hb
  rw [hp]
  have hin:=b4z hb
  obtain ⟨c1,c2⟩:=c38 hp (by simp) (by simp) (by simp) (fun k hk=>by rw [get!_rep hk]; omega) (fun k hk _=>get!_rep hk) hr
  have hU:U ins u:={
   inb:=hin,len:=hr
   cnt:=fun k hk j hj=>by rw [c1 k hk j hj,get!_rep hk]; simp
   ub:=fun k hk x hx=>c71 hp (by simp) (by simp) (by simp) (fun r hr=>by rw [List.eq_of_mem_replicate hr]; simp) _ (by
    have:=(b7o hp (by simp) (by simp)).1
    simp [this,hk]) x hx }
  have hJ:J ins u (List.replicate ins.length false) l:={
   hd:=by simp,hl:=(b7o hp (by simp) (by simp)).2
   left:=fun k hk=>by
    rw [c2 k hk,get!_rep hk]
    simp only [Nat.zero_le,if_true,Nat.sub_zero,Int.zero_add,cnt]
    congr 1
    symm
    rw [List.countP_eq_length]
    intro x hx
    have:=hin _ (show ins[k]! ∈ins by simp [hk]) x hx
    rw [get!_rep (by omega)]; rfl }
  have:=c0c hU ins.length (out:=[]) hJ (by simp)
  simp only at this ⊢
  rw [this]
  by_cases h0:0<=a2z false (a7g u ins.length (List.replicate ins.length false) l []).1 0
  ·rw [if_pos h0,if_pos h0]
   refine ⟨fun i g h=> ?_,fun out h=>by cases h⟩
   simp only [Except.error.injEq,Prod.mk.injEq] at h
   obtain ⟨rfl,rfl⟩:=h
   exact ⟨rfl,by omega⟩
  ·rw [if_neg h0,if_neg h0]
   refine ⟨fun i g h=>(by cases h),fun out h=> ?_⟩
   simp only [Except.ok.injEq] at h
   subst h
   rfl
theorem b8n {i:Nat}:∀ {row:List Int} {u:List (List Int)} {t:Nat},t < u.length->(b8x i row u)[t]! =if (t:Int)∈row/\(i:Int) ∉ u[t]! then u[t]! ++[(i:Int)] else u[t]!
 | [],u,t,ht=>by simp [b8x]
 | k::ks,u,t,ht=>by
  rw [b8x]
  by_cases hc:0<=k/\k < (u.length:Int)/\(i:Int) ∉ u[k.toNat]!
  ·rw [if_pos hc]
   have hk:k.toNat < u.length:=by omega
   rw [b8n (by simpa using ht),get!_set hk]
   by_cases htk:t=k.toNat
   ·subst htk
    have:((k.toNat:Nat):Int)=k:=by omega
    rw [if_pos rfl,if_neg (by simp),if_pos ⟨by rw [this]; simp,hc.2.2⟩]
   ·have:(t:Int)≠k:=by omega
    simp only [htk,if_false,List.mem_cons,this,false_or]
  ·rw [if_neg hc,b8n ht]
   by_cases htk:(t:Int)=k
   ·have h1:k.toNat=t:=by omega
    rw [h1] at hc
    have h2:(i:Int)∈u[t]! :=by
     by_cases h:(i:Int)∈u[t]!
     ·exact h
     ·exact absurd ⟨by omega,by omega,h⟩ hc
    rw [if_neg (fun h=>h.2 h2),if_neg (fun h=>h.2 h2)]
   ·simp only [List.mem_cons,htk,false_or]
def sp (t:Nat):List (List Int)->Nat->List Int
 | [],_=>[]
 | r::rs,i=>(if (t:Int)∈r then [(i:Int)] else [])++sp t rs (i+1)
theorem b3r {t:Nat}:∀ {rs:List (List Int)} {i:Nat} {u:List (List Int)},t < u.length->(∀ x∈u[t]!,x < (i:Int))->(c6w rs i u)[t]! =u[t]! ++sp t rs i/\(c6w rs i u).length=u.length
 | [],i,u,ht,hx=>by simp [c6w,sp]
 | r::rs,i,u,ht,hx=>by
  rw [c6w]
  have hl:(b8x i r u).length=u.length:=c41
  have hn:(i:Int) ∉ u[t]! :=fun h=>by have:=hx _ h; omega
  have hg:=b8n (i:=i) (row:=r) ht
  by_cases hr:(t:Int)∈r
  ·rw [if_pos ⟨hr,hn⟩] at hg
   obtain ⟨h1,h2⟩:=b3r (t:=t) (rs:=rs) (i:=i+1) (u:=b8x i r u) (by omega) (fun x hxx=>by
    rw [hg] at hxx
    rcases List.mem_append.1 hxx with h | h
    ·have:=hx x h; omega
    ·simp at h; omega)
   rw [h1,h2,hg,sp,if_pos hr,hl]
   simp
  ·rw [if_neg (fun h=>hr h.1)] at hg
   obtain ⟨h1,h2⟩:=b3r (t:=t) (rs:=rs) (i:=i+1) (u:=b8x i r u) (by omega) (fun x hxx=>by
    rw [hg] at hxx
    have:=hx x hxx; omega)
   rw [h1,h2,hg,sp,if_neg hr,hl]
   simp
theorem e8q {t:Nat}:∀ {rs:List (List Int)} {i:Nat},∀ x∈sp t rs i,(i:Int)<=x
 | [],i,x,h=>by simp [sp] at h
 | r::rs,i,x,h=>by
  rw [sp] at h
  rcases List.mem_append.1 h with h | h
  ·split at h<;>simp at h; omega
  ·have:=e8q x h; omega
theorem d4g {t:Nat}:∀ {rs:List (List Int)} {i:Nat},(sp t rs i).length<=rs.length
 | [],i=>by simp [sp]
 | r::rs,i=>by
  rw [sp,List.length_append]
  have:=d4g (t:=t) (rs:=rs) (i:=i+1)
  split<;>simp<;>omega
def a54 (k:Int):Bool:=decide (1<=k/\k<=256)
def a6a:List Int->Int->Int
 | [],n=>n
 | k::ks,n=>a6a ks (n*k)
def a04 (sh:List Int):Er:=if 4 < sh.length then .s 2 else if sh.all a54=true then (if 16384 < a6a sh 1 then .s 2 else .nil) else .s 3
def b8w (sh:List Int):Bool:=decide (sh.length<=4)&&sh.all a54&&decide (a6a sh 1<=16384)
def a11 (sh:List Int):Int:=if b8w sh=true then a6a sh 1 else 0
theorem b3n:∀ {ks:List Int} {n:Int},ks.all a54=true->0<=n->n<=a6a ks n
 | [],n,_,_=>Int.le_refl _
 | k::ks,n,h,hn=>by
  simp only [List.all_cons,Bool.and_eq_true] at h
  obtain ⟨ha,hb⟩:=h
  simp only [a54,decide_eq_true_eq] at ha
  have h1:n*1<=n*k:=Int.mul_le_mul_of_nonneg_left ha.1 hn
  exact Int.le_trans (b:=n*k) (by omega) (b3n (ks:=ks) (n:=n*k) hb (by omega))
theorem a4x {sh:List Int}:a04 sh= .nil↔b8w sh=true:=by
 unfold a04 b8w
 by_cases h1:4 < sh.length
 ·have:¬ sh.length<=4:=by omega
  simp [h1,this]
 ·have h1':sh.length<=4:=by omega
  by_cases h2:sh.all a54=true
  ·by_cases h3:16384 < a6a sh 1
   ·have:¬ a6a sh 1<=16384:=by omega
    simp [h1,h2,h3,this]
   ·have:a6a sh 1<=16384:=by omega
    simp [h1,h1',h2,h3,this]
  ·simp [h1,h2]
theorem a55 (sh:List Int):a04 sh= .nil\/a04 sh= .s 2\/a04 sh= .s 3:=by
 unfold a04
 split
 ·simp
 ·split
  ·split<;>simp
  ·simp
@[go_sem] theorem a0t {bk:Nat->Nat×Nat} (e:Er):noRef (a0r bk e)=true:=(c7u e).1
@[go_sem] theorem d83 {bk:Nat->Nat×Nat} (e:Er):a0n (a0r bk e)=true:=(c7u e).2
section
variable {G:GG} {bk:Nat->Nat×Nat} {Q:Exit->St->Prop} {st:St}
theorem d3g (hS:Sent3 G bk) {sh:List Int} {w:Bool} (hl:sh.length<=4) (h:st.s 1= .var [slI sh,lb w]/\st.s 14=slI sh/\st.s 15=li sh.length/\st.s 16=li 0/\st.s 3=li 1)
  (hex:sh.all a54=true->∀ s,s.s 1= .var [slI sh,lb w]/\s.s 3=li 1->Q (.exit 0) s) (hret:sh.all a54=false->∀ s,s.s 2=sv bk 3->Q .ret s):AW pg G 42 (.loop a2s) Q st:=by
 refine a0x Nat (fun i st=>i<=sh.length/\(sh.drop i).all a54=sh.all a54/\st.s 1= .var [slI sh,lb w]/\st.s 14=slI sh/\st.s 15=li sh.length/\st.s 16=li i/\st.s 3=li 1) (fun i=>sh.length - i) 0 ⟨by simp,rfl,h⟩ ?_
 clear h
 rintro i st K ⟨hi,hm,h⟩ hK
 by_cases hlt:i < sh.length
 ·rw [List.drop_eq_getElem_cons hlt,List.all_cons] at hm
  by_cases k1:sh[i] < 1
  ·have d:a54 sh[i]=false:=by simp [a54]; omega
   rw [d] at hm
   simp (disch:=omega) [go_sem,a2s,h,hlt,k1,hS.val]
   exact hret hm.symm _ (by simp (disch:=omega) [go_sem])
  ·by_cases k2:256 < sh[i]
   ·have d:a54 sh[i]=false:=by simp [a54]; omega
    rw [d] at hm
    simp (disch:=omega) [go_sem,a2s,h,hlt,k1,k2,hS.val]
    exact hret hm.symm _ (by simp (disch:=omega) [go_sem])
   ·have d:a54 sh[i]=true:=by simp [a54]; omega
    rw [d] at hm
    simp (disch:=omega) [go_sem,a2s,h,hlt,k1,k2,hS.val]
    exact hK (i+1) _ ⟨by omega,hm,by simp (disch:=omega) [go_sem,h]⟩ (by omega)
 ·obtain rfl:i=sh.length:=by omega
  rw [List.drop_length] at hm
  simp (disch:=omega) [go_sem,a2s,h]
  exact hex hm.symm _ (by simp (disch:=omega) [go_sem,h])
theorem d3h (hS:Sent3 G bk) {sh:List Int} (hl:sh.length<=4) (hd:sh.all a54=true) (h:st.s 29=slI sh/\st.s 30=li sh.length/\st.s 31=li 0/\st.s 3=li 1)
  (hex:a6a sh 1<=16384->∀ s,Q (.exit 2) s) (hret:16384 < a6a sh 1->∀ s,s.s 2=sv bk 2->Q .ret s):AW pg G 42 (.loop a3p) Q st:=by
 refine a0x (Nat×Int) (fun p st=>p.1<=sh.length/\a6a (sh.drop p.1) p.2=a6a sh 1/\1<=p.2/\p.2<=16384/\(sh.drop p.1).all a54=true/\st.s 29=slI sh/\st.s 30=li sh.length/\st.s 31=li p.1/\st.s 3=li p.2) (fun p=>sh.length - p.1) (0,1) ⟨by simp,rfl,by simp,by simp,by simpa using hd,h⟩ ?_
 clear h
 rintro ⟨i,n⟩ st K ⟨hi,hm,hn1,hn2,ha,h⟩ hK
 simp only at hi hm hn1 hn2 ha h
 by_cases hlt:i < sh.length
 ·rw [List.drop_eq_getElem_cons hlt] at hm ha
  simp only [List.all_cons,Bool.and_eq_true] at ha
  have hd1:=ha.1
  simp only [a54,decide_eq_true_eq] at hd1
  simp only [a6a] at hm
  have b1:n*1<=n*sh[i]:=Int.mul_le_mul_of_nonneg_left hd1.1 (by omega)
  have b2:n*sh[i]<=16384*256:=Int.mul_le_mul hn2 hd1.2 (by omega) (by omega)
  by_cases k:16384 < n*sh[i]
  ·have g:=b3n ha.2 (show 0<=n*sh[i] by omega)
   simp (disch:=omega) [go_sem,a3p,h,hlt,k,hS.val]
   exact hret (by omega) _ (by simp (disch:=omega) [go_sem])
  ·simp (disch:=omega) [go_sem,a3p,h,hlt,k,hS.val]
   exact hK (i+1,n*sh[i]) _ ⟨by simp only; omega,hm,by simp only; omega,by simp only; omega,ha.2,by simp (disch:=omega) [go_sem,h]⟩ (by simp only; omega)
 ·obtain rfl:i=sh.length:=by omega
  rw [List.drop_length,a6a] at hm
  simp (disch:=omega) [go_sem,a3p,h]
  exact hex (by omega) _
theorem a06 (hS:Sent3 G bk) (sh:List Int) (w:Bool) (hlen:sh.length < 2 ^ 62):ACalls pg G b7b [.agg [slI sh,lb w]] (a0r bk (a04 sh)):=by
 refine b3b rfl ?_
 by_cases h4:4 < sh.length
 ·have h4':(4:Int) < sh.length:=by omega
  simp (disch:=omega) [go_sem,a79,h4',a04,h4,hS.val,a0r]
 ·have h4':¬ (4:Int) < sh.length:=by omega
  simp (disch:=omega) [go_sem,a79,h4',hS.val]
  refine d3g (sh:=sh) (w:=w) hS (by omega) (by simp (disch:=omega) [go_sem]) (fun hd s h=> ?_) (fun hd s h=>by simp (disch:=omega) [go_sem,h,a04,h4,hd,a0r])
  simp (disch:=omega) [go_sem,h]
  refine d3h (sh:=sh) hS (by omega) hd (by simp (disch:=omega) [go_sem,h]) (fun hp s=> ?_) (fun hp s h=>by simp (disch:=omega) [go_sem,h,a04,h4,hd,hp,a0r])
  have hp':¬ 16384 < a6a sh 1:=by omega
  simp (disch:=omega) [go_sem,a04,h4,hd,hp',a0r]
theorem d5p (hS:Sent3 G bk) (sh:List Int) (hlen:sh.length < 2 ^ 62):ACalls pg G b89 [slI sh] (lb (b8w sh)):=by
 refine b48 rfl ?_
 simp (disch:=omega) [go_sem,b2x]
 have hv:=a06 (G:=G) hS sh false hlen
 rcases a55 sh with e | e | e<;>rw [e] at hv<;>simp only [a0r] at hv
 ·refine a0i hv rfl rfl ?_
  simp (disch:=omega) [go_sem,a4x.1 e]
 all_goals
  have n:b8w sh=false:=by
   cases hh:b8w sh
   ·rfl
   ·rw [a4x.2 hh] at e; cases e
  refine a0i hv rfl rfl ?_
  simp (disch:=omega) [go_sem,n]
theorem b0r (hS:Sent3 G bk) (sh:List Int) (hlen:sh.length < 2 ^ 62):ACalls pg G b7a [slI sh] (li (a11 sh)):=by
 refine b3a rfl ?_
 simp (disch:=omega) [go_sem,b1j]
 refine a0i (d5p hS sh hlen) rfl rfl ?_
 cases hok:b8w sh with
 | false=>simp (disch:=omega) [go_sem,hok,a11]
 | true=>
  simp (disch:=omega) [go_sem,hok,a11]
  simp only [b8w,Bool.and_eq_true,decide_eq_true_eq] at hok
  refine a0x (Nat×Int) (fun p st=>p.1<=sh.length/\a6a (sh.drop p.1) p.2=a6a sh 1/\1<=p.2/\(sh.drop p.1).all a54=true/\st.s 9=slI sh/\st.s 10=li sh.length/\st.s 11=li p.1/\st.s 3=li p.2) (fun p=>sh.length - p.1) (0,1) ⟨by simp,rfl,by simp,by simpa using hok.1.2,by simp (disch:=omega) [go_sem]⟩ ?_
  rintro ⟨i,n⟩ st K ⟨hi,hm,hn1,ha,h⟩ hK
  simp only at hi hm hn1 ha h
  by_cases hlt:i < sh.length
  ·rw [List.drop_eq_getElem_cons hlt] at hm ha
   simp only [List.all_cons,Bool.and_eq_true] at ha
   have hd1:=ha.1
   simp only [a54,decide_eq_true_eq] at hd1
   simp only [a6a] at hm
   have b1:n*1<=n*sh[i]:=Int.mul_le_mul_of_nonneg_left hd1.1 (by omega)
   have g:=b3n ha.2 (show 0<=n*sh[i] by omega)
   simp (disch:=omega) [go_sem,a6y,h,hlt]
   exact hK (i+1,n*sh[i]) _ ⟨by simp only; omega,hm,by simp only; omega,ha.2,by simp (disch:=omega) [go_sem,h]⟩ (by simp only; omega)
  ·obtain rfl:i=sh.length:=by omega
   rw [List.drop_length,a6a] at hm
   simp (disch:=omega) [go_sem,a6y,h,hm]
def a18 (sh:List Int) (w:Bool):Int:=if w=true then 4*a11 sh else a11 sh
theorem a68 (sh:List Int):0<=a11 sh/\a11 sh<=16384:=by
 unfold a11
 split
 ·rename_i h
  simp only [b8w,Bool.and_eq_true,decide_eq_true_eq] at h
  have:=b3n (n:=1) h.1.2 (by omega)
  omega
 ·omega
theorem d02 (hS:Sent3 G bk) (sh:List Int) (w:Bool) (hlen:sh.length < 2 ^ 62):ACalls pg G b68 [.agg [slI sh,lb w]] (li (a18 sh w)):=by
 refine b28 rfl ?_
 have hr:=a68 sh
 cases w<;>simp (disch:=omega) [go_sem,b1h]<;>refine a0i (b0r hS sh hlen) rfl rfl ?_<;>simp (disch:=omega) [go_sem,a18]
def b7q (n:Int) (w:Bool):Bool:=if w=true then decide (-2147483648<=n/\n<=2147483647) else decide (-128<=n/\n<=127)
theorem d5q (n:Int) (w:Bool):ACalls pg G c1m [li n,lb w] (lb (b7q n w)):=by
 refine b52 rfl ?_
 cases w
 ·by_cases h1: -128<=n<;>by_cases h2:n<=127<;>simp (disch:=omega) [go_sem,a98,b7q,h1,h2]
 ·by_cases h1: -2147483648<=n<;>by_cases h2:n<=2147483647<;>simp (disch:=omega) [go_sem,a98,b7q,h1,h2]
def a37 (w:Bool):List Int->Nat->Option Nat
 | [],_=>none
 | n::ns,i=>if b7q n w=true then a37 w ns (i+1) else some i
def c85:Option Nat->Er
 | none=> .nil
 | some i=> .at i (.s 3)
def a9j (sh:List Int) (w:Bool) (data:List Int):Er:=if b8w sh=true then (if (data.length:Int)=a11 sh then c85 (a37 w data 0) else .s 6) else a04 sh
abbrev g4g (sh:List Int) (w:Bool) (data:List Int):AV:= .agg [slI sh,lb w,slI data]
theorem c95 (hS:Sent3 G bk) {sh:List Int} {w:Bool} {data:List Int} (hl:data.length < 2 ^ 62) (h:st.s 1= .var [slI sh,lb w,slI data]/\st.s 22=slI data/\st.s 23=li data.length/\st.s 24=li 0)
  (hex:a37 w data 0=none->∀ s,Q (.exit 0) s) (hret:∀ i,a37 w data 0=some i->∀ s,s.s 2=a0r bk (.at i (.s 3))->Q .ret s):AW pg G 41 (.loop a5w) Q st:=by
 refine a0x Nat (fun i st=>i<=data.length/\a37 w (data.drop i) i=a37 w data 0/\st.s 1= .var [slI sh,lb w,slI data]/\st.s 22=slI data/\st.s 23=li data.length/\st.s 24=li i) (fun i=>data.length - i) 0 ⟨by simp,rfl,h⟩ ?_
 clear h
 rintro i st K ⟨hi,hm,h⟩ hK
 by_cases hlt:i < data.length
 ·rw [List.drop_eq_getElem_cons hlt,a37] at hm
  simp (disch:=omega) [go_sem,a5w,h,hlt]
  refine a0i (d5q data[i] w) rfl rfl ?_
  cases hf:b7q data[i] w with
  | true=>
   rw [if_pos hf] at hm
   simp (disch:=omega) [go_sem,h,hf]
   exact hK (i+1) _ ⟨by omega,hm,by simp (disch:=omega) [go_sem,h]⟩ (by omega)
  | false=>
   rw [if_neg (by simp [hf])] at hm
   simp (disch:=omega) [go_sem,h,hf,hS.val]
   exact hret i hm.symm _ (by simp (disch:=omega) [go_sem,a0r])
 ·obtain rfl:i=data.length:=by omega
  rw [List.drop_length,a37] at hm
  simp (disch:=omega) [go_sem,a5w,h]
  exact hex hm.symm _
theorem c94 (hS:Sent3 G bk) (sh:List Int) (w:Bool) (data:List Int) (hlen:sh.length < 2 ^ 62) (hl:data.length < 2 ^ 62):ACalls pg G b9b [g4g sh w data] (a0r bk (a9j sh w data)):=by
 refine b5d rfl ?_
 simp (disch:=omega) [go_sem,b2z]
 have hv:=a06 (G:=G) hS sh w hlen
 rcases a55 sh with e | e | e
 ·have ok:=a4x.1 e
  rw [e] at hv
  simp only [a0r] at hv
  refine a0i hv rfl rfl ?_
  simp (disch:=omega) [go_sem]
  refine a0b ?_
  simp (disch:=omega) [go_sem]
  refine a0w (b0r hS sh hlen) rfl rfl (by simp) [18] (by simp) (by simp (disch:=omega) [go_sem]) ?_
  simp (disch:=omega) [go_sem]
  refine a0c (by decide) fun s2 hs he=> ?_
  by_cases hn:(data.length:Int)=a11 sh
  ·simp (disch:=omega) [go_sem,hs,hn]
   refine c95 (sh:=sh) (w:=w) (data:=data) hS hl (by simp (disch:=omega) [go_sem,hs,hn]) (fun hf s=> ?_) (fun i hf s h=> ?_)
   ·simp (disch:=omega) [go_sem,a9j,ok,hn,hf,c85,a0r]
   ·simp (disch:=omega) [go_sem,a9j,ok,hn,hf,c85,h]
  ·simp (disch:=omega) [go_sem,hs,hn,hS.val,a9j,ok,a0r]
 all_goals
  have ok:b8w sh=false:=by
   cases hh:b8w sh
   ·rfl
   ·rw [a4x.2 hh] at e; cases e
  rw [e] at hv
  simp only [a0r] at hv
  refine a0i hv rfl rfl ?_
  simp (disch:=omega) [go_sem,a9j,ok,e,a0r]
end
@[go_sem] theorem e6d (xs:List Int):a0z (xs.map lu)=true:=b12 fun x=>by simp only [a0y]
@[go_sem] theorem e6m (xs:List Int):a0m (xs.map lu)=true:=b14 fun x=>by simp only [a0n]
@[go_sem] theorem e8x {α:Type} {f:α->AV} {xs:List α} {a:AV}:List.take (xs.length+1) (xs.map f++[a])=xs.map f++[a]:=List.take_of_length_le (by simp)
@[go_sem] theorem e8y {α:Type} {f:α->AV} {xs:List α} {a b:AV}:List.take (xs.length+2) (xs.map f++[a,b])=xs.map f++[a,b]:=List.take_of_length_le (by simp)
section
variable {G:GG} {bk:Nat->Nat×Nat} {Q:Exit->St->Prop} {st:St}
end
structure Gr where
 nodes:List Nd
 out:Int
abbrev slN (ns:List Nd):AV:= .sl ns.length (fm a4p ns)
abbrev d3z (g:Gr):AV:= .agg [slN g.nodes,li g.out]
def b7n (n:Nd):List AV:=[li n.op,owI n.ins,owI n.args,owI n.shape,lb n.wide,owI n.data]
@[go_sem] theorem c35 {xs:List Nd}:(fm b7n xs).length=xs.length*6:=a6i fun _=>rfl
@[go_sem] theorem c7v {xs:List Nd}:(fm b7n xs).take (xs.length*6)=fm b7n xs:=a38 fun _=>rfl
@[go_sem] theorem c34 {xs:List Nd}:a1k (fm b7n xs)=fm a4p xs:=by
 rw [a69]
 congr 1
 funext n
 simp [b7n,a4p,go_sem]
@[go_sem] theorem d84 {xs:List Nd}:a0z (fm b7n xs)=true:=a7v fun n=>by simp [b7n,go_sem]
theorem b06 (xs:List Int):a0y (owI xs)=true:=by simp only [a0y]; exact a1i xs
section
variable {G:GG} {bk:Nat->Nat×Nat} {Q:Exit->St->Prop} {st:St}
structure Nd.fin (n:Nd):Prop where
 ins:n.ins.length < 2 ^ 62
 args:n.args.length < 2 ^ 62
 shape:n.shape.length < 2 ^ 62
 data:n.data.length < 2 ^ 62
structure Nd.sh (n:Nd):Prop where
 ins:n.ins.length < 2 ^ 36
 args:n.args.length < 2 ^ 36
 shape:n.shape.length < 2 ^ 36
 data:n.data.length < 2 ^ 36
theorem c3m (sh:List Int) (w:Bool) (data:List Int):a9j sh w data= .nil\/(∃ g,g < 21/\a9j sh w data= .s g)\/∃ p g,g < 21/\a9j sh w data= .at p (.s g):=by
 unfold a9j
 split
 ·split
  ·cases a37 w data 0 with
   | none=>exact .inl rfl
   | some i=>exact .inr (.inr ⟨i,3,by decide,rfl⟩)
  ·exact .inr (.inl ⟨6,by decide,rfl⟩)
 ·rcases a55 sh with e | e | e<;>rw [e]
  ·exact .inl rfl
  ·exact .inr (.inl ⟨2,by decide,rfl⟩)
  ·exact .inr (.inl ⟨3,by decide,rfl⟩)
end
structure Nd.good (n:Nd):Prop where
 ins:n.ins.length<=8
 args:n.args.length<=8
 tens:n.op=2->a9j n.shape n.wide n.data= .nil
section
variable {G:GG} {bk:Nat->Nat×Nat} {Q:Exit->St->Prop} {st:St}
end
end Go.Ideal.Tryd
end
section
namespace Go.Ideal
theorem b0y {α:Type} {f:α->List AV} {k:Nat} {xs:List α} (hf:∀ x,(f x).length=k) {i j:Nat} (h:i < xs.length) (hj:j < k):(fm f xs)[i*k+j]? =(f xs[i])[j]? :=by
 have h1:=b0z (f:=f) (k:=k) hf h
 rw [<-h1,List.getElem?_take,if_pos hj,List.getElem?_drop]
theorem d3w {α:Type} {f:α->List AV} {k:Nat} {xs:List α} (hf:∀ x,(f x).length=k) {i j m:Nat} (h:i < xs.length) (hj:j+m<=k):((fm f xs).drop (i*k+j)).take m=((f xs[i]).drop j).take m:=by
 have h1:=b0z (f:=f) (k:=k) hf h
 rw [<-h1,List.drop_take,List.take_take,List.drop_drop,Nat.min_eq_left (by omega)]
namespace Tryd
section
variable {xs:List Nd} {i:Nat}
@[go_sem] theorem g13 (h:i < xs.length):(fm a4p xs)[i*6]? =some (li xs[i].op):=b0y (f:=a4p) (k:=6) (j:=0) (fun _=>rfl) h (by omega)
@[go_sem] theorem g14 (h:i < xs.length):(fm a4p xs)[i*6+1]? =some (slI xs[i].ins):=b0y (f:=a4p) (k:=6) (fun _=>rfl) h (by omega)
@[go_sem] theorem g15 (h:i < xs.length):(fm a4p xs)[i*6+2]? =some (slI xs[i].args):=b0y (f:=a4p) (k:=6) (fun _=>rfl) h (by omega)
@[go_sem] theorem g16 (h:i < xs.length):((fm a4p xs).drop (i*6+3)).take 3=[slI xs[i].shape,lb xs[i].wide,slI xs[i].data]:=d3w (f:=a4p) (k:=6) (fun _=>rfl) h (by omega)
end
section
variable {G:GG} {bk:Nat->Nat×Nat} {Q:Exit->St->Prop} {st:St}
end
end Tryd
end Go.Ideal
end
section
namespace Go.Ideal.Tryd
def Er.isNil:Er->Bool
 | .nil=>true
 | _=>false
section
variable {G:GG} {bk:Nat->Nat×Nat} {Q:Exit->St->Prop} {st:St}
end
structure Ordered (ins:List (List Int)) (done:List Bool) (out:List Int):Prop where
 hd:done.length=ins.length
 nd:out.Nodup
 mem:∀ x,x < ins.length->(done[x]! =true↔(x:Int)∈out)
 rng:∀ x∈out,0<=x/\x < (ins.length:Int)
 beh:∀ p,p < out.length->∀ y∈ins[(out[p]!).toNat]!,y∈out.take p
theorem b43 {ins:List (List Int)} {done:List Bool}:∀ {rs:List (List Int)} {k:Nat} {f:Int},ins.drop k=rs->0<=(a5t done rs k f).1->done[(a5t done rs k f).1.toNat]! =false/\ins[(a5t done rs k f).1.toNat]!.all (fun x=>done[x.toNat]!)=true
 | [],k,f,h,h0=>by simp [a5t] at h0
 | r::rs,k,f,h,h0=>by
  have hk:k < ins.length:=by
   by_cases hk:k < ins.length
   ·exact hk
   ·rw [List.drop_eq_nil_of_le (by omega)] at h; cases h
  rw [get!_drop hk] at h
  injection h with h1 h2
  rw [a5t] at h0 ⊢
  split at h0
  ·rename_i hd
   rw [if_pos hd]
   exact b43 h2 h0
  ·rename_i hd
   rw [if_neg hd]
   split at h0
   ·rename_i ha
    rw [if_pos ha]
    simp only [Int.toNat_natCast]
    rw [h1]
    exact ⟨by simpa using hd,ha⟩
   ·rename_i ha
    rw [if_neg ha]
    exact b43 h2 h0
theorem b1a {ins:List (List Int)} (hin:inB ins.length ins):∀ (f:Nat) {done:List Bool} {out res:List Int},Ordered ins done out->done.count false=f->a95 ins f done out= .ok res->
  res.Nodup/\(∀ x,x < ins.length->(x:Int)∈res)/\(∀ x∈res,0<=x/\x < (ins.length:Int))/\∀ p,p < res.length->∀ y∈ins[(res[p]!).toNat]!,y∈res.take p
 | 0,done,out,res,h,hc,hl=>by
  simp only [a95,Except.ok.injEq] at hl
  subst hl
  refine ⟨h.nd,fun x hx=>(h.mem x hx).1 ?_,h.rng,h.beh⟩
  rw [List.count_eq_zero] at hc
  have hxd:x < done.length:=by rw [h.hd]; exact hx
  simp only [hxd,getElem!_pos]
  cases hv:done[x] with
  | true=>rfl
  | false=>exact absurd (by rw [<-hv]; exact List.getElem_mem hxd) hc
 | f+1,done,out,res,h,hc,hl=>by
  rw [a95] at hl
  split at hl
  ·cases hl
  ·rename_i hnx
   obtain ⟨g1,g2⟩:=b43 (ins:=ins) (done:=done) (rs:=ins) (k:=0) (f:= -1) rfl (by omega)
   have hrng:=b40 (done:=done) (rs:=ins) (k:=0) (f:= -1)
   generalize (a5t done ins 0 (-1)).1=nx at hl g1 g2 hnx hrng
   have hn:nx.toNat < ins.length:=by omega
   have hnd:nx.toNat < done.length:=by rw [h.hd]; exact hn
   have e:(nx.toNat:Int)=nx:=by omega
   have hni:nx ∉ out:=fun hm=>by
    rw [<-e] at hm
    rw [(h.mem _ hn).2 hm] at g1
    cases g1
   refine b1a hin f (done:=done.set nx.toNat true) (out:=out++[nx]) ?_ ?_ hl
   ·refine ⟨by simpa using h.hd,?_,fun x hx=> ?_,fun x hx=> ?_,fun p hp y hy=> ?_⟩
    ·rw [List.nodup_append]
     exact ⟨h.nd,by simp,fun a ha b hb hab=>by simp at hb; subst hb; subst hab; exact hni ha⟩
    ·rw [get!_set hnd]
     by_cases hxn:x=nx.toNat
     ·subst hxn; simp [e]
     ·rw [if_neg hxn,h.mem x hx]
      simp only [List.mem_append,List.mem_cons,List.not_mem_nil,or_false]
      exact ⟨.inl,fun hh=>hh.elim id fun hh=>absurd (by omega) hxn⟩
    ·rcases List.mem_append.1 hx with hx | hx
     ·exact h.rng x hx
     ·simp at hx; omega
    ·rw [List.length_append] at hp
     simp only [List.length_cons,List.length_nil] at hp
     by_cases hpo:p < out.length
     ·have e1:(out++[nx])[p]! =out[p]! :=by simp [hpo,List.getElem?_append_left]
      rw [e1] at hy
      rw [List.take_append_of_le_length (by omega)]
      exact h.beh p hpo y hy
     ·have hpe:p=out.length:=by omega
      subst hpe
      have e1:(out++[nx])[out.length]! =nx:=by simp
      rw [e1] at hy
      rw [List.take_left]
      rw [List.all_eq_true] at g2
      have hy2:=g2 y hy
      have hyr:=hin _ (show ins[nx.toNat]! ∈ins by simp [hn]) y hy
      have:=(h.mem y.toNat (by omega)).1 hy2
      rwa [show (y.toNat:Int)=y by omega] at this
   ·have hc2:(done.set nx.toNat true).count false+1=done.count false:=by
     have e2:done=done.take nx.toNat++false::done.drop (nx.toNat+1):=by
      conv=>lhs; rw [<-List.take_append_drop nx.toNat done,get!_drop hnd,g1]
     have e3:done.set nx.toNat true=done.take nx.toNat++true::done.drop (nx.toNat+1):=by
      rw [List.set_eq_take_append_cons_drop,if_pos hnd]
     rw [e3]
     conv=>rhs; rw [e2]
     simp
     omega
    omega
theorem a77 {ins:List (List Int)} (hr:∀ r∈ins,r.length < 2 ^ 61) {out:List Int} (h:a80 ins= .ok out) :
  out.Nodup/\(∀ x,x < ins.length->(x:Int)∈out)/\(∀ x∈out,0<=x/\x < (ins.length:Int))/\(∀ p,p < out.length->∀ y∈ins[(out[p]!).toNat]!,y∈out.take p)/\inB ins.length ins:=by
 have h2:=(b18 hr).2 out h
 unfold c3c at h2
 cases hb:c6h ins.length ins 0 with
 | some k=>rw [hb] at h2; simp at h2
 | none=>
  rw [hb] at h2
  simp only at h2
  have hin:=b4z hb
  cases hl:a95 ins ins.length (List.replicate ins.length false) [] with
  | error f=>rw [hl] at h2; simp at h2
  | ok out2=>
   rw [hl] at h2
   simp only [Prod.mk.injEq,and_true] at h2
   subst h2
   obtain ⟨a,b,c,d⟩:=b1a hin ins.length (done:=List.replicate ins.length false) (out:=[]) ⟨by simp,by simp,fun x hx=>by rw [get!_rep hx]; simp,fun x hx=>by simp at hx,fun p hp=>by simp at hp⟩ (by simp) hl
   exact ⟨a,b,c,d,hin⟩
theorem c0t {ins:List (List Int)}:∀ (f:Nat) {done:List Bool} {out res:List Int},a95 ins f done out= .ok res->res.length=out.length+f
 | 0,done,out,res,h=>by
  simp only [a95,Except.ok.injEq] at h
  rw [h]; rfl
 | f+1,done,out,res,h=>by
  rw [a95] at h
  split at h
  ·cases h
  ·have:=c0t f h
   simp only [List.length_append,List.length_cons,List.length_nil] at this
   omega
theorem c0p {ins:List (List Int)} (hr:∀ r∈ins,r.length < 2 ^ 61) {out:List Int} (h:a80 ins= .ok out):out.length=ins.length:=by
 have h2:=(b18 hr).2 out h
 unfold c3c at h2
 cases hb:c6h ins.length ins 0 with
 | some k=>rw [hb] at h2; simp at h2
 | none=>
  rw [hb] at h2
  simp only at h2
  cases hl:a95 ins ins.length (List.replicate ins.length false) [] with
  | error f=>rw [hl] at h2; simp at h2
  | ok out2=>
   rw [hl] at h2
   simp only [Prod.mk.injEq,and_true] at h2
   subst h2
   have:=c0t _ hl
   simpa using this
section
variable {G:GG} {bk:Nat->Nat×Nat} {Q:Exit->St->Prop} {st:St}
theorem d4j {l:List (List Int)} {m:Nat} (h:∀ r∈l,r.length<=m):tot l<=m*l.length:=by
 induction l with
 | nil=>simp [tot]
 | cons r l ih=>
  have h1:=h r (by simp)
  have h2:=ih fun x hx=>h x (by simp [hx])
  simp only [tot,List.map_cons,List.sum_cons,List.length_cons] at h2 ⊢
  rw [Nat.mul_add,Nat.mul_one]
  omega
end
def b1i:IC:=(.seq (.reg [oo 1 (.box 39 2 (.t 0)),
 oo 2 (.alloc 39 [.own 1 0 [],.lit (.bool false)])]) (.seq (.draw [oo 3 (.faddr 39 0 (.t 1) 0),
 oo 4 (.load 34 none (.t 3)),
 oc 5 28 [(false,(.t 4))] [34],
 oo 6 (.faddr 39 1 (.t 1) 1),
 oo 7 (.load 4 none (.t 6)),
 oo 8 (.build 39 [.own 1 0 [],.lit (.bool false)] [(0,0,1,(.t 5)),(1,1,1,(.t 7))]),
 ov (.store 39 2 (.t 2) (.t 8))] [[],[0],[1],[],[3],[2,4],[5,2,0,1,2,3,4,5]]) .ret))
abbrev b69:Nat:=26
theorem b29:fnC pg 26 9 [(.cells 2 2)] b1i:=a05 Go.Proofs.Tryd.f26 [(.cell 2 39)] (by kernel_rfl)
@[go_sem] theorem c9o:fnB pg 26=true:=by kernel_rfl
def b2y:IC:=(.seq (.reg [oo 1 (.box 44 3 (.t 0)),
 oo 2 (.alloc 44 [.own 1 0 [],.lit (.bool false),.own 1 0 []])]) (.seq (.draw [oo 3 (.faddr 44 0 (.t 1) 0),
 oo 4 (.load 39 (some 2) (.t 3)),
 oc 5 26 [(false,(.t 4))] [39],
 oo 6 (.faddr 44 2 (.t 1) 1),
 oo 7 (.load 34 none (.t 6)),
 oc 8 28 [(false,(.t 7))] [34],
 oo 9 (.build 44 [.own 1 0 [],.lit (.bool false),.own 1 0 []] [(0,0,2,(.t 5)),(1,2,1,(.t 8))]),
 ov (.store 44 3 (.t 2) (.t 9))] [[],[0],[1],[],[3],[4,2],[2,5],[6,5,0,1,2,3,4,5,6]]) .ret))
abbrev b9a:Nat:=27
theorem b5c:fnC pg 27 10 [(.cells 2 3)] b2y:=a05 Go.Proofs.Tryd.f27 [(.cell 2 44)] (by kernel_rfl)
@[go_sem] theorem d0t:fnB pg 27=true:=by kernel_rfl
def a6o:IC:=(.seq (.reg [oo 2 (.asg (.nl 1))]) (.seq (.seq (.reg [om 3 0,
 ⟨(some 4),.nilq 34 (.t 3) 34,none⟩]) (.cond (.t 4) (.seq (.reg [oo 2 (.asg (.nl 1))]) .ret) .skip)) (.seq (.reg [oo 5 (.bslice 34 3 1 0 [.lit (.int .i64 0)] []),
 om 6 0,
 oo 7 (.app 34 3 1 8 (.t 5) (.t 6)),
 oo 2 (.asg (.t 7))]) .ret)))
abbrev b0d:Nat:=28
theorem a87:fnC pg 28 8 [(.tmp 2)] a6o:=a05 Go.Proofs.Tryd.f28 [(.tmp 2)] (by kernel_rfl)
@[go_sem] theorem c1e:fnB pg 28=true:=by kernel_rfl
def a86:IC:=(.seq (.reg [oo 2 (.box 39 2 (.t 0)),
 oo 3 (.box 39 2 (.t 1)),
 oo 4 (.asg (.c (.bool false)))]) (.seq (.reg [oo 5 (.faddr 39 1 (.t 2) 1),
 oo 6 (.load 4 none (.t 5)),
 oo 7 (.faddr 39 1 (.t 3) 1),
 oo 8 (.load 4 none (.t 7)),
 oo 9 (.bin .eql 4 1 (.t 6) (.t 8) 4),
 om 10 9,
 og 11 (.faddr 39 0 (.t 2) 0) 5 10 true,
 og 12 (.load 34 none (.t 11)) 5 10 true,
 og 13 (.faddr 39 0 (.t 3) 0) 5 10 true,
 og 14 (.load 34 none (.t 13)) 5 10 true,
 ⟨(some 15),.call 58 [(false,(.t 12)),(false,(.t 14))] [34,34],(some (5,10,true))⟩,
 oo 16 (.pick (.t 10) (.t 15) (.c (.bool false))),
 oo 4 (.asg (.t 16))]) .ret))
abbrev b88:Nat:=30
theorem b47:fnC pg 30 17 [(.tmp 4)] a86:=a05 Go.Proofs.Tryd.f30 [(.tmp 4)] (by kernel_rfl)
@[go_sem] theorem d0q:fnB pg 30=true:=by kernel_rfl
def a30:IC:=(.seq (.reg [oo 14 (.bin .lss 3 0 (.t 13) (.t 12) 3)]) (.seq (.cond (.t 14) .skip (.exit 0)) (.seq (.block 1 (.seq (.reg [om 15 13,
 oo 5 (.asg (.t 15))]) (.seq (.draw [om 16 0,
 om 17 5,
 oo 18 (.iaddr 34 1 (.t 16) (.t 17)),
 oo 19 (.load 3 none (.t 18)),
 om 20 1,
 om 21 5,
 oo 22 (.iaddr 34 1 (.t 20) (.t 21)),
 oo 23 (.load 3 none (.t 22)),
 oo 24 (.bin .neq 3 0 (.t 19) (.t 23) 3)] [[],[],[0,1],[2],[],[],[4,5],[6],[3,7]]) (.cond (.t 24) (.seq (.reg [oo 4 (.asg (.c (.bool false)))]) .ret) .skip)))) (.reg [oo 25 (.bin .add 3 0 (.t 13) (.n 1) 3),
 om 13 25]))))
def a4j:IC:=(.seq (.reg [oo 4 (.asg (.c (.bool false)))]) (.seq (.seq (.reg [om 6 0,
 oo 7 (.len 34 false (.t 6)),
 om 8 1,
 oo 9 (.len 34 false (.t 8)),
 oo 10 (.bin .neq 3 0 (.t 7) (.t 9) 3)]) (.cond (.t 10) (.seq (.reg [oo 4 (.asg (.c (.bool false)))]) .ret) .skip)) (.seq (.seq (.reg [om 11 0,
 oo 12 (.len 34 false (.t 11)),
 oo 13 (.mv (.n 0))]) (.block 0 (.loop a30))) (.seq (.reg [oo 4 (.asg (.c (.bool true)))]) .ret))))
abbrev b0e:Nat:=58
theorem a88:fnC pg 58 26 [(.tmp 4)] a4j:=a05 Go.Proofs.Tryd.f58 [(.tmp 4)] (by kernel_rfl)
@[go_sem] theorem c1f:fnB pg 58=true:=by kernel_rfl
structure Ds where
 shape:List Int
 wide:Bool
 deriving DecidableEq
structure Tn where
 shape:List Int
 wide:Bool
 data:List Int
 deriving DecidableEq
structure Vw where
 off:Int
 shape:List Int
 wide:Bool
 deriving DecidableEq
structure In where
 op:Int
 dst:Int
 ins:List Int
 args:List Int
 frm:Int
 to:Int
 deriving DecidableEq
structure Pl where
 size:Int
 views:List Vw
 consts:List Tn
 weights:List Ds
 code:List In
 input:Int
 output:Int
 deriving DecidableEq
def eD (d:Ds):List AV:=[slI d.shape,lb d.wide]
def eT (d:Tn):List AV:=[slI d.shape,lb d.wide,slI d.data]
def eV (d:Vw):List AV:=[li d.off,slI d.shape,lb d.wide]
def eI (d:In):List AV:=[li d.op,li d.dst,slI d.ins,slI d.args,li d.frm,li d.to]
def oD (d:Ds):List AV:=[owI d.shape,lb d.wide]
def oT (d:Tn):List AV:=[owI d.shape,lb d.wide,owI d.data]
def oV (d:Vw):List AV:=[li d.off,owI d.shape,lb d.wide]
def oI (d:In):List AV:=[li d.op,li d.dst,owI d.ins,owI d.args,li d.frm,li d.to]
@[go_sem] theorem g1s {xs:List Ds}:(fm eD xs).length=xs.length*2:=a6i fun _=>rfl
@[go_sem] theorem g1r {xs:List Ds} {i:Nat} (h:i < xs.length):((fm eD xs).drop (i*2)).take 2=[slI xs[i].shape,lb xs[i].wide]:=b0z (f:=eD) (k:=2) (fun _=>rfl) h
@[go_sem] theorem f4x {xs:List Ds}:(fm eD xs).take (xs.length*2)=fm eD xs:=a38 fun _=>rfl
@[go_sem] theorem e96 {xs:List Ds}:a0m (fm eD xs)=true:=a7w fun _=>rfl
@[go_sem] theorem g1q {xs:List Ds}:a1k (fm eD xs)=fm eD xs:=by
 rw [a69]; congr 1
@[go_sem] theorem g3l {xs:List Ds}:(fm oD xs).length=xs.length*2:=a6i fun _=>rfl
@[go_sem] theorem f8i {xs:List Ds}:(fm oD xs).take (xs.length*2)=fm oD xs:=a38 fun _=>rfl
@[go_sem] theorem g3k {xs:List Ds}:a1k (fm oD xs)=fm eD xs:=by
 rw [a69]
 congr 1
 funext n
 simp [oD,eD,go_sem]
@[go_sem] theorem f2f {xs:List Ds}:a0z (fm oD xs)=true:=a7v fun n=>by simp [oD,go_sem]
@[go_sem] theorem g10 {xs:List Tn}:(fm eT xs).length=xs.length*3:=a6i fun _=>rfl
@[go_sem] theorem g1z {xs:List Tn} {i:Nat} (h:i < xs.length):((fm eT xs).drop (i*3)).take 3=[slI xs[i].shape,lb xs[i].wide,slI xs[i].data]:=b0z (f:=eT) (k:=3) (fun _=>rfl) h
@[go_sem] theorem f5a {xs:List Tn}:(fm eT xs).take (xs.length*3)=fm eT xs:=a38 fun _=>rfl
@[go_sem] theorem f0d {xs:List Tn}:a0m (fm eT xs)=true:=a7w fun _=>rfl
@[go_sem] theorem g1y {xs:List Tn}:a1k (fm eT xs)=fm eT xs:=by
 rw [a69]; congr 1
@[go_sem] theorem g3p {xs:List Tn}:(fm oT xs).length=xs.length*3:=a6i fun _=>rfl
@[go_sem] theorem f8m {xs:List Tn}:(fm oT xs).take (xs.length*3)=fm oT xs:=a38 fun _=>rfl
@[go_sem] theorem g3o {xs:List Tn}:a1k (fm oT xs)=fm eT xs:=by
 rw [a69]
 congr 1
 funext n
 simp [oT,eT,go_sem]
@[go_sem] theorem f2i {xs:List Tn}:a0z (fm oT xs)=true:=a7v fun n=>by simp [oT,go_sem]
@[go_sem] theorem g12 {xs:List Vw}:(fm eV xs).length=xs.length*3:=a6i fun _=>rfl
@[go_sem] theorem e3a {xs:List Vw} {i:Nat} (h:i < xs.length):((fm eV xs).drop (i*3)).take 3=[li xs[i].off,slI xs[i].shape,lb xs[i].wide]:=b0z (f:=eV) (k:=3) (fun _=>rfl) h
@[go_sem] theorem f5c {xs:List Vw}:(fm eV xs).take (xs.length*3)=fm eV xs:=a38 fun _=>rfl
@[go_sem] theorem f0e {xs:List Vw}:a0m (fm eV xs)=true:=a7w fun _=>rfl
@[go_sem] theorem g11 {xs:List Vw}:a1k (fm eV xs)=fm eV xs:=by
 rw [a69]; congr 1
@[go_sem] theorem g3r {xs:List Vw}:(fm oV xs).length=xs.length*3:=a6i fun _=>rfl
@[go_sem] theorem f8n {xs:List Vw}:(fm oV xs).take (xs.length*3)=fm oV xs:=a38 fun _=>rfl
@[go_sem] theorem g3q {xs:List Vw}:a1k (fm oV xs)=fm eV xs:=by
 rw [a69]
 congr 1
 funext n
 simp [oV,eV,go_sem]
@[go_sem] theorem f2j {xs:List Vw}:a0z (fm oV xs)=true:=a7v fun n=>by simp [oV,go_sem]
@[go_sem] theorem g1v {xs:List In}:(fm eI xs).length=xs.length*6:=a6i fun _=>rfl
@[go_sem] theorem g1u {xs:List In} {i:Nat} (h:i < xs.length):((fm eI xs).drop (i*6)).take 6=[li xs[i].op,li xs[i].dst,slI xs[i].ins,slI xs[i].args,li xs[i].frm,li xs[i].to]:=b0z (f:=eI) (k:=6) (fun _=>rfl) h
@[go_sem] theorem f4y {xs:List In}:(fm eI xs).take (xs.length*6)=fm eI xs:=a38 fun _=>rfl
@[go_sem] theorem e97 {xs:List In}:a0m (fm eI xs)=true:=a7w fun _=>rfl
@[go_sem] theorem g1t {xs:List In}:a1k (fm eI xs)=fm eI xs:=by
 rw [a69]; congr 1
@[go_sem] theorem g3n {xs:List In}:(fm oI xs).length=xs.length*6:=a6i fun _=>rfl
@[go_sem] theorem f8j {xs:List In}:(fm oI xs).take (xs.length*6)=fm oI xs:=a38 fun _=>rfl
@[go_sem] theorem g3m {xs:List In}:a1k (fm oI xs)=fm eI xs:=by
 rw [a69]
 congr 1
 funext n
 simp [oI,eI,go_sem]
@[go_sem] theorem f2g {xs:List In}:a0z (fm oI xs)=true:=a7v fun n=>by simp [oI,go_sem]
abbrev slD (xs:List Ds):AV:= .sl xs.length (fm eD xs)
abbrev slT (xs:List Tn):AV:= .sl xs.length (fm eT xs)
abbrev slV (xs:List Vw):AV:= .sl xs.length (fm eV xs)
abbrev slJ (xs:List In):AV:= .sl xs.length (fm eI xs)
abbrev owD (xs:List Ds):AV:= .own 2 xs.length (fm oD xs)
abbrev owT (xs:List Tn):AV:= .own 3 xs.length (fm oT xs)
abbrev owV (xs:List Vw):AV:= .own 3 xs.length (fm oV xs)
def eP (p:Pl):List AV:=[li p.size,slV p.views,slT p.consts,slD p.weights,slJ p.code,li p.input,li p.output]
section
variable {G:GG} {bk:Nat->Nat×Nat} {Q:Exit->St->Prop} {st:St}
theorem a8p (xs:List Int) (h:xs.length < 2 ^ 40):ACalls pg G b0d [slI xs] (owI xs):=by
 refine a87 rfl ?_
 simp (disch:=omega) [go_sem,a6o]
 refine f8h fun b hb=> ?_
 cases b with
 | true=>
  have:xs=[]:=by simpa using hb rfl
  subst this
  simp (disch:=omega) [go_sem]
 | false=>simp (disch:=omega) [go_sem]
theorem a2b (sh:List Int) (w:Bool) (hlen:sh.length < 2 ^ 40):ACalls pg G b69 [.agg [slI sh,lb w]] (.agg [owI sh,lb w]):=by
 refine b29 rfl ?_
 simp (disch:=omega) [go_sem,b1i]
 refine a0b ?_
 simp (disch:=omega) [go_sem]
 refine a0w (a8p sh hlen) rfl (b06 _) (by simp) [5] (by simp) (by simp (disch:=omega) [go_sem]) ?_
 simp (disch:=omega) [go_sem]
 refine a0c (by decide) fun s2 hs he=> ?_
 simp (disch:=omega) [go_sem,hs]
theorem d06 (sh:List Int) (w:Bool) (data:List Int) (hlen:sh.length < 2 ^ 40) (hl:data.length < 2 ^ 40):ACalls pg G b9a [g4g sh w data] (.agg [owI sh,lb w,owI data]):=by
 refine b5c rfl ?_
 simp (disch:=omega) [go_sem,b2y]
 refine a0b ?_
 simp (disch:=omega) [go_sem]
 refine a0w (a2b sh w hlen) rfl (by simp [a0y,a0z,a1i]) (by simp) [5] (by simp) (by simp (disch:=omega) [go_sem]) ?_
 simp (disch:=omega) [go_sem]
 refine a0w (a8p data hl) rfl (b06 _) (by simp) [8] (by simp) (by simp (disch:=omega) [go_sem]) ?_
 simp (disch:=omega) [go_sem]
 refine a0c (by decide) fun s2 hs he=> ?_
 simp (disch:=omega) [go_sem,hs]
end
end Go.Ideal.Tryd
end
