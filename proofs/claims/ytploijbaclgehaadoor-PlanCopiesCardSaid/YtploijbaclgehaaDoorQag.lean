/- Part Qag of the proof: walks on a machine that is proved sound. -/
import Derived.Test.YtploijbaclgehaaDoorQaf
import Derived.Test.YtploijbaclgehaaDoorProg
import Derived.Carry
import Derived.ChangeSame
import Derived.ChangeVars
import Derived.JoinedOf
import Derived.RowKit
import Derived.RowKitTokens
import Derived.LaidLaws
import Derived.LaidHandle
import Derived.Stop.Joined
import Derived.Handed
import Derived.SevenTiedAt
import Derived.Test.YtploijbaclgehaaDoorRows
import Derived.MakeChecks
set_option linter.unusedVariables false
set_option linter.unusedSimpArgs false
set_option maxRecDepth 10000
section
namespace Go.Ideal
section
variable {P:Program} {G:GG} {N:Nat} {st:St} {K:St->Prop} {T:List (Nat×AV)} {u:Nat}
def cvK (N d:Nat) (o:Option (St×Nat×Nat×List AV)):Option St:=match o with
 | some r=>gO (r.2.1=1/\0 < r.2.2.1) (some ((r.1.put N (.own r.2.1 r.2.2.1 r.2.2.2)).thru N d (.own r.2.1 r.2.2.1 r.2.2.2)))
 | none=>none
@[congr] theorem d1c {d:Nat} {o o':Option (St×Nat×Nat×List AV)} (h:o=o'):cvK N d o=cvK N d o':=by rw [h]
@[go_sem] theorem d74 {d sz n:Nat} {ks:List AV}:cvK N d (some (st,sz,n,ks))=gO (sz=1/\0 < n) (some ((st.put N (.own sz n ks)).thru N d (.own sz n ks))):=(rfl)
@[go_sem] theorem d1z {d:Nat} {s t:TypeId} {x:X}:evS G N (some d) (.conv s t .keep x) st=cvK N d (tkS st N x (rdv st x)):=by
 simp only [evS,a0w,Ev.run_bind,b5b,Option.bind]
 cases tkS st N x (rdv st x) with
 | none=>rfl
 | some r=>
  simp only [Option.map,a07,St.put_s,if_true,a0d,Ev.run_bind,Option.bind,cvK,gO]
  by_cases h1:r.2.1=1
  ·by_cases h2:0 < r.2.2.1
   ·simp only [h1,h2,beq_self_eq_true,decide_true,Bool.and_self,if_true,and_self,a50]
   ·simp only [h1,h2,beq_self_eq_true,decide_false,Bool.and_false,Bool.false_eq_true,if_false,and_false]
  ·have:(r.2.1==1)=false:=by simpa using h1
   simp only [this,Bool.false_and,Bool.false_eq_true,if_false,h1,false_and]
def lkB {α:Type} (b:Bool) (v:α) (o:Option α):Option α:=if b then some v else o
@[congr] theorem d3l {α:Type} {b b':Bool} {v:α} {o:Option α} (h:b=b'):lkB b v o=lkB b' v o:=by rw [h]
@[go_sem] theorem f2p {α:Type} {v:α} {o:Option α}:lkB true v o=some v:=(rfl)
@[go_sem] theorem f2o {α:Type} {v:α} {o:Option α}:lkB false v o=o:=(rfl)
@[go_sem] theorem d9s {α:Type} {a b:Nat} {v:α} {T:List (Nat×α)}:List.lookup a ((b,v)::T)=lkB (a==b) v (List.lookup a T):=by
 simp only [List.lookup_cons,lkB]
 cases a==b<;>rfl
def c5k (b:Bool) (o:Option AV) (T:List (Nat×AV)) (v:AV):AV:=if b then (match o with
 | some av=>av
 | none=>a0x (a63 T) v) else .dead
@[congr] theorem c8g {b b':Bool} {o o':Option AV} {v:AV} (h:b=b') (h2:o=o'):c5k b o T v=c5k b' o' T v:=by rw [h,h2]
@[go_sem] theorem f0i {o:Option AV} {v:AV}:c5k false o T v= .dead:=(rfl)
@[go_sem] theorem f0k {av v:AV}:c5k true (some av) T v=av:=(rfl)
@[go_sem] theorem f0j {v:AV}:c5k true none T v=a0x (a63 T) v:=(rfl)
@[go_sem] theorem e49:(st.lentS N T).s u=c5k (decide (u < N)) (T.lookup u) T (st.s u):=by
 simp only [St.lentS,c5k,decide_eq_true_eq]
 cases T.lookup u<;>rfl
@[go_sem] theorem d9j:(st.lentS N T).ep u=st.ep u:=(rfl)
def b3e (o:Option AV):Bool:=match o with
 | some (.var ks)=> !a0j ks
 | some (.own _ _ ks)=> !a0j ks
 | _=>false
@[congr] theorem c5l {o o':Option AV} (h:o=o'):b3e o=b3e o':=by rw [h]
@[go_sem] theorem e46:b3e none=false:=(rfl)
@[go_sem] theorem e48 {ks:List AV}:b3e (some (.var ks))= !a0j ks:=(rfl)
@[go_sem] theorem e47 {sz n:Nat} {ks:List AV}:b3e (some (.own sz n ks))= !a0j ks:=(rfl)
theorem b2f {t i:Nat} {q:List Nat}:a63 T t (i::q)=b3e (T.lookup t):=by
 simp only [a63,b3e]
 cases T.lookup t with
 | none=>rfl
 | some av=>cases av<;>rfl
def c3u (b:Bool) (v:AV):AV:=if b then .dead else v
@[congr] theorem c76 {b b':Bool} {v:AV} (h:b=b'):c3u b v=c3u b' v:=by rw [h]
@[go_sem] theorem f0d {v:AV}:c3u true v= .dead:=(rfl)
@[go_sem] theorem f0c {v:AV}:c3u false v=v:=(rfl)
@[go_sem] theorem c8b {t o e:Nat}:a0x (a63 T) (.ref t [] o e)= .ref t [] o e:=by simp [a0x,a63]
@[go_sem] theorem c8c {t i o e:Nat} {q:List Nat}:a0x (a63 T) (.ref t (i::q) o e)=c3u (b3e (T.lookup t)) (.ref t (i::q) o e):=by simp only [a0x,b2f,c3u]
@[go_sem] theorem c77 {t lo n e:Nat}:a0x (a63 T) (.bor t [] lo n e)= .bor t [] lo n e:=by simp [a0x,a63]
@[go_sem] theorem c78 {t i lo n e:Nat} {q:List Nat}:a0x (a63 T) (.bor t (i::q) lo n e)=c3u (b3e (T.lookup t)) (.bor t (i::q) lo n e):=by simp only [a0x,b2f,c3u]
def b3l (b:Bool) (o:Option (List AV×List (Nat×Nat))):Option (List AV×List (Nat×Nat)):=if b then o else none
@[congr] theorem c8v {b b':Bool} {o:Option (List AV×List (Nat×Nat))} (h:b=b'):b3l b o=b3l b' o:=by rw [h]
@[go_sem] theorem f01 {o:Option (List AV×List (Nat×Nat))}:b3l true o=o:=(rfl)
section
variable {st1:St} {acc:List AV} {L:List (Nat×Nat)} {es:List (Option Nat×AV)}
def pxV (N:Nat) (st1 st:St) (acc:List AV) (L:List (Nat×Nat)) (t:Nat) (v v1:AV) (es:List (Option Nat×AV)):Option (List AV×List (Nat×Nat)):=match v,v1 with
 | .var (k::ks),.var (_::_)=>pX N st1 st (acc++[.var (k::ks)]) (L++[(t,acc.length)]) es
 | _,_=>none
def pxR (N:Nat) (st1 st:St) (acc:List AV) (L:List (Nat×Nat)) (t e:Nat) (o:Option Nat) (es:List (Option Nat×AV)):Option (List AV×List (Nat×Nat)):=match o with
 | some j=>b3l (decide (e=st.ep t)) (pX N st1 st (acc++[.ref j [] 0 0]) L es)
 | none=>b3l (decide (e=st.ep t)&&decide (t < N)) (pxV N st1 st acc L t (st.s t) (st1.s t) es)
def pxT (N:Nat) (st1 st:St) (acc:List AV) (L:List (Nat×Nat)) (o:Option AV) (es:List (Option Nat×AV)):Option (List AV×List (Nat×Nat)):=match o with
 | some p=>pX N st1 st (acc++[p]) L es
 | none=>none
@[congr] theorem d5p {t:Nat} {v v' v1 v1':AV} (h:v=v') (h1:v1=v1'):pxV N st1 st acc L t v v1 es=pxV N st1 st acc L t v' v1' es:=by rw [h,h1]
@[congr] theorem d5n {t e:Nat} {o o':Option Nat} (h:o=o'):pxR N st1 st acc L t e o es=pxR N st1 st acc L t e o' es:=by rw [h]
@[congr] theorem d5o {o o':Option AV} (h:o=o'):pxT N st1 st acc L o es=pxT N st1 st acc L o' es:=by rw [h]
@[congr] theorem e0k {acc':List AV} {L':List (Nat×Nat)} {es':List (Option Nat×AV)} (h1:acc=acc') (h2:L=L') (h3:es=es'):pX N st1 st acc L es=pX N st1 st acc' L' es':=by rw [h1,h2,h3]
@[go_sem] theorem e6u {t:Nat} {k k1:AV} {ks ks1:List AV}:pxV N st1 st acc L t (.var (k::ks)) (.var (k1::ks1)) es=pX N st1 st (acc++[.var (k::ks)]) (L++[(t,acc.length)]) es:=(rfl)
@[go_sem] theorem f20 {t e j:Nat}:pxR N st1 st acc L t e (some j) es=b3l (decide (e=st.ep t)) (pX N st1 st (acc++[.ref j [] 0 0]) L es):=(rfl)
@[go_sem] theorem f2z {t e:Nat}:pxR N st1 st acc L t e none es=b3l (decide (e=st.ep t)&&decide (t < N)) (pxV N st1 st acc L t (st.s t) (st1.s t) es):=(rfl)
@[go_sem] theorem f21 {p:AV}:pxT N st1 st acc L (some p) es=pX N st1 st (acc++[p]) L es:=(rfl)
@[go_sem] theorem f06:pX N st1 st acc L []=some (acc,L):=(rfl)
@[go_sem] theorem f4b {k:Nat} {av:AV}:pX N st1 st acc L ((some k,av)::es)=b3l (noRef av) (pX N st1 st (acc++[av]) L es):=by
 simp only [pX,b3l]
@[go_sem] theorem f07 {t e:Nat}:pX N st1 st acc L ((none,.ref t [] 0 e)::es)=pxR N st1 st acc L t e (L.lookup t) es:=by
 simp only [pX,pxR,b3l,pxV,decide_eq_true_eq,Bool.and_eq_true]
 cases L.lookup t<;>rfl
@[go_sem] theorem d33 {t e sz n:Nat} {ks:List AV}:b8v t e (.own sz n ks)= .bor t [] 0 n e:=(rfl)
@[go_sem] theorem d34 {t e:Nat} {ks:List AV}:b8v t e (.var ks)= .ref t [] 0 e:=(rfl)
def pxO (N:Nat) (st1 st:St) (acc:List AV) (L:List (Nat×Nat)) (t n:Nat) (v v1:AV) (es:List (Option Nat×AV)):Option (List AV×List (Nat×Nat)):=match v,v1 with
 | .own sz n0 ks,.own sz1 n1 _=>b3l (decide (n=n0)&&(decide (sz1=sz)&&decide (n1=n0))) (pX N st1 st (acc++[.own sz n0 ks]) (L++[(t,acc.length)]) es)
 | _,_=>none
def pxB (N:Nat) (st1 st:St) (acc:List AV) (L:List (Nat×Nat)) (t n e:Nat) (o:Option Nat) (es:List (Option Nat×AV)):Option (List AV×List (Nat×Nat)):=match o with
 | some _=>none
 | none=>b3l (decide (e=st.ep t)&&decide (t < N)) (pxO N st1 st acc L t n (st.s t) (st1.s t) es)
@[congr] theorem d5m {t n n':Nat} {v v' v1 v1':AV} (hn:n=n') (h:v=v') (h1:v1=v1'):pxO N st1 st acc L t n v v1 es=pxO N st1 st acc L t n' v' v1' es:=by rw [hn,h,h1]
@[congr] theorem d5l {t n e:Nat} {o o':Option Nat} (h:o=o'):pxB N st1 st acc L t n e o es=pxB N st1 st acc L t n e o' es:=by rw [h]
@[go_sem] theorem e6t {t n sz n0 sz1 n1:Nat} {ks ks1:List AV}:pxO N st1 st acc L t n (.own sz n0 ks) (.own sz1 n1 ks1) es=b3l (decide (n=n0)&&(decide (sz1=sz)&&decide (n1=n0))) (pX N st1 st (acc++[.own sz n0 ks]) (L++[(t,acc.length)]) es):=(rfl)
@[go_sem] theorem f2y {t n e:Nat}:pxB N st1 st acc L t n e none es=b3l (decide (e=st.ep t)&&decide (t < N)) (pxO N st1 st acc L t n (st.s t) (st1.s t) es):=(rfl)
@[go_sem] theorem f03 {t n e:Nat}:pX N st1 st acc L ((none,.bor t [] 0 n e)::es)=pxB N st1 st acc L t n e (L.lookup t) es:=by
 simp only [pX,pxB,b3l,pxO,decide_eq_true_eq,Bool.and_eq_true]
 cases L.lookup t<;>rfl
@[go_sem] theorem f05 {v:Value}:pX N st1 st acc L ((none,.lit v)::es)=pX N st1 st (acc++[.lit v]) L es:=(rfl)
@[go_sem] theorem f2u {n:Nat} {ks:List AV}:pX N st1 st acc L ((none,.sl n ks)::es)=pX N st1 st (acc++[.sl n ks]) L es:=(rfl)
@[go_sem] theorem f2t {n:Nat} {ks:List AV}:pX N st1 st acc L ((none,.ip ks n)::es)=pX N st1 st (acc++[.ip ks n]) L es:=(rfl)
@[go_sem] theorem f02 {ks:List AV}:pX N st1 st acc L ((none,.agg ks)::es)=b3l (a0j ks) (pX N st1 st (acc++[.agg ks]) L es):=by
 simp only [pX,trA,a0i,b3l]
 by_cases h:a0j ks=true<;>simp [h]
@[go_sem] theorem f04 {t:TypeId} {k:AV}:pX N st1 st acc L ((none,.ifc t k)::es)=b3l (a0i k) (pX N st1 st (acc++[.ifc t k]) L es):=by
 simp only [pX,trA,a0i,b3l]
 by_cases h:a0i k=true<;>simp [h]
@[go_sem] theorem f2s {f:FuncId} {fs cs:List AV}:pX N st1 st acc L ((none,.fn f fs cs)::es)=pxT N st1 st acc L (trA st L (.fn f fs cs)) es:=(rfl)
def fn2 (f:FuncId) (a b:Option (List AV)):Option AV:=match a,b with
 | some a,some b=>some (.fn f a b)
 | _,_=>none
@[go_sem] theorem f2i {f:FuncId} {a b:List AV}:fn2 f (some a) (some b)=some (.fn f a b):=(rfl)
@[go_sem] theorem f1p {f:FuncId} {fs cs:List AV}:trA st L (.fn f fs cs)=fn2 f (trL st L fs) (trL st L cs):=by
 simp only [trA,fn2]
 cases trL st L fs<;>cases trL st L cs<;>rfl
@[go_sem] theorem e7x:trL st L []=some []:=by simp only [trL]
@[go_sem] theorem e1u {k:AV} {ks:List AV}:trL st L (k::ks)=avs (trA st L k) (trL st L ks):=by
 simp only [trL,avs]
 cases trA st L k<;>cases trL st L ks<;>rfl
@[go_sem] theorem e7v {v:Value}:trA st L (.lit v)=some (.lit v):=by simp only [trA,a0i,if_true]
@[go_sem] theorem f1r {n:Nat} {ks:List AV}:trA st L (.sl n ks)=some (.sl n ks):=by simp only [trA,a0i,if_true]
@[go_sem] theorem f1q {n:Nat} {ks:List AV}:trA st L (.ip ks n)=some (.ip ks n):=by simp only [trA,a0i,if_true]
def d62 (b:Bool) (l:Option Nat) (o:Nat):Option AV:=if b then l.map fun i=> .ref i [] o 0 else none
@[congr] theorem c90 {b b':Bool} {l l':Option Nat} {o:Nat} (h:b=b') (h2:l=l'):d62 b l o=d62 b' l' o:=by rw [h,h2]
@[go_sem] theorem f1s {i o:Nat}:d62 true (some i) o=some (.ref i [] o 0):=(rfl)
@[go_sem] theorem e7w {t o e:Nat}:trA st L (.ref t [] o e)=d62 (decide (e=st.ep t)) (L.lookup t) o:=by simp [trA,d62]
@[go_sem] theorem f4f {t:Nat}:xv st (.t t)=st.s t:=(rfl)
@[go_sem] theorem f4c {v:Value}:xv st (.c v)= .lit v:=(rfl)
@[go_sem] theorem f4d {n:Nat}:xv st (.f n)= .fn n [] []:=(rfl)
@[go_sem] theorem f4e {n:Nat}:xv st (.g n)= .lit (.pointer (some ⟨n,0,none⟩)):=(rfl)
@[go_sem] theorem e25 {fs cs:List AV} {lay:List CS}:b26 N st fs lay cs=fs.map (fun a=>(none,a))++(lay.map (b7n N st)++cs.map (fun a=>(none,a))):=(rfl)
@[go_sem] theorem e8o {k:Nat}:b7n N st (.p k)=(some k,st.s (N+2+k)):=(rfl)
@[go_sem] theorem e8n {t:Nat}:b7n N st (.l t)=(none,b8v t (st.ep t) (st.s t)):=(rfl)
@[go_sem] theorem e8p {y:X}:b7n N st (.x y)=(none,xv st y):=(rfl)
end
def d2d (st:St) (N:Nat) (T:List (Nat×AV)) (d:Option Nat) (res:AV):St:=match d with
 | some d=>(st.lentS N T).thru N d res
 | none=>st.lentS N T
@[go_sem] theorem d2f {d:Nat} {res:AV}:d2d st N T (some d) res=(st.lentS N T).thru N d res:=(rfl)
@[go_sem] theorem d2e {res:AV}:d2d st N T none res=st.lentS N T:=(rfl)
def b6l:AV->Bool
 | .var _=>true
 | _=>false
def c3f (pre:List AV) (posts:List (Nat×AV)):Prop:=∀ i av,(i,av)∈posts->∃ p,pre[i]? =some p/\b9g p av
def c0b:Option AV->Bool
 | some v=>b6l v
 | none=>false
def c1d (pre:List AV) (p:Nat×AV):Bool:=b6l p.2&&c0b pre[p.1]?
@[go_sem] theorem d27 {ks:List AV}:b6l (.var ks)=true:=(rfl)
@[go_sem] theorem c5i {v:AV}:c0b (some v)=b6l v:=(rfl)
@[go_sem] theorem e1v {pre:List AV} {i:Nat} {v:AV}:c1d pre (i,v)=(b6l v&&c0b pre[i]?):=(rfl)
theorem b7v {v:AV} (h:b6l v=true):∃ ks,v= .var ks:=by cases v<;>simp [b6l] at h; exact ⟨_,rfl⟩
theorem c28 {pre:List AV} {p:Nat×AV} (h:c1d pre p=true):∃ ks ks0,p.2= .var ks/\pre[p.1]? =some (.var ks0):=by
 simp only [c1d,Bool.and_eq_true] at h
 obtain ⟨ks,h1⟩:=b7v h.1
 cases h2:pre[p.1]? with
 | none=>rw [h2] at h; cases h.2
 | some v=>
  rw [h2] at h
  obtain ⟨ks0,rfl⟩:=b7v h.2
  exact ⟨ks,ks0,h1,rfl⟩
theorem b50 {pre:List AV} {posts:List (Nat×AV)} (h:(posts.all fun p=>c1d pre p)=true):c3f pre posts:=fun i av hm=>by
 obtain ⟨ks,ks0,h1,h2⟩:=c28 (List.all_eq_true.1 h _ hm)
 simp only at h1 h2
 subst h1
 exact ⟨_,h2,trivial⟩
def clx (P:Program) (G:GG) (N:Nat) (d:Option Nat) (f:FuncId) (pre:List AV) (L:List (Nat×Nat)) (st1 st2:St) (K:St->Prop):Prop:=
 ∃ res posts,ACallsX P G f pre res posts/\noRef res=true/\posts.map (·.1)=L.map (·.2)/\c3f pre posts/\K (d2d (if a0v res&&posts.all fun p=>a0v p.2 then st1 else st2) N ((L.map (·.1)).zip (posts.map (·.2))) d res)
def c65 (P:Program) (G:GG) (N:Nat) (d:Option Nat) (f:FuncId) (st1 st2:St) (o:Option (List AV×List (Nat×Nat))) (K:St->Prop):Prop:=match o with
 | some x=>clx P G N d f x.1 x.2 st1 st2 K
 | none=>False
def c4t (P:Program) (G:GG) (N:Nat) (d:Option Nat) (v:AV) (lay:List CS) (st1 st2:St) (K:St->Prop):Prop:=match v with
 | .fn f fs cs=>fnB P f=true/\c65 P G N d f st1 st2 (pX N st1 st2 [] [] (b26 N st2 fs lay cs)) K
 | _=>False
def c1v (P:Program) (G:GG) (N:Nat) (d:Option Nat) (cv:X) (lay:List CS) (o1 o2:Option St) (K:St->Prop):Prop:=match o1,o2 with
 | some st1,some st2=>c4t P G N d (xv st2 cv) lay st1 st2 K
 | _,_=>False
def c4u (P:Program) (G:GG) (N:Nat) (d:Option Nat) (cv:X) (args:List (Bool×X)) (lay:List CS) (o1:Option St) (K:St->Prop):Prop:=c1v P G N d cv lay o1 (pss N (N+2) args o1) K
section
variable {d:Option Nat} {cv:X} {args:List (Bool×X)} {lay:List CS} {st1 st2:St} {f:FuncId}
@[congr] theorem c63 {o o':Option St} (h:o=o'):c4u P G N d cv args lay o K=c4u P G N d cv args lay o' K:=by rw [h]
@[congr] theorem c64 {o1 o o':Option St} (h:o=o'):c1v P G N d cv lay o1 o K=c1v P G N d cv lay o1 o' K:=by rw [h]
@[congr] theorem c62 {v v':AV} (h:v=v'):c4t P G N d v lay st1 st2 K=c4t P G N d v' lay st1 st2 K:=by rw [h]
@[congr] theorem c66 {o o':Option (List AV×List (Nat×Nat))} (h:o=o'):c65 P G N d f st1 st2 o K=c65 P G N d f st1 st2 o' K:=by rw [h]
@[congr] theorem d08 {pre pre':List AV} {L L':List (Nat×Nat)} (h:pre=pre') (h2:L=L'):clx P G N d f pre L st1 st2 K=clx P G N d f pre' L' st1 st2 K:=by rw [h,h2]
@[go_sem] theorem d05:c4u P G N d cv args lay (some st) K=c1v P G N d cv lay (some st) (pss N (N+2) args (some st)) K:=(rfl)
@[go_sem] theorem d06:c1v P G N d cv lay (some st1) (some st2) K=c4t P G N d (xv st2 cv) lay st1 st2 K:=(rfl)
@[go_sem] theorem e2n {fs cs:List AV}:c4t P G N d (.fn f fs cs) lay st1 st2 K=(fnB P f=true/\c65 P G N d f st1 st2 (pX N st1 st2 [] [] (b26 N st2 fs lay cs)) K):=(rfl)
@[go_sem] theorem d07 {pre:List AV} {L:List (Nat×Nat)}:c65 P G N d f st1 st2 (some (pre,L)) K=clx P G N d f pre L st1 st2 K:=(rfl)
@[go_sem] theorem c6i {tys:List TypeId} {rest:List AO}:a8e P G N (⟨d,.callx cv args lay tys,none⟩::rest) K st=c4u P G N d cv args lay (gvs N (N+2) args (some st)) (a8e P G N rest K):=by
 simp only [a8e,a74,b1o,b7l]
 rw [<-a5z]
 apply propext
 constructor
 ·rintro ⟨f,fs,cs,st1,st2,L,pre,res,posts,st3,h1,h2,h3,h4,h5,h6,h7,h8,h9,h10,h11⟩
  have e2:=a24 (N:=N) args (N+2) st1
  rw [h2] at e2
  simp only [h1,Option.map,c4u,c1v,<-e2,h3,c4t,h5,c65]
  refine ⟨h4,res,posts,h6,h7,h8,h9,?_⟩
  have:d2d (if a0v res&&posts.all fun p=>a0v p.2 then st1 else st2) N ((L.map (·.1)).zip (posts.map (·.2))) d res=st3:=by
   cases d with
   | none=>
    simp only [b5n,Ev.run_pure,Option.some.injEq,Prod.mk.injEq,true_and] at h10
    exact h10
   | some d=>
    simp only [b5n,a50,Option.some.injEq,Prod.mk.injEq,true_and] at h10
    exact h10
  rw [this]; exact h11
 ·cases h1:(a4e N (N+2) args).run st with
  | none=>intro h; simp only [Option.map,c4u,c1v] at h
  | some r=>
   obtain ⟨_,st1⟩:=r
   simp only [Option.map,c4u]
   rw [<-a24]
   cases h2:(a2s N (N+2) args).run st1 with
   | none=>intro h; simp only [Option.map,c1v] at h
   | some r2=>
    obtain ⟨_,st2⟩:=r2
    simp only [Option.map,c1v]
    cases h3:xv st2 cv<;>simp only [c4t]<;>try exact False.elim
    rename_i f fs cs
    rintro ⟨h4,h⟩
    cases h5:pX N st1 st2 [] [] (b26 N st2 fs lay cs) with
    | none=>rw [h5] at h; exact h.elim
    | some x=>
     obtain ⟨pre,L⟩:=x
     rw [h5] at h
     obtain ⟨res,posts,h6,h7,h8,h9,h10⟩:=h
     refine ⟨f,fs,cs,st1,st2,L,pre,res,posts,_,rfl,h2,h3,h4,h5,h6,h7,h8,h9,?_,h10⟩
     cases d<;>rfl
theorem a04 {pre:List AV} {L:List (Nat×Nat)} {res:AV} {posts:List (Nat×AV)} (hA:ACallsX P G f pre res posts) (hn:noRef res=true) (hp:posts.map (·.1)=L.map (·.2)) (hv:(posts.all fun p=>c1d pre p)=true) (hi:(a0v res&&posts.all fun p=>a0v p.2)=true)
  (h:K (d2d st1 N ((L.map (·.1)).zip (posts.map (·.2))) d res)):clx P G N d f pre L st1 st2 K:=⟨res,posts,hA,hn,hp,b50 hv,by rw [hi]; exact h⟩
end
section
variable {d:Option Nat} {cv:X} {args:List (Bool×X)} {lay:List CS} {f:FuncId} {aft:DA} {rest:List AO} {fps:List (List Nat×List Nat)} {K:St->Prop} {ex:List Nat}
def e75:AV->Bool
 | .var ks=>a0j ks
 | _=>false
@[go_sem] theorem d65 {ks:List AV}:e75 (.var ks)=a0j ks:=(rfl)
@[go_sem] theorem d9k {v:Value}:c2l (.lit v)=true:=(rfl)
@[go_sem] theorem d6r {rd:List Nat} {n:Nat}:a4c rd (.t n)=rd.contains n:=(rfl)
@[go_sem] theorem d6o {rd:List Nat} {v:Value}:a4c rd (.c v)=true:=(rfl)
@[go_sem] theorem d6p {rd:List Nat} {n:Nat}:a4c rd (.f n)=true:=(rfl)
@[go_sem] theorem d6q {rd:List Nat} {n:Nat}:a4c rd (.g n)=true:=(rfl)
@[go_sem] theorem c9i {rd:List Nat} {t:Nat} {q:List Nat} {o e:Nat}:a2d rd (.ref t q o e)=rd.contains t:=by simp only [a2d]
@[go_sem] theorem c9g {rd:List Nat} {t:Nat} {q:List Nat} {lo n e:Nat}:a2d rd (.bor t q lo n e)=rd.contains t:=by simp only [a2d]
@[go_sem] theorem d5w {rd:List Nat} {f:FuncId} {a c:List AV}:a2d rd (.fn f a c)=(a2b rd a&&a2b rd c):=by simp only [a2d]
@[go_sem] theorem c9h {rd:List Nat} {v:Value}:a2d rd (.lit v)=true:=by simp only [a2d]
@[go_sem] theorem d5x {rd:List Nat} {n:Nat} {ks:List AV}:a2d rd (.sl n ks)=true:=by simp only [a2d]
@[go_sem] theorem c50 {rd:List Nat}:a2b rd []=true:=by simp only [a2b]
@[go_sem] theorem c3z {rd:List Nat} {k:AV} {ks:List AV}:a2b rd (k::ks)=(a2d rd k&&a2b rd ks):=by simp only [a2b]
@[go_sem] theorem c8h {rd:List Nat}:b6p st rd args=args.all fun p=> !p.1&&(c2l (rdv st p.2)&&a4c rd p.2):=(rfl)
@[go_sem] theorem c5w {j:Nat}:a08 st j []=st:=(rfl)
@[go_sem] theorem c3x {j:Nat} {p:Bool×X}:a08 st j (p::args)=a08 (st.put j (rdv st p.2)) (j+1) args:=(rfl)
@[go_sem] theorem d3h {rd:List Nat} {n:Nat}:b6n st rd n []=true:=(rfl)
@[go_sem] theorem e41 {rd:List Nat} {n k:Nat}:b6n st rd n (.p k::lay)=(decide (k < n)&&b6n st rd n lay):=(rfl)
@[go_sem] theorem e42 {rd:List Nat} {n:Nat} {y:X}:b6n st rd n (.x y::lay)=((a4c rd y&&a2d rd (xv st y))&&b6n st rd n lay):=(rfl)
def dCx (P:Program) (G:GG) (N:Nat) (aft:DA) (ex:List Nat) (d:Option Nat) (cv:X) (args:List (Bool×X)) (lay:List CS) (rest:List AO) (fps:List (List Nat×List Nat)) (K:St->Prop) (st:St):Prop:=
 b9u P G N aft ex d (.callx cv args lay []) fps (fun fps st=>a6m aft.2 st/\a6n P G N aft rest fps K st) st
@[congr] theorem d1g {st':St} (h:st=st'):dCx P G N aft ex d cv args lay rest fps K st=dCx P G N aft ex d cv args lay rest fps K st':=by rw [h]
@[go_sem] theorem c7h {tys:List TypeId}:a6n P G N aft (⟨d,.callx cv args lay tys,none⟩::rest) fps K st=dCx P G N aft [] d cv args lay rest fps K st:=(rfl)
end
def b59 (rs:List RV) (res:AV) (posts:List (Nat×AV)):Exit->St->Prop
 | .normal,st | .ret,st=>c9m rs st=some res/\∀ p∈posts,st.s p.1=p.2
 | _,_=>False
section
variable {rs:List RV} {res:AV} {posts:List (Nat×AV)}
@[congr] theorem c41 {e:Exit} {st':St} (h2:st=st'):b59 rs res posts e st=b59 rs res posts e st':=by rw [h2]
def poK:List (Nat×AV)->St->Prop
 | [],_=>True
 | p::ps,st=>st.s p.1=p.2/\poK ps st
@[congr] theorem d49 {ps:List (Nat×AV)} {st':St} (h:st=st'):poK ps st=poK ps st':=by rw [h]
@[go_sem] theorem e59:poK [] st=True:=(rfl)
@[go_sem] theorem e0m {t:Nat} {v:AV} {ps:List (Nat×AV)}:poK ((t,v)::ps) st=(st.s t=v/\poK ps st):=(rfl)
theorem b61:∀ {ps:List (Nat×AV)},(∀ p∈ps,st.s p.1=p.2)=poK ps st
 | []=>by simp [poK]
 | p::ps=>by simp only [List.mem_cons,forall_eq_or_imp,poK,b61 (ps:=ps)]
@[go_sem] theorem e26:b59 rs res posts .normal st=(c6b (rvL rs st)=some res/\poK posts st):=by rw [<-b61]; rfl
@[go_sem] theorem e27:b59 rs res posts .ret st=(c6b (rvL rs st)=some res/\poK posts st):=by rw [<-b61]; rfl
theorem b6a {vs:List ResultVar} (h:b5d P N rs vs=true):∀ e st,b59 rs res posts e st->e9k P N vs res posts e st:=by
 intro e st hq
 have key:c9m rs st=some res->b0t P N st vs=some res:=by
  intro hk
  unfold c9m at hk
  cases hl:rvL rs st with
  | none=>rw [hl] at hk; cases hk
  | some ks=>
   rw [hl] at hk
   simp only [b0t,b05 h hl]
   exact hk
 cases e<;>first | exact ⟨key hq.1,hq.2⟩ | exact hq
end
theorem ACallsX.of_walk {P:Program} {G:GG} {f:FuncId} {fn:Func} {c:Code} {N:Nat} {vs:List ResultVar} {rs:List RV} {ic:IC} (hord:P.follows .mixedOrders=true) (hf:P.funcs[f]? =some fn) (hb:fn.body=some c) (hN:fn.ntmps=N) (hrs:fn.results.toList=vs) (hnd:(vs.map rvT).Nodup)
  (he:a7q c=ic.ec) (hok:ic.ok P N=true) (hr:b5d P N rs vs=true) {pins:List Nat} (hpin:ic.pin pins=true) {pre:List AV} {res:AV} {posts:List (Nat×AV)} (hsz:pre.length<=N) (hpo:posts.map (·.1)=pins) (hpr:pins.all (fun t=> !(vs.map rvT).contains t&&decide (t < pre.length))=true) (hnr:(posts.all fun p=>noRef p.2)=true)
  (h:AW P G N ic (b59 rs res posts) (St.init pre)):ACallsX P G f pre res posts:=
 a6y hf hb hN hrs hnd hsz (fun p hp=>by
  have:=List.all_eq_true.1 hpr p.1 (by rw [<-hpo]; exact List.mem_map.2 ⟨p,hp,rfl⟩)
  simp only [Bool.and_eq_true,Bool.not_eq_true',decide_eq_true_eq] at this
  exact ⟨fun hm=>by simp [hm] at this,this.2,List.all_eq_true.1 hnr p hp⟩) (by rw [hpo]; exact (b7g hord ic c _ _ he hok hpin h).mono (b6a hr))
end
abbrev oo (d:Nat) (i:IOp):AO:=⟨some d,.op i,none⟩
abbrev om (d t:Nat):AO:=⟨some d,.op (.mv (.t t)),none⟩
abbrev ov (i:IOp):AO:=⟨none,.op i,none⟩
abbrev og (d:Nat) (i:IOp) (j t:Nat) (b:Bool):AO:=⟨some d,.op i,some (j,t,b)⟩
abbrev oc (d:Nat) (f:FuncId) (args:List (Bool×X)) (tys:List TypeId):AO:=⟨some d,.call f args tys,none⟩
abbrev X.n (k:Int):X:= .c (.int .i64 k)
abbrev fnK:Type:=Bool×Option Func×Option EC×Nat×List ResultVar×Bool×Bool×Bool
def fnL (P:Program) (f:FuncId) (fn:Func) (N:Nat) (rs:List RV) (vs:List ResultVar) (ic:IC):fnK:=
 (P.follows .mixedOrders,P.funcs[f]?,fn.body.map a7q,fn.ntmps,fn.results.toList,decide ((vs.map rvT).Nodup),ic.ok P N,b5d P N rs vs)
def fnR (fn:Func) (N:Nat) (vs:List ResultVar) (ic:IC):fnK:=(true,some fn,some ic.ec,N,vs,true,true,true)
abbrev fnC (P:Program) (f:FuncId) (N:Nat) (rs:List RV) (ic:IC):Prop:=
 ∀ {G:GG} {pre:List AV} {res:AV} (hsz:decide (pre.length<=N)=true) (hw:AW P G N ic (c40 rs res) (St.init pre)),ACalls P G f pre res
abbrev fnX (P:Program) (f:FuncId) (N:Nat) (rs:List RV) (vs:List ResultVar) (ic:IC):Prop:=
 ∀ {G:GG} {pre:List AV} {res:AV} {posts:List (Nat×AV)} {pins:List Nat} (hpin:ic.pin pins=true) (hpo:posts.map (·.1)=pins)
  (hpr:pins.all (fun t=> !(vs.map rvT).contains t&&decide (t < pre.length))=true) (hnr:(posts.all fun p=>noRef p.2)=true) (hsz:decide (pre.length<=N)=true) (hw:AW P G N ic (b59 rs res posts) (St.init pre)),ACallsX P G f pre res posts
section
variable {P:Program} {f:FuncId} {N:Nat} {rs:List RV} {ic:IC}
theorem a1k (fn:Func) (vs:List ResultVar) (h:fnL P f fn N rs vs ic=fnR fn N vs ic):fnC P f N rs ic:=by
 intro G pre res hsz hw
 simp only [fnL,fnR,Prod.mk.injEq,Option.map_eq_some_iff,decide_eq_true_eq] at h
 obtain ⟨h1,h2,⟨c,hc,he⟩,h4,h5,h6,h7,h8⟩:=h
 exact ACalls.of_walk h1 h2 hc h4 h5 h6 he h7 h8 (of_decide_eq_true hsz) hw
theorem a6o (fn:Func) {vs:List ResultVar} (h:fnL P f fn N rs vs ic=fnR fn N vs ic):fnX P f N rs vs ic:=by
 intro G pre res posts pins hpin hpo hpr hnr hsz hw
 simp only [fnL,fnR,Prod.mk.injEq,Option.map_eq_some_iff,decide_eq_true_eq] at h
 obtain ⟨h1,h2,⟨c,hc,he⟩,h4,h5,h6,h7,h8⟩:=h
 exact ACallsX.of_walk h1 h2 hc h4 h5 h6 he h7 h8 hpin (of_decide_eq_true hsz) hpo hpr hnr hw
end
end Go.Ideal
end
section
namespace Go.Ideal.Tryd
noncomputable abbrev pg:Program:=Go.Proofs.Tryd.prog
def a2p:IC:=(.seq (.seq (.reg [om 12 5,
 om 13 0,
 oo 14 (.len 34 false (.t 13)),
 oo 15 (.bin .lss 3 0 (.t 12) (.t 14) 3)]) (.cond (.t 15) .skip (.exit 0))) (.seq (.block 1 (.seq (.draw [om 18 0,
 om 19 5,
 oo 20 (.iaddr 34 1 (.t 18) (.t 19)),
 oo 21 (.load 3 none (.t 20)),
 om 22 1,
 om 23 5,
 oo 24 (.iaddr 34 1 (.t 22) (.t 23)),
 oo 25 (.load 3 none (.t 24)),
 oo 26 (.bin .eql 3 0 (.t 21) (.t 25) 3),
 oo 6 (.asg (.t 26))] [[],[],[0,1],[2],[],[],[4,5],[6],[3,7],[8,0,1,2,3,4,5,6,7,8]]) (.seq (.reg [om 27 6,
 oo 28 (.un .not 4 (.t 27))]) (.cond (.t 28) (.seq (.reg [oo 4 (.asg (.c (.bool false)))]) .ret) .skip)))) (.reg [om 16 5,
 oo 17 (.bin .add 3 0 (.t 16) (.n 1) 3),
 oo 5 (.asg (.t 17))])))
def a22:IC:=(.seq (.reg [oo 4 (.asg (.c (.bool false)))]) (.seq (.seq (.reg [om 7 0,
 oo 8 (.len 34 false (.t 7)),
 om 9 1,
 oo 10 (.len 34 false (.t 9)),
 oo 11 (.bin .neq 3 0 (.t 8) (.t 10) 3)]) (.cond (.t 11) (.seq (.reg [oo 4 (.asg (.c (.bool false)))]) .ret) .skip)) (.seq (.seq (.reg [oo 5 (.asg (.n 0))]) (.block 0 (.loop a2p))) (.seq (.reg [oo 4 (.asg (.c (.bool true)))]) .ret))))
abbrev a7y:Nat:=19
theorem a6s:fnC pg 19 29 [(.tmp 4)] a22:=a1k Go.Proofs.Tryd.f19 [(.tmp 4)] (by kernel_rfl)
@[go_sem] theorem b4v:fnB pg 19=true:=by kernel_rfl
def a4x:IC:=(.seq (.reg [oo 4 (.asg (.n 0))]) (.seq (.reg [om 5 0,
 om 6 1,
 oo 7 (.bin .rem 3 0 (.t 5) (.t 6) 3),
 om 8 1,
 oo 9 (.bin .add 3 0 (.t 7) (.t 8) 3),
 om 10 1,
 oo 11 (.bin .rem 3 0 (.t 9) (.t 10) 3),
 oo 4 (.asg (.t 11))]) .ret))
abbrev a71:Nat:=13
theorem a6v:fnC pg 13 12 [(.tmp 4)] a4x:=a1k Go.Proofs.Tryd.f13 [(.tmp 4)] (by kernel_rfl)
@[go_sem] theorem b4y:fnB pg 13=true:=by kernel_rfl
abbrev li (n:Int):AV:= .lit (.int .i64 n)
abbrev lb (b:Bool):AV:= .lit (.bool b)
abbrev e3y (k:Int) (p:Bool) (n:Int):AV:= .agg [li k,lb p,li n]
@[go_sem] abbrev c6h:Nat:=198
@[go_sem] abbrev f1w:Nat:=106
def cn (g:Nat):Nat:=[2,0,9,1,5,6,7,3,99,4,8,10,11,12,13,14,15,16,17,18,19,20].getD g g
def gn (g:Nat):Nat:=[1,3,0,7,9,4,5,6,10,2,11,12,13,14,15,16,17,18,19,20,21].getD g g
@[go_sem] theorem f3j:cn 0=2:=(rfl)
@[go_sem] theorem f3k:cn 1=0:=(rfl)
@[go_sem] theorem f3l:cn 2=9:=(rfl)
@[go_sem] theorem f3m:cn 3=1:=(rfl)
@[go_sem] theorem f3n:cn 4=5:=(rfl)
@[go_sem] theorem f3o:cn 5=6:=(rfl)
@[go_sem] theorem f3p:cn 6=7:=(rfl)
@[go_sem] theorem f3q:cn 7=3:=(rfl)
@[go_sem] theorem f3r:cn 9=4:=(rfl)
@[go_sem] theorem f1z:cn 10=8:=(rfl)
@[go_sem] theorem f10:cn 11=10:=(rfl)
@[go_sem] theorem f14:cn 12=11:=(rfl)
@[go_sem] theorem f15:cn 13=12:=(rfl)
@[go_sem] theorem f16:cn 14=13:=(rfl)
@[go_sem] theorem f17:cn 15=14:=(rfl)
@[go_sem] theorem f2a:cn 16=15:=(rfl)
@[go_sem] theorem f2b:cn 17=16:=(rfl)
@[go_sem] theorem f2c:cn 18=17:=(rfl)
@[go_sem] theorem f2d:cn 19=18:=(rfl)
@[go_sem] theorem f2e:cn 20=19:=(rfl)
@[go_sem] theorem f2f:cn 21=20:=(rfl)
structure Sent (G:GG) (bk:Nat->Nat×Nat):Prop where
 val:∀ g,g < 22/\g≠8->G g=some (.iface c6h (.pointer (some ⟨(bk (cn g)).1,(bk (cn g)).2,none⟩)))
 blk:∀ g,g < 21->(G (bk g).1).isSome=true
 inj:∀ g h,g < 21->h < 21->bk g=bk h->g=h
structure Sent5 (G:GG) (bk:Nat->Nat×Nat):Prop where
 val:∀ g,g=0\/g=4\/g=5\/g=7\/g=9->G g=some (.iface c6h (.pointer (some ⟨(bk (cn g)).1,(bk (cn g)).2,none⟩)))
 blk:∀ g,2<=g/\g<=6->(G (bk g).1).isSome=true
 inj:∀ g h,2<=g/\g<=6->2<=h/\h<=6->bk g=bk h->g=h
structure Sent3 (G:GG) (bk:Nat->Nat×Nat):Prop where
 val:∀ g,g=0\/g=5\/g=7->G g=some (.iface c6h (.pointer (some ⟨(bk (cn g)).1,(bk (cn g)).2,none⟩)))
structure SentO (G:GG) (bk:Nat->Nat×Nat):Prop where
 val:∀ g,g=0\/g=1\/g=3\/g=4\/g=5\/g=6\/g=7->G g=some (.iface c6h (.pointer (some ⟨(bk (cn g)).1,(bk (cn g)).2,none⟩)))
theorem Sent.o {G:GG} {bk:Nat->Nat×Nat} (h:Sent G bk):SentO G bk:=⟨fun g hg=>h.val g (by omega)⟩
instance {G:GG} {bk:Nat->Nat×Nat}:Coe (Sent G bk) (SentO G bk):=⟨Sent.o⟩
@[go_sem] abbrev sv (bk:Nat->Nat×Nat) (g:Nat):AV:= .lit (.iface c6h (.pointer (some ⟨(bk g).1,(bk g).2,none⟩)))
abbrev slB (xs:List Bool):AV:= .sl xs.length (xs.map lb)
abbrev slI (xs:List Int):AV:= .sl xs.length (xs.map li)
abbrev owI (xs:List Int):AV:= .own 1 xs.length (xs.map li)
abbrev owB (xs:List Bool):AV:= .own 1 xs.length (xs.map lb)
abbrev f3g (xs:List (List Int)):AV:= .sl xs.length (xs.map slI)
abbrev f2r (xs:List (List Int)):AV:= .own 1 xs.length (xs.map owI)
attribute [go_sem] slB slI owI owB f3g f2r
@[go_sem] theorem a66 (xs:List Int):a01 (xs.map li)=true:=a9f fun x=>by simp only [a0v]
@[go_sem] theorem d4h (xs:List Bool):a01 (xs.map lb)=true:=a9f fun x=>by simp only [a0v]
@[go_sem] theorem d4p (xs:List Int):a0j (xs.map li)=true:=a9h fun x=>by simp only [a0i]
@[go_sem] theorem d4o (xs:List Bool):a0j (xs.map lb)=true:=a9h fun x=>by simp only [a0i]
inductive Er where
 | nil
 | s (g:Nat)
 | at (p:Int) (e:Er)
def a47 (bk:Nat->Nat×Nat):Er->AV
 | .nil=> .lit .nilIface
 | .s g=>sv bk g
 | .at p e=> .ifc f1w (.ip [li p,a47 bk e] 0)
abbrev wr (n:Int):Int:=IntKind.i64.wrap n
def inB (n:Nat) (u:List (List Int)):Prop:=∀ r∈u,∀ k∈r,0<=k/\k < (n:Int)
section
variable {G:GG} {bk:Nat->Nat×Nat} {Q:Exit->St->Prop} {st:St}
end
def c5s:List Int->List Int->List Int
 | [],l=>l
 | k::ks,l=>c5s ks (l.set k.toNat (wr (l[k.toNat]! - 1)))
theorem b7z:∀ (ks l:List Int),(c5s ks l).length=l.length
 | [],l=>rfl
 | k::ks,l=>by rw [c5s,b7z]; simp
section
variable {G:GG} {Q:Exit->St->Prop} {st:St}
end
section
variable {G:GG} {bk:Nat->Nat×Nat}
abbrev fl (x:Int×Bool×Int):AV:=e3y x.1 x.2.1 x.2.2
inductive Er.ok:Er->Prop
 | nil:Er.ok .nil
 | s {g:Nat} (h:g < 21):Er.ok (.s g)
 | at {p:Int} {g:Nat} (h:g < 21):Er.ok (.at p (.s g))
theorem b9y (e:Er):noRef (a47 bk e)=true/\a0i (a47 bk e)=true:=by
 cases e<;>simp [a47,noRef,a0i]
end
section
variable {G:GG} {bk:Nat->Nat}
theorem b6o {α:Type} [Inhabited α] {xs ys:List α} (hl:xs.length=ys.length) (h:∀ i,i < xs.length->xs[i]! =ys[i]!):xs=ys:=by
 apply List.ext_getElem hl
 intro i h1 h2
 have:=h i h1
 simpa [h1,h2] using this
theorem a7k {a b:List Int} (ha:a.length < 2 ^ 62):ACalls pg G a7y [slI a,slI b] (lb (decide (a=b))):=by
 refine a6s rfl ?_
 by_cases hl:a.length=b.length
 ·have hl':(a.length:Int)=b.length:=by omega
  simp (disch:=omega) [go_sem,a22,hl']
  refine a03 Nat (fun i st=>st.s 0=slI a/\st.s 1=slI b/\st.s 5=li i/\i<=a.length/\∀ j,j < i->a[j]! =b[j]!) (fun i=>a.length - i) 0 ?_ ?_
  ·exact ⟨by simp (disch:=omega) [go_sem,hl],by simp (disch:=omega) [go_sem],by simp (disch:=omega) [go_sem],by simp,fun j hj=>by omega⟩
  ·rintro i st K ⟨h0,h1,h5,hi,hc⟩ hK
   by_cases hlt:i < a.length
   ·have hlt2:i < b.length:=by omega
    simp (disch:=omega) [go_sem,a2p,h0,h1,h5,hlt]
    refine a3d ?_
    simp (disch:=omega) [go_sem,h0,h1,h5]
    refine a5b (by decide) fun s2 hs he=> ?_
    by_cases he2:a[i]=b[i]
    ·simp (disch:=omega) [go_sem,hs,he2,h5]
     exact hK (i+1) _ ⟨by simp (disch:=omega) [go_sem,hs,h0],by simp (disch:=omega) [go_sem,hs,h1],by simp (disch:=omega) [go_sem],by omega,fun j hj=>by
      by_cases hji:j=i
      ·subst hji; simpa [hlt,hlt2] using he2
      ·exact hc j (by omega)⟩ (by omega)
    ·have:a≠b:=by rintro rfl; exact he2 rfl
     simp (disch:=omega) [go_sem,hs,he2,h5,this]
   ·have:a=b:=b6o hl fun j hj=>hc j (by omega)
    simp (disch:=omega) [go_sem,a2p,h0,h5,hlt,this]
 ·have hl':¬ (a.length:Int)=b.length:=by omega
  have:a≠b:=by rintro rfl; exact hl rfl
  simp (disch:=omega) [go_sem,a22,hl',this]
end
theorem get!_set {α:Type} [Inhabited α] {l:List α} {i k:Nat} {v:α} (hi:i < l.length):(l.set i v)[k]! =if k=i then v else l[k]! :=by
 by_cases h:k=i
 ·subst h; simp [hi]
 ·simp only [h,if_false]
  by_cases hk:k < l.length
  ·simp [hk,Ne.symm h,List.getElem_set]
  ·simp [hk]
theorem b9v {n:Nat}:∀ {ks l:List Int},l.length=n->(∀ k∈ks,0<=k/\k < (n:Int))->(∀ k,k < n->(ks.count (k:Int):Int)<=l[k]! /\l[k]! < 2 ^ 62)->∀ k,k < n->(c5s ks l)[k]! =l[k]! - ks.count (k:Int)
 | [],l,hl,hk,hb,k,hkn=>by simp [c5s]
 | x::xs,l,hl,hk,hb,k,hkn=>by
  obtain ⟨h1,h2⟩:=hk x (by simp)
  have hx:x.toNat < l.length:=by omega
  have e:(x.toNat:Int)=x:=by omega
  have hbx:=hb x.toNat (by omega)
  rw [e] at hbx
  simp only [List.count_cons_self] at hbx
  have hw:wr (l[x.toNat]! - 1)=l[x.toNat]! - 1:=b5j (by omega)
  rw [c5s,hw,b9v (n:=n) (by simpa using hl) (fun k hk'=>hk k (by simp [hk'])) (fun k hkn=> ?_) k hkn,get!_set hx]
  ·by_cases hkx:k=x.toNat
   ·subst hkx; rw [if_pos rfl,e,List.count_cons_self]; omega
   ·have:¬ (x=(k:Int)):=by omega
    simp only [hkx,if_false,List.count_cons,beq_iff_eq,this,Nat.add_zero]
  ·rw [get!_set hx]
   have:=hb k hkn
   by_cases hkx:k=x.toNat
   ·subst hkx; rw [e] at this ⊢; rw [if_pos rfl]; simp only [List.count_cons_self] at this; omega
   ·have hne:¬ (x=(k:Int)):=by omega
    simp only [hkx,if_false]
    simp only [List.count_cons,beq_iff_eq,hne,if_false,Nat.add_zero] at this
    exact this
def cnt (done:List Bool) (row:List Int):Nat:=row.countP fun x=> !done[x.toNat]!
theorem b9q {done:List Bool} {i:Nat} (hi:i < done.length) (hd:done[i]! =false):∀ {row:List Int},(∀ x∈row,0<=x/\x < (done.length:Int))->cnt (done.set i true) row+row.count (i:Int)=cnt done row
 | [],_=>by simp [cnt]
 | x::xs,h=>by
  have ih:=b9q hi hd (row:=xs) (fun y hy=>h y (by simp [hy]))
  simp only [cnt] at ih ⊢
  rw [List.countP_cons,List.countP_cons,List.count_cons,get!_set hi]
  have:=(h x (by simp)).1
  by_cases hx:x.toNat=i
  ·have:x=(i:Int):=by omega
   subst this
   simp [hd] at ih ⊢
   omega
  ·have:¬ (x=(i:Int)):=by omega
   simp only [hx,if_false,beq_iff_eq,this,Nat.add_zero]
   omega
structure J (ins u:List (List Int)) (done:List Bool) (left:List Int):Prop where
 hd:done.length=ins.length
 hl:left.length=ins.length
 left:∀ k,k < ins.length->left[k]! =cnt done ins[k]!
structure U (ins u:List (List Int)):Prop where
 inb:inB ins.length ins
 len:∀ r∈ins,r.length < 2 ^ 61
 cnt:∀ k,k < ins.length->∀ j,j < ins.length->(u[k]!).count (j:Int)=(ins[j]!).count (k:Int)
 ub:∀ k,k < ins.length->∀ x∈u[k]!,0<=x/\x < (ins.length:Int)
theorem d09 {done:List Bool} {row:List Int}:cnt done row<=row.length:=List.countP_le_length
theorem J.step {ins u:List (List Int)} {done:List Bool} {left:List Int} (hU:U ins u) (h:J ins u done left) {i:Nat} (hi:i < ins.length) (hdi:done[i]! =false):J ins u (done.set i true) (c5s u[i]! left) where
 hd:=by simpa using h.hd
 hl:=by rw [b7z]; exact h.hl
 left k hk:=by
  have hrow:∀ k,k < ins.length->ins[k]! ∈ins:=fun k hk=>by simp [hk]
  have hset:∀ k,k < ins.length->cnt (done.set i true) ins[k]! +(ins[k]!).count (i:Int)=cnt done ins[k]! :=fun k hk=>b9q (by rw [h.hd]; exact hi) hdi (fun x hx=>by rw [h.hd]; exact hU.inb _ (hrow k hk) x hx)
  rw [b9v h.hl (hU.ub i hi) (fun k hk=> ?_) k hk,h.left k hk,hU.cnt i hi k hk]
  ·have:=hset k hk
   omega
  ·rw [h.left k hk,hU.cnt i hi k hk]
   have:=hset k hk
   have h2:=d09 (done:=done) (row:=ins[k]!)
   have h3:=hU.len _ (hrow k hk)
   omega
structure Ordered (ins:List (List Int)) (done:List Bool) (out:List Int):Prop where
 hd:done.length=ins.length
 nd:out.Nodup
 mem:∀ x,x < ins.length->(done[x]! =true↔(x:Int)∈out)
 rng:∀ x∈out,0<=x/\x < (ins.length:Int)
 beh:∀ p,p < out.length->∀ y∈ins[(out[p]!).toNat]!,y∈out.take p
end Go.Ideal.Tryd
end
section
namespace Go.Ideal
open Go.ChangeShapes Go.RowKit Classical
section
variable {H:Type} {e:TypeId×Value->H} {P:Program} {w:World}
def Rd (e:TypeId×Value->H) (P:Program) (w:World) (T:Type) (t:TypeId) (enc:T->List AV) (ok:T->Prop):Prop:=
 ∀ (fuel:Nat) (cs:List Value) (d:DataW H) (ps:List MemPlace),DataW.trod e P w 0 (fun _=>true) true fuel t cs=some (d,ps)->(d.weights P t).all (· <=reachBytes)=true->∃ x,ok x/\RL w (fun b=>b < w.heap.size) (enc x) noQ noB cs/\C1 cs
theorem a8k {M:BS} {k:AV} {v:Value} (h:R w M k noQ noB v):RL w M [k] noQ noB [v]:=by
 simp only [RL]
 exact ⟨v,[],rfl,noB,noB,fun _ h=>h,fun _ h=>h,fun _ h=>h.elim,h,rfl⟩
theorem Rd.int {t:TypeId} (ht:P.underlying t=some (.int .i64)):Rd e P w Int t (fun n=>[.lit (.int .i64 n)]) (fun n=> -9223372036854775808<=n/\n<=9223372036854775807):=by
 intro fuel cs d ps h hw
 obtain ⟨n,rfl,h1,h2⟩:=DataW.trod_int ht h
 refine ⟨n,?_,a8k (by simp only [R]),fun u hu=>by simp at hu; subst hu; rfl⟩
 simp only [Lit.wf,decide_eq_true_eq,Bool.and_eq_true] at h2
 first | exact h2 | (obtain ⟨a,b⟩:=h2; simp [IntKind.wrap_i64] at *; omega)
theorem Rd.bool {t:TypeId} (ht:P.underlying t=some .bool):Rd e P w Bool t (fun n=>[.lit (.bool n)]) (fun _=>True):=by
 intro fuel cs d ps h hw
 obtain ⟨n,rfl,h1⟩:=DataW.trod_bool ht h
 exact ⟨n,trivial,a8k (by simp only [R]),fun u hu=>by simp at hu; subst hu; rfl⟩
theorem a7x {u:TypeId} {p:Nat->Bool}:∀ {ds:List (DataW H)},(DataW.weightsAll P u ds).all p=true->∀ d∈ds,(d.weights P u).all p=true
 | [],_,d,hd=>by simp at hd
 | x::xs,h,d,hd=>by
  simp only [DataW.weightsAll,List.all_append,Bool.and_eq_true] at h
  rcases List.mem_cons.1 hd with rfl | hd
  ·exact h.1
  ·exact a7x h.2 d hd
theorem cells?_cell {a:Addr} {n:Nat} {cs:List Value} (h:w.cells? 0 a n=some cs):cs.length=n/\∀ i u,cs[i]? =some u->w.cell? (a.add i)=some u:=by
 unfold World.cells? at h
 rw [if_pos (Nat.zero_le _)] at h
 have key:∀ (l:List Nat) (r:List Value),l.mapM (fun i=>w.cell? (a.add i))=some r->r.length=l.length/\∀ (i j:Nat) (u:Value),l[i]? =some j->r[i]? =some u->w.cell? (a.add j)=some u:=by
  intro l
  induction l with
  | nil=>intro r h; simp at h; subst h; exact ⟨rfl,fun i j u hi=>by simp at hi⟩
  | cons x l ih=>
   intro r h
   simp only [List.mapM_cons,Option.bind_eq_bind,Option.pure_def,Option.bind_eq_some_iff,Option.some.injEq] at h
   obtain ⟨y,hy,ys,hys,rfl⟩:=h
   obtain ⟨h1,h2⟩:=ih ys hys
   refine ⟨by simp [h1],fun i j u hi hu=> ?_⟩
   cases i with
   | zero=>simp at hi hu; subst hi; subst hu; exact hy
   | succ i=>exact h2 i j u (by simpa using hi) (by simpa using hu)
 obtain ⟨h1,h2⟩:=key _ _ h
 refine ⟨by simpa using h1,fun i u hu=>h2 i i u ?_ hu⟩
 have:i < cs.length:=(List.getElem?_eq_some_iff.1 hu).1
 rw [h1] at this
 simp at this
 simp [this]
theorem b4b (a:Addr):a.add 0=a:=by simp [Addr.add]
theorem c1o (b o i:Nat):(⟨b,o,none⟩:Addr).add i=⟨b,o+i,none⟩:=by
 simp only [Addr.add]; split
 ·subst_vars; rfl
 ·rfl
theorem c33 (a:Addr) (m i:Nat):(a.add m).add i=a.add (m+i):=by
 obtain ⟨b,o,s⟩:=a
 simp only [Addr.add]
 by_cases h1:m=0
 ·subst h1; simp
 ·by_cases h2:i=0
  ·subst h2; simp [h1]
  ·simp [h1,h2,Nat.add_assoc]
theorem Rd.slice {t u:TypeId} {T:Type} {enc:T->List AV} {ok:T->Prop} (ht:P.underlying t=some (.slice u)) (hb:0 < P.bytesOf u) (h:Rd e P w T u enc ok) (hlen:∀ x,(enc x).length=P.cellsOf u) :
  Rd e P w (List T) t (fun xs=>[.sl xs.length (xs.flatMap enc)]) (fun xs=>xs.length<=reachBytes/\∀ x∈xs,ok x):=by
 intro fuel cs d ps hd hw
 rcases DataW.trod_slice ht hd with ⟨rfl,_⟩ | ⟨a,len,cap,elems,rest,n,_,rfl,hx,_,hlc,_,hel,hi,_⟩
 ·refine ⟨[],⟨by simp [reachBytes],fun x hx=>by simp at hx⟩,a8k ?_,fun u hu=>by simp at hu; subst hu; rfl⟩
  simp only [R,RL,List.flatMap_nil,List.length_nil]
  exact ⟨none,0,rfl,Nat.le_refl _,[],fun _ h=>by simp at h,rfl,.inl rfl⟩
 ·simp only [Prod.mk.injEq] at hx
  obtain ⟨rfl,_⟩:=hx
  simp only [DataW.weights,ht,List.all_cons,List.all_append,Bool.and_eq_true,decide_eq_true_eq,List.length_map] at hw
  obtain ⟨w1,w2,_⟩:=hw
  have hm:∀ m,m<=len->∃ xs:List T,xs.length=m/\(∀ x∈xs,ok x)/\∃ vs,vs.length=m*P.cellsOf u/\RL w (fun b=>b < w.heap.size) (xs.flatMap enc) noQ noB vs/\C1 vs/\∀ i v,vs[i]? =some v->w.cell? (a.add i)=some v:=by
   intro m
   induction m with
   | zero=>intro _; exact ⟨[],rfl,fun x hx=>by simp at hx,[],by simp,by simp [RL],fun _ h=>by simp at h,fun i v hv=>by simp at hv⟩
   | succ m ih=>
    intro hml
    obtain ⟨xs,l1,ok1,vs,l2,r1,c1,cell1⟩:=ih (by omega)
    have hmi:=hi m (by omega)
    have hme:elems[m]? =some elems[m]:=by simp [show m < elems.length by omega]
    rw [hme] at hmi
    cases hc:w.cells? 0 (a.add (m*P.cellsOf u)) (P.cellsOf u) with
    | none=>rw [hc] at hmi; cases hmi
    | some cs=>
     rw [hc] at hmi
     simp only [Option.bind_some] at hmi
     obtain ⟨x,okx,rx,cx⟩:=h n cs elems[m].1 elems[m].2 hmi (a7x w2 _ (List.mem_map.2 ⟨_,List.getElem_mem _,rfl⟩))
     obtain ⟨g1,g2⟩:=cells?_cell hc
     refine ⟨xs++[x],by simp [l1],fun y hy=> ?_,vs++cs,by rw [List.length_append,l2,g1,Nat.add_mul,Nat.one_mul],?_,fun y hy=> ?_,fun i v hv=> ?_⟩
     ·rcases List.mem_append.1 hy with hy | hy
      ·exact ok1 y hy
      ·simp at hy; subst hy; exact okx
     ·rw [List.flatMap_append]
      simp only [List.flatMap_cons,List.flatMap_nil,List.append_nil]
      exact a1r (fun b hb=>hb.elim (fun h=>h) fun h=>h) (a1e r1 rx fun b hb=>hb.elim)
     ·rcases List.mem_append.1 hy with hy | hy
      ·exact c1 y hy
      ·exact cx y hy
     ·by_cases hiv:i < vs.length
      ·rw [List.getElem?_append_left hiv] at hv
       exact cell1 i v hv
      ·rw [List.getElem?_append_right (by omega)] at hv
       have:=g2 _ v hv
       have e:(a.add (m*P.cellsOf u)).add (i - vs.length)=a.add i:=by
        rw [c33]
        congr 1
        rw [l2] at hiv ⊢
        omega
       rw [e] at this
       exact this
  obtain ⟨xs,l1,ok1,vs,l2,r1,c1,cell1⟩:=hm len (Nat.le_refl _)
  refine ⟨xs,⟨?_,ok1⟩,a8k ?_,fun y hy=>by simp at hy; subst hy; rfl⟩
  ·rw [l1,<-hel]
   have:elems.length<=(elems.length+rest.length)*P.bytesOf u:=by
    calc elems.length<=elems.length+rest.length:=Nat.le_add_right _ _
     _=(elems.length+rest.length)*1:=(Nat.mul_one _).symm
     _<=_:=Nat.mul_le_mul_left _ hb
   omega
  ·simp only [R]
   refine ⟨some a,cap,by rw [l1],by omega,vs,c1,r1,?_⟩
   cases vs with
   | nil=>exact .inl rfl
   | cons v0 vs'=>
    have h0:=cell1 0 v0 rfl
    obtain ⟨b,o,sp⟩:=a
    have hsp:sp=none:=by
     cases sp with
     | none=>rfl
     | some s=>rw [b4b] at h0; simp [World.cell?] at h0; split at h0<;>cases h0
    subst hsp
    refine .inr ⟨b,o,rfl,?_,fun i u hu=> ?_⟩
    ·by_cases hbs:b < w.heap.size
     ·exact hbs
     ·rw [b4b] at h0
      simp only [World.cell?] at h0
      rw [show w.heap[b]? =none by simp; omega] at h0
      cases h0
    ·have:=cell1 i u hu
     rw [c1o] at this
     exact this
theorem Rd.slice1 {t u:TypeId} {T:Type} {enc:T->AV} {ok:T->Prop} (ht:P.underlying t=some (.slice u)) (hb:0 < P.bytesOf u) (hc:P.cellsOf u=1) (h:Rd e P w T u (fun x=>[enc x]) ok) :
  Rd e P w (List T) t (fun xs=>[.sl xs.length (xs.map enc)]) (fun xs=>xs.length<=reachBytes/\∀ x∈xs,ok x):=by
 have:=Rd.slice ht hb h (fun x=>by simp [hc])
 intro fuel cs d ps h1 h2
 obtain ⟨x,a,b,c⟩:=this fuel cs d ps h1 h2
 refine ⟨x,a,?_,c⟩
 have e1:∀ l:List T,l.flatMap (fun x=>[enc x])=l.map enc:=fun l=>by induction l<;>simp_all
 simp only [e1] at b
 exact b
end
theorem b4r {P:Program} {G:GG} {f:FuncId} {W:World} {args:Array Value} {pre:List AV} (hA:ACalls P G f pre (.lit (.bool true))) (hsz:args.size=pre.length) (hG:∀ g v,G.at g v->GC G W g v/\g < W.heap.size)
  (hpre:∀ i av,pre[i]? =some av->R W (fun b=>b < W.heap.size) av noQ noB (args.getD i undef)):Calls P f args W (fun e W'=>e= .returned (.bool true)/\Below W.heap.size W W'):=by
 refine (hA W args (fun b=>b < W.heap.size) (fun _=>none) hsz (fun b hb=>⟨hb,rfl⟩) (fun b i hb=>by cases hb) (fun g v hg=>⟨(hG g v hg).1,(hG g v hg).2,rfl⟩) (fun i av hi=> ?_)).mono ?_
 ·exact a1j (fun b hb=>hb.elim) (hpre i av hi)
 ·rintro ex W' ⟨v,rfl,hr⟩
  obtain ⟨F,_,hv⟩:=hr.own
  simp only [R] at hv
  subst hv
  exact ⟨rfl,hr.os,hr.tape,hr.output,hr.le,fun k hk=>hr.frame k hk (by simp)⟩
section
variable {H:Type} {enc:TypeId×Value->H} {P:Program}
theorem a86 (hl:laidOutB P=true) {W W':World} (hb:Below W.heap.size W W') {sp:Nat->Bool}:∀ {ts:List TypeId} {vs:List Value} {ds:List (DataW H)} {ps:List MemPlace},(∀ t∈ts,P.readableRec t=true/\t < P.types.size)->DataW.TrodAll enc P W 0 (fun _=>true) true ts vs ds ps->
  (∀ x∈ps,x.block < W.heap.size)->(∀ x∈ps,sp x.block=true)->DataW.TrodAll enc P W' 0 sp true ts vs ds ps
 | [],_,_,_,_,h,_,_=>by
  obtain ⟨rfl,rfl,rfl⟩:=trodAll_nil h
  exact trodAll_mk0
 | t::ts,_,_,_,ht,h,hlt,hsp=>by
  obtain ⟨v,vs,d,ds,p,q,rfl,rfl,rfl,h1,h2⟩:=trodAll_cons h
  exact ⟨p,q,WideElems.Trod_stays hl (ht t (by simp)).1 (ht t (by simp)).2 h1 (fun x hx=>hb.same (hlt x (by simp [hx]))) (fun x hx=>hsp x (by simp [hx])),
   a86 hl hb (fun u hu=>ht u (by simp [hu])) h2 (fun x hx=>hlt x (by simp [hx])) (fun x hx=>hsp x (by simp [hx])),rfl⟩
theorem b7w {f:Func} {s:ChangeSpec} {apart fresh handsOn again:Bool} {W W':World} {args:Array Value} {ds gs:List (DataW H)} {before:List MemPlace} {tb:TypeId}
  (hl:laidOutB P=true) (ht:∀ t∈f.params.toList,P.readableRec t=true/\t < P.types.size) (hr:f.resultTypes=#[tb]) (htb:P.underlying tb=some .bool) (hvars:s.vars=[]) (hfn:s.fn H (ds++[])={ results:=[.lit (.bool true)],args:=ds })
  (hW:DataW.Whole enc P f.params.toList s.vars apart W args.toList ds gs before) (hb:Below W.heap.size W W'):s.post enc P f apart fresh handsOn again W args (.bool true) W':=by
 have hW0:=hW
 obtain ⟨p,q,hA,hV,hpq,hz,hn⟩:=hW
 rw [hvars] at hV
 obtain ⟨rfl,rfl⟩:=trodVars_none hV
 have hp:before=p:=by simpa using hpq
 subst hp
 have hlt:∀ x∈before,x.block < W.heap.size:=fun x hx=>hW0.lt x hx
 have hargs:∀ sp:Nat->Bool,(∀ p∈before,sp p.block=true)->DataW.TrodAll enc P W' 0 sp true f.params.toList args.toList ds before:=fun sp hsp=>a86 hl hb ht hA hlt hsp
 have hres:∀ (b:Nat) (sp:Nat->Bool) (hd:Bool),DataW.TrodAll enc P W' b sp hd f.resultTypes.toList ((Value.bool true).resultList f.resultTypes.size) [.lit (.bool true)] []:=fun b sp hd=>by
  rw [hr]; exact trodAll_mk1 (shut_bool htb true)
 have hv0:∀ sp:Nat->Bool,DataW.TrodVars enc P W' sp s.vars [] []:=fun sp=>by rw [hvars]; rfl
 refine ⟨ds,[],before,[],before,[],hW0,?_,?_,?_,World.keptBut_mono (fun p hp=>⟨hp,Or.inr (Or.inl hp)⟩) (hb.frame _),fun _=> ?_⟩
 ·rw [hfn]; exact hres _ _ _
 ·rw [hfn]; exact hargs _ fun x hx=>by simpa using hlt x hx
 ·rw [hfn]; exact hv0 _
 ·refine ⟨ok_one hr rfl (by unfold Value.okWide; rw [htb]; simp [Cell.okWide,Cell.ok,htb]),[.lit (.bool true)]++ds,[],([]++before)++[],⟨[]++before,[],trodAll_append (hargs _ fun _ _=>rfl) (hres _ _ _),hv0 _,rfl,?_,?_⟩,?_⟩
  ·intro b off hp
   have hp':MemPlace.cell b off∈before:=by simpa using hp
   rw [hb.frozen (p:=⟨b,off,none⟩) (hlt _ hp')]
   exact hz b off hp'
  ·intro ha
   simpa using hn ha
  ·intro p hp _
   simpa using hp
end
end Go.Ideal
end
section
namespace Go.Ideal.Tryd
open Go.ChangeShapes Go.RowKit Classical
def c1b:DataW Unit->Option (List UInt8)
 | .iface n (.ptr (.agg [.lit (.string s)])) => if n == "*errors.errorString" then some s else none
 | _=>none
theorem b7d {d : DataW Unit} {s : List UInt8} (h : c1b d = some s) : d = .iface "*errors.errorString" (.ptr (.agg [.lit (.string s)])) := by
 unfold c1b at h
 split at h
 ·split at h
  ·rename_i hn
   simp only [beq_iff_eq] at hn
   injection h with h
   rw [hn,h]
  ·cases h
 ·cases h
noncomputable def b2p (laid:List (String×DataW Unit)) (g:Nat):Option (List UInt8):=laid.findSome? fun x=>if pg.globalNamed x.1==some g then c1b x.2 else none
noncomputable def b5e (L:List Nat) (laid:List (String×DataW Unit)):Bool:=L.all fun g=>(b2p laid g).isSome&&L.all fun h=>g==h|| !(b2p laid g==b2p laid h)
abbrev d6g:List Nat:=[0,1,2,3,4,5,6,7,9,10,11,12,13,14,15,16,17,18,19,20,21]
theorem a9n {W:World}:∀ {laid:List (String×DataW Unit)} {ps:List MemPlace},DataW.LaidVars pg W laid ps->∀ x∈laid,∃ g t cs fuel p,pg.globalNamed x.1=some g/\(pg.globals[g]?).map (·.type)=some t/\W.var? pg x.1=some cs/\
  DataW.trod (fun _=>()) pg W 0 (fun _=>true) false fuel t cs.toList=some (x.2,p)/\(∀ y∈MemPlace.row ⟨g,0,none⟩ cs.size++p,y∈ps)
 | [],_,_,x,hx=>by simp at hx
 | (n,d)::r,ps,h,x,hx=>by
  obtain ⟨g,t,cs,fuel,p,q,h1,h2,h3,h4,h5,rfl⟩:=h
  rcases List.mem_cons.1 hx with rfl | hx
  ·exact ⟨g,t,cs,fuel,p,h1,h2,h3,h4,fun y hy=>List.mem_append_left _ hy⟩
  ·obtain ⟨g',t',cs',f',p',k1,k2,k3,k4,k5⟩:=a9n h5 x hx
   exact ⟨g',t',cs',f',p',k1,k2,k3,k4,fun y hy=>List.mem_append_right _ (k5 y hy)⟩
theorem e4l:(d6g.all fun g=>(pg.globals[g]?).map (·.type)==some 53)=true:=by kernel_rfl
theorem f3i:∃ ms,pg.underlying 53=some (.interface ms):=by
 have h:(match pg.underlying 53 with | some (.interface _)=>true | _=>false)=true:=by kernel_rfl
 split at h
 ·rename_i ms hm; exact ⟨ms,hm⟩
 ·cases h
theorem e64 (u : TypeId) (hu : pg.typeName? 3 u = some "*errors.errorString") : u = 198 :=
 typeName_ptr_named (nm := "errors.errorString") (by kernel_rfl) (by kernel_rfl) (by decide) u hu
theorem e7y:pg.underlying 198=some (.pointer 220):=by kernel_rfl
theorem e7z:∃ f:Field,pg.underlying 220=some (.struct #[f])/\f.offset=0/\pg.underlying f.type=some .string/\pg.cellsOf f.type=1:=by
 have h:(match pg.underlying 220 with | some (.struct fs)=>fs.size==1&&fs.all (fun f=>f.offset==0&&(match pg.underlying f.type with | some .string=>true | _=>false)&&pg.cellsOf f.type==1) | _=>false)=true:=by kernel_rfl
 split at h
 ·rename_i fs hm
  simp only [Bool.and_eq_true,beq_iff_eq] at h
  obtain ⟨h1,h2⟩:=h
  obtain ⟨f,hf⟩:∃ f,fs=#[f]:=by
   obtain ⟨l⟩:=fs
   match l,h1 with
   | [f],_=>exact ⟨f,rfl⟩
  subst hf
  simp at h2
  refine ⟨f,hm,h2.1.1,?_,h2.2⟩
  have:=h2.1.2
  split at this
  ·assumption
  ·cases this
 ·cases h
theorem c1t:pg.cellsOf 220=1:=by kernel_rfl
theorem b3q {L:List Nat} (hL:∀ g∈L,g∈d6g) {hs:List (Nat×Value)} {laid:List (String×DataW Unit)} {W:World} (h:laidMet pg laid W) (hc:b5e L laid=true) (hhs:∀ p∈hs,p.1 < W.heap.size/\∃ cur T fz,W.heap[p.1]? =some (.cells cur T fz)/\cur[0]? =some p.2):∃ (G:GG) (bk:Nat->Nat×Nat),G.hs=hs/\((∀ g,g∈L->G g=some (.iface c6h (.pointer (some ⟨(bk g).1,(bk g).2,none⟩))))/\(∀ g,g∈L->(G (bk g).1).isSome=true)/\(∀ g h,g∈L->h∈L->bk g=bk h->g=h))/\∀ g v,G.at g v->GC G W g v/\g < W.heap.size:=by
 obtain ⟨ps,hl,_,hp⟩:=h
 simp only [b5e,List.all_eq_true,Bool.and_eq_true,Bool.or_eq_true,beq_iff_eq,Bool.not_eq_true',beq_eq_false_iff_ne,ne_eq] at hc
 have key:∀ g,∃ y:Addr×ByteArray,g∈L->(∃ c t,W.heap[g]? =some (.cells c t (0,0))/\c[0]? =some (.iface 198 (.pointer (some y.1))))/\W.cell? y.1=some (.string y.2)/\b2p laid g=some y.2.data.toList/\(∃ c t,W.heap[y.1.block]? =some (.cells c t (0,0))):=by
  intro g
  by_cases hg:g∈L
  ·obtain ⟨text,ht⟩:=Option.isSome_iff_exists.1 (hc g hg).1
   have ht0:=ht
   unfold b2p at ht
   rw [List.findSome?_eq_some_iff] at ht
   obtain ⟨l1,x,l2,hx,hxs,_⟩:=ht
   split at hxs
   ·rename_i hgn
    simp only [beq_iff_eq] at hgn
    obtain ⟨g',t,cs,fuel,p,h1,h2,h3,h4,h5⟩:=a9n hl x (by rw [hx]; simp)
    obtain rfl:g'=g:=by rw [hgn] at h1; injection h1 with h1; exact h1.symm
    have ht26:t=53:=by
     have:=List.all_eq_true.1 e4l g' (hL _ hg)
     simp only [beq_iff_eq] at this
     rw [this] at h2
     injection h2 with h2
     exact h2.symm
    subst ht26
    rw [b7d hxs] at h4
    obtain ⟨ms,hms⟩:=f3i
    obtain ⟨f,hf1,hf2,hf3,hf4⟩:=e7z
    have hvar:∃ t0 fz,W.heap[g']? =some (.cells cs t0 fz):=by
     unfold World.var? at h3
     rw [h1] at h3
     simp only [Option.bind_some] at h3
     split at h3
     ·rename_i c t0 fz hh
      injection h3 with h3
      subst h3
      exact ⟨_,_,hh⟩
     ·cases h3
    obtain ⟨t0,fz,hh⟩:=hvar
    have hg0:∀ u v,cs.toList=[.iface u v]->MemPlace.cell g' 0∈ps/\W.cell? ⟨g',0,none⟩=some (.iface u v):=by
     intro u v hcs
     have hsz:cs.size=1:=by have:=congrArg List.length hcs; simpa using this
     refine ⟨h5 _ (List.mem_append_left _ (by rw [hsz]; simp [MemPlace.row])),?_⟩
     simp only [World.cell?,hh]
     have:cs[0]? =some (.iface u v):=by
      have:=congrArg (·[0]?) hcs
      simpa using this
     simpa using this
    obtain ⟨a,s,e1,e2,e3,_,e5⟩:=errorString_of_trod hms e64 e7y hf1 rfl hf2 hf3 c1t hf4 h4 (fun u v hcs=>by
     obtain ⟨m1,m2⟩:=hg0 u v hcs
     exact (hp _ _ m1).2 u v m2)
    refine ⟨(a,s),fun _=>⟨?_,e2,?_,?_⟩⟩
    ·obtain ⟨m1,m2⟩:=hg0 _ _ e1
     obtain ⟨⟨c,t1,hc1⟩,_⟩:=hp _ _ m1
     refine ⟨c,t1,hc1,?_⟩
     rw [hc1] at hh
     simp only [Option.some.injEq,Obj.cells.injEq] at hh
     obtain ⟨rfl,_,_⟩:=hh
     have:=congrArg (·[0]?) e1
     simpa using this
    ·rw [ht0,e3]
    ·have:=h5 _ (List.mem_append_right _ (show MemPlace.cell a.block (a.off+0)∈p by rw [e5]; simp [MemPlace.row]))
     exact (hp _ _ this).1
   ·cases hxs
  ·exact ⟨default,fun h=>absurd h hg⟩
 obtain ⟨y,hy⟩:=Classical.axiomOfChoice key
 let bk:Nat->Nat×Nat:=fun g=>((y g).1.block,(y g).1.off)
 let Gf:Nat->Option Value:=fun b=>if b∈L\/∃ g,g∈L/\(bk g).1=b then (match W.heap[b]? with | some (.cells c _ _)=>c[0]? | _=>none) else none
 have hspot:∀ g,g∈L->(y g).1=⟨(bk g).1,(bk g).2,none⟩/\∃ c t v,W.heap[(bk g).1]? =some (.cells c t (0,0))/\c[0]? =some v:=by
  intro g hg
  obtain ⟨_,h2,_,c,t,h4⟩:=hy g hg
  simp only [World.cell?,h4] at h2
  split at h2
  ·cases h2
  ·rename_i hs
   refine ⟨?_,c,t,?_⟩
   ·have:(y g).1.spot=none:=by simpa using hs
    simp only [bk]
    cases hyg:(y g).1
    rw [hyg] at this
    simp only at this
    rw [this]
   ·have hlt:(y g).1.off < c.size:=(Array.getElem?_eq_some_iff.1 h2).1
    exact ⟨c[0]'(by omega),h4,by simp⟩
 have strict:∀ b v,Gf b=some v->∃ c t,W.heap[b]? =some (.cells c t (0,0))/\c[0]? =some v:=fun b v hb=>by
  simp only [Gf] at hb
  split at hb
  ·rename_i hor
   have:∃ c t,W.heap[b]? =some (.cells c t (0,0)):=by
    rcases hor with h1 | ⟨g,hg,rfl⟩
    ·obtain ⟨⟨c,t,h1,_⟩,_⟩:=hy b h1
     exact ⟨c,t,h1⟩
    ·obtain ⟨_,c,t,v,h1,_⟩:=hspot g hg
     exact ⟨c,t,h1⟩
   obtain ⟨c,t,h1⟩:=this
   rw [h1] at hb
   simp only at hb
   exact ⟨c,t,h1,hb⟩
  ·cases hb
 refine ⟨⟨Gf,hs⟩,bk,rfl,⟨fun g hg=> ?_,fun g hg=> ?_,fun g h hg hh he=> ?_⟩,fun b v hb=> ?_⟩
 ·obtain ⟨⟨c,t,h1,h2⟩,_⟩:=hy g hg
  simp only [Gf]
  rw [if_pos (.inl hg),h1]
  simp only
  rw [h2,(hspot g hg).1]
 ·obtain ⟨_,c,t,v,h1,h2⟩:=hspot g hg
  simp only [Gf]
  rw [if_pos (.inr ⟨g,hg,rfl⟩),h1]
  simp only
  rw [h2]; rfl
 ·have e1:(y g).1=(y h).1:=by
   rw [(hspot g hg).1,(hspot h hh).1,he]
  obtain ⟨_,k1,k2,_⟩:=hy g hg
  obtain ⟨_,k3,k4,_⟩:=hy h hh
  rw [e1,k3] at k1
  simp only [Option.some.injEq,Value.string.injEq] at k1
  rcases (hc g hg).2 h hh with h5 | h5
  ·exact h5
  ·exact absurd (by rw [k2,k4,k1]) h5
 ·rcases hb with hb | hb
  ·obtain ⟨c,t,h1,h2⟩:=strict b v hb
   exact ⟨⟨c,t,(0,0),h1,h2,fun _=>rfl⟩,(Array.getElem?_eq_some_iff.1 h1).1⟩
  ·obtain ⟨h1,c,t,fz,h2,h3⟩:=hhs _ hb
   refine ⟨⟨c,t,fz,h2,h3,fun hg=> ?_⟩,h1⟩
   obtain ⟨c',t',h4,_⟩:=strict b v hg
   rw [h4] at h2
   simp only [Option.some.injEq,Obj.cells.injEq] at h2
   exact h2.2.2.symm
end Go.Ideal.Tryd
end
section
namespace Go.Proofs.YtploijbaclgehaaDoor
open Go Go.ChangeShapes Go.WideShapes Go.RowKit Go.Ideal Go.Ideal.Tryd
theorem own:ownKnob Tryd.prog.godebug=none:=by kernel_rfl
theorem c0e:laidOutB Tryd.prog=true:=by kernel_rfl
noncomputable def low:Nat:=(World.holding Tryd.prog default ⟨#[],#[],[]⟩).heap.size
noncomputable def c2k:List Obj:=(List.range 22).map fun g=> .cells #[.string ⟨((b2p Rows.orderWeightsRow.laid g).getD []).toArray⟩] 220 (0,0)
noncomputable def a62 (os:Os):World:=
 let w0:=World.holding Tryd.prog os ⟨c2k.toArray,#[],[]⟩
 { w0 with heap:=((w0.heap.toList.zipIdx).map fun
   | (.cells c t fz,8)=> .cells #[.iface 186 (.agg #[.pointer (some ⟨22,53,none⟩)])] t fz
   | (.cells c t fz,i)=>if i∈([0,1,2,3,4,5,6,7,9,10,11,12,13,14,15,16,17,18,19,20,21]:List Nat) then .cells #[.iface 198 (.pointer (some ⟨low+i,0,none⟩))] t fz else .cells c t fz
   | (o,_)=>o).toArray }
theorem b0m (os:Os) (args:Array Value):((a62 os).forCall (fun _ _=>0) ⟨#[],args,[]⟩).Shaped Tryd.prog:=
 World.shaped_of_RefB (by kernel_rfl) (by kernel_rfl)
abbrev hV:Value:= .iface 186 (.agg #[.pointer (some ⟨22,53,none⟩)])
end Go.Proofs.YtploijbaclgehaaDoor
end
section
namespace Go.Ideal
open Go.ChangeShapes Go.RowKit Classical
section
variable {H:Type} {e:TypeId×Value->H} {P:Program} {w:World}
def RdF (e:TypeId×Value->H) (P:Program) (w:World) (T:Type) (ts:List (TypeId×Nat)) (o total:Nat) (enc:T->List AV) (ok:T->Prop):Prop:=
 ∀ (n:Nat) (cs:List Value) (xs:List (DataW H×List MemPlace)),cs.length=total->xs.length=ts.length->
  (∀ (i:Nat) (p:TypeId×Nat),ts[i]? =some p->DataW.trod e P w 0 (fun _=>true) true n p.1 ((cs.drop p.2).take (P.cellsOf p.1))=xs[i]?)->
  (DataW.weightsEach P (ts.map (·.1)) (xs.map (·.1))).all (· <=reachBytes)=true->∃ x,ok x/\RL w (fun b=>b < w.heap.size) (enc x) noQ noB (cs.drop o)/\C1 (cs.drop o)
theorem RdF.nil {o:Nat}:RdF e P w Unit [] o o (fun _=>[]) (fun _=>True):=by
 intro n cs xs hl _ _ _
 refine ⟨(),trivial,?_,fun u hu=> ?_⟩
 ·rw [List.drop_of_length_le (by omega)]; simp [RL]
 ·rw [List.drop_of_length_le (by omega)] at hu; simp at hu
theorem RdF.cons {T U:Type} {t:TypeId} {k:Nat} {ts:List (TypeId×Nat)} {o total:Nat} {enc:T->List AV} {ok:T->Prop} {enc':U->List AV} {ok':U->Prop} (hk:P.cellsOf t=k) (h:Rd e P w T t enc ok) (hr:RdF e P w U ts (o+k) total enc' ok') :
  RdF e P w (T×U) ((t,o)::ts) o total (fun p=>enc p.1++enc' p.2) (fun p=>ok p.1/\ok' p.2):=by
 intro n cs xs hl hx ht hw
 cases xs with
 | nil=>simp at hx
 | cons y ys=>
  simp only [List.map_cons,DataW.weightsEach,List.all_append,Bool.and_eq_true] at hw
  have h0:=ht 0 (t,o) rfl
  simp only [List.getElem?_cons_zero,hk] at h0
  obtain ⟨x,ox,rx,cx⟩:=h n _ y.1 y.2 h0 hw.1
  obtain ⟨z,oz,rz,cz⟩:=hr n cs ys hl (by simpa using hx) (fun i p hp=>by simpa using ht (i+1) p (by simpa using hp)) hw.2
  have e1:cs.drop o=(cs.drop o).take k++cs.drop (o+k):=by rw [<-List.drop_drop]; exact (List.take_append_drop _ _).symm
  refine ⟨(x,z),⟨ox,oz⟩,?_,fun u hu=> ?_⟩
  ·rw [e1]
   exact a1r (fun b hb=>hb.elim (fun h=>h) fun h=>h) (a1e rx rz fun b hb=>hb.elim)
  ·rw [e1] at hu
   rcases List.mem_append.1 hu with hu | hu
   ·exact cx u hu
   ·exact cz u hu
def b1a (P:Program) (t:TypeId) (l:List (TypeId×Nat)):Bool:=match P.underlying t with
 | some (.struct fs)=>fs.toList.map (fun f=>(f.type,f.offset))==l
 | _=>false
theorem Rd.struct {T:Type} {t:TypeId} {l:List (TypeId×Nat)} {total:Nat} {enc:T->List AV} {ok:T->Prop} (hs:b1a P t l=true) (hc:P.cellsOf t=total) (hF:RdF e P w T l 0 total enc ok):Rd e P w T t enc ok:=by
 intro fuel cs d ps h hw
 unfold b1a at hs
 split at hs
 ·rename_i fs ht
  simp only [beq_iff_eq] at hs
  obtain ⟨xs,n,_,hx,hl,hxl,hf⟩:=DataW.trod_struct ht h
  simp only [Prod.mk.injEq] at hx
  obtain ⟨rfl,_⟩:=hx
  simp only [DataW.weights,ht] at hw
  have:=hF n cs xs (by rw [hl,hc]) (by rw [hxl,<-hs]; simp) (fun i p hp=>by
   rw [<-hs] at hp
   simp only [List.getElem?_map,Option.map_eq_some_iff] at hp
   obtain ⟨f,hfi,rfl⟩:=hp
   exact hf i f (by simpa using hfi)) (by
   rw [<-hs,List.map_map]
   exact hw)
  simpa using this
 ·cases hs
theorem Rd.map {T U:Type} {t:TypeId} {enc:T->List AV} {ok:T->Prop} {enc':U->List AV} {ok':U->Prop} (h:Rd e P w T t enc ok) (f:T->U) (henc:∀ x,enc' (f x)=enc x) (hok:∀ x,ok x->ok' (f x)):Rd e P w U t enc' ok':=by
 intro fuel cs d ps h1 h2
 obtain ⟨x,a,b,c⟩:=h fuel cs d ps h1 h2
 exact ⟨f x,hok x a,by rw [henc]; exact b,c⟩
theorem b7j {t:TypeId} {v:Value} {l:List (TypeId×Nat)} {r:Reach} {base:Nat} {ks:List AV} (hs:b1a P t l=true) (hv:Value.okWide P w r base t v) (hr:RL w (fun b=>b < w.heap.size) ks noQ noB v.cells.toList) (hc:C1 v.cells.toList):R w (fun b=>b < w.heap.size) (.agg ks) noQ noB v:=by
 unfold b1a at hs
 split at hs
 ·rename_i fs ht
  unfold Value.okWide at hv
  rw [ht] at hv
  obtain ⟨cs,rfl,_⟩:=hv
  simp only [R]
  exact ⟨cs,rfl,hc,hr⟩
 ·cases hs
end
end Go.Ideal
end
section
namespace Go.Ideal.Tryd
def a42:IC:=(.reg [om 4 0,
 om 5 0,
 oo 6 (.nilck (.t 5)),
 oo 7 (.faddr 117 0 (.t 6) 0),
 oo 8 (.load 69 none (.t 7)),
 om 9 1,
 oo 10 (.conv 3 5 (.int .u8) (.t 9)),
 om 11 1,
 oo 12 (.bin .shr 3 0 (.t 11) (.c (.int .u64 (8))) 143),
 oo 13 (.conv 3 5 (.int .u8) (.t 12)),
 oo 14 (.bslice 69 5 1 2 [.lit (.int .u8 0)] [(0,(.t 10)),(1,(.t 13))]),
 oo 15 (.app 69 5 1 1 (.t 8) (.t 14)),
 oo 16 (.nilck (.t 4)),
 oo 17 (.faddr 117 0 (.t 16) 0),
 ov (.store 69 1 (.t 17) (.t 15))])
abbrev a73:Nat:=53
@[go_sem] theorem b46:fnB pg 53=true:=by kernel_rfl
theorem a6h:fnX pg 53 18 [] [] a42:=a6o Go.Proofs.Tryd.f53 (by kernel_rfl)
def a4i:IC:=(.reg [om 4 0,
 om 5 0,
 oo 6 (.nilck (.t 5)),
 oo 7 (.faddr 117 0 (.t 6) 0),
 oo 8 (.load 69 none (.t 7)),
 om 9 1,
 oo 10 (.conv 3 5 (.int .u8) (.t 9)),
 om 11 1,
 oo 12 (.bin .shr 3 0 (.t 11) (.c (.int .u64 (8))) 143),
 oo 13 (.conv 3 5 (.int .u8) (.t 12)),
 om 14 1,
 oo 15 (.bin .shr 3 0 (.t 14) (.c (.int .u64 (16))) 143),
 oo 16 (.conv 3 5 (.int .u8) (.t 15)),
 om 17 1,
 oo 18 (.bin .shr 3 0 (.t 17) (.c (.int .u64 (24))) 143),
 oo 19 (.conv 3 5 (.int .u8) (.t 18)),
 oo 20 (.bslice 69 5 1 4 [.lit (.int .u8 0)] [(0,(.t 10)),(1,(.t 13)),(2,(.t 16)),(3,(.t 19))]),
 oo 21 (.app 69 5 1 1 (.t 8) (.t 20)),
 oo 22 (.nilck (.t 4)),
 oo 23 (.faddr 117 0 (.t 22) 0),
 ov (.store 69 1 (.t 23) (.t 21))])
abbrev a7p:Nat:=52
@[go_sem] theorem b33:fnB pg 52=true:=by kernel_rfl
theorem a5x:fnX pg 52 24 [] [] a4i:=a6o Go.Proofs.Tryd.f52 (by kernel_rfl)
def a2w:IC:=(.seq (.reg [oo 4 (.asg (.c (.bool false)))]) (.seq (.reg [om 5 0,
 om 6 1,
 ⟨(some 7),.callx (.f 110) [(false,(.t 5))] [.p 0,.x (.t 6)] [34,125],none⟩,
 oo 8 (.bin .geq 3 0 (.t 7) (.n 0) 3),
 oo 4 (.asg (.t 8))]) .ret))
abbrev a5g:Nat:=80
@[go_sem] theorem b07:fnB pg 80=true:=by kernel_rfl
theorem a4a:fnX pg 80 9 [(.tmp 4)] [(.tmp 4)] a2w:=a6o Go.Proofs.Tryd.f80 (by kernel_rfl)
def b0y:IC:=(.seq (.reg [oo 2 (.asg (.c (.bool false)))]) (.seq (.reg [om 3 0,
 oo 4 (.bin .geq 3 0 (.t 3) (.n (-2147483648)) 3),
 om 5 4,
 og 6 (.mv (.t 0)) 2 5 true,
 og 7 (.bin .leq 3 0 (.t 6) (.n 2147483647) 3) 2 5 true,
 oo 8 (.pick (.t 5) (.t 7) (.c (.bool false))),
 oo 2 (.asg (.t 8))]) .ret))
abbrev b5s:Nat:=83
theorem b1u:fnC pg 83 9 [(.tmp 2)] b0y:=a1k Go.Proofs.Tryd.f83 [(.tmp 2)] (by kernel_rfl)
@[go_sem] theorem c2w:fnB pg 83=true:=by kernel_rfl
def a13:IC:=(.seq (.reg [oo 9 (.bin .lss 3 0 (.t 8) (.t 7) 3)]) (.seq (.cond (.t 9) .skip (.exit 0)) (.seq (.block 1 (.seq (.reg [om 10 8,
 oo 5 (.asg (.t 10))]) (.seq (.reg [om 11 1,
 om 12 0,
 om 13 5,
 oo 14 (.iaddr 34 1 (.t 12) (.t 13)),
 oo 15 (.load 3 none (.t 14)),
 ⟨(some 16),.callx (.t 11) [(false,(.t 15))] [.p 0] [3],none⟩]) (.cond (.t 16) (.seq (.reg [om 17 5,
 oo 4 (.asg (.t 17))]) .ret) .skip)))) (.reg [oo 18 (.bin .add 3 0 (.t 8) (.n 1) 3),
 om 8 18]))))
def a3o:IC:=(.seq (.reg [oo 4 (.asg (.n 0))]) (.seq (.seq (.reg [om 6 0,
 oo 7 (.len 34 false (.t 6)),
 oo 8 (.mv (.n 0))]) (.block 0 (.loop a13))) (.seq (.reg [oo 4 (.asg (.n (-1)))]) .ret)))
abbrev a6q:Nat:=110
@[go_sem] theorem b2q:fnB pg 110=true:=by kernel_rfl
theorem a49:fnX pg 110 19 [(.tmp 4)] [(.tmp 4)] a3o:=a6o Go.Proofs.Tryd.f110 (by kernel_rfl)
section
variable {G:GG} {Q:Exit->St->Prop} {st:St}
abbrev lu (n:Int):AV:= .lit (.int .u8 n)
abbrev owU (xs:List Int):AV:= .own 1 xs.length (xs.map lu)
abbrev slU (xs:List Int):AV:= .sl xs.length (xs.map lu)
abbrev u8 (n:Int):Int:=IntKind.u8.wrap n
end
end Go.Ideal.Tryd
end
section
namespace Go.Ideal
section
variable {k yk:IntKind} {a b:Int}
theorem c4j (h:0<=b):a1f .shr (.int k a) (.int yk b)=some (.int k (a.fdiv (2 ^ min b.toNat k.bits))):=by simp [a1f,Op.shift,show ¬ b < 0 by omega]; rfl
@[go_sem] theorem e8l (h:0<=b):a2e .shr 0 (.lit (.int k a)) (.lit (.int yk b))=some (.lit (.int k (a.fdiv (2 ^ min b.toNat k.bits)))):=by simp [a2e,b6q,c4j h]
end
namespace Tryd
section
variable {G:GG} {Q:Exit->St->Prop} {st:St}
theorem b24 (xs:List Int) (n:Int) (h:xs.length < 2 ^ 40):ACallsX pg G a73 [.var [owU xs],li n] (.tup []) [(0,.var [owU (xs++[u8 n,u8 (n.fdiv 256)])])]:=by
 refine a6h (pins:=[0]) (by kernel_rfl) rfl rfl rfl rfl ?_
 simp (disch:=omega) [go_sem,a42]
end
end Tryd
def fm {α:Type} (f:α->List AV) (xs:List α):List AV:=xs.flatMap f
section
variable {α:Type} {f:α->List AV} {k:Nat} {xs:List α}
@[go_sem] theorem e1b {z y:AV} {zs:List AV}:b1l 1 (z::y::zs)=z::y::zs:=by simp [b1l]
@[go_sem] theorem d5y {zs:List AV}:b1l 0 zs=[]:=by simp [b1l]
theorem b0i:fm f []=[]:=rfl
theorem a39 {x:α}:fm f (x::xs)=f x++fm f xs:=rfl
theorem a4s (hf:∀ x,(f x).length=k):(fm f xs).length=xs.length*k:=by
 induction xs with
 | nil=>simp [fm]
 | cons x xs ih=>rw [a39,List.length_append,hf,ih,List.length_cons,Nat.add_mul,Nat.one_mul,Nat.add_comm]
theorem b4n {x:α}:fm f [x]=f x:=by simp [fm]
theorem a2o (hf:∀ x,(f x).length=k):(fm f xs).take (xs.length*k)=fm f xs:=List.take_of_length_le (by rw [a4s hf]; exact Nat.le_refl _)
theorem b4m {ys:List α}:fm f (xs++ys)=fm f xs++fm f ys:=by simp [fm,List.flatMap_append]
theorem b0h (hf:∀ x,(f x).length=k) {i:Nat} (h:i < xs.length):((fm f xs).drop (i*k)).take k=f xs[i]:=by
 induction xs generalizing i with
 | nil=>simp at h
 | cons x xs ih=>
  rw [a39]
  cases i with
  | zero=>rw [Nat.zero_mul,List.drop_zero,List.take_append_of_le_length (by rw [hf]; exact Nat.le_refl _),List.take_of_length_le (by rw [hf]; exact Nat.le_refl _)]; rfl
  | succ i=>
   rw [Nat.add_mul,Nat.one_mul,List.drop_append,hf,List.drop_of_length_le (by rw [hf]; omega),List.nil_append,Nat.add_sub_cancel]
   rw [ih (by simpa using h)]
   rfl
theorem b3c {a b:List AV}:a1b (a++b)=a1b a++a1b b:=by simp only [b6f,List.map_append]
theorem a60:a1b (fm f xs)=fm (fun x=>a1b (f x)) xs:=by
 induction xs with
 | nil=>simp [fm,a1b]
 | cons x xs ih=>rw [a39,a39,b3c,ih]
theorem b8x {a b:List AV}:a0j (a++b)=(a0j a&&a0j b):=by
 induction a with
 | nil=>simp [a0j]
 | cons x a ih=>simp only [List.cons_append,a0j,ih,Bool.and_assoc]
theorem b8w {a b:List AV}:a01 (a++b)=(a01 a&&a01 b):=by
 induction a with
 | nil=>simp [a01]
 | cons x a ih=>simp only [List.cons_append,a01,ih,Bool.and_assoc]
theorem a8o (h:∀ x,a0j (f x)=true):a0j (fm f xs)=true:=by
 induction xs with
 | nil=>simp [fm,a0j]
 | cons x xs ih=>rw [a39,b8x,h,ih]; rfl
theorem a8n (h:∀ x,a01 (f x)=true):a01 (fm f xs)=true:=by
 induction xs with
 | nil=>simp [fm,a01]
 | cons x xs ih=>rw [a39,b8w,h,ih]; rfl
end
end Go.Ideal
end
section
namespace Go.Ideal.Tryd
structure Nd where
 op:Int
 ins:List Int
 args:List Int
 shape:List Int
 wide:Bool
 data:List Int
def b18 (n:Nd):List AV:=[li n.op,slI n.ins,slI n.args,slI n.shape,lb n.wide,slI n.data]
@[go_sem] theorem d8h {xs:List Nd}:(fm b18 xs).length=xs.length*6:=a4s fun _=>rfl
@[go_sem] theorem d8g {xs:List Nd} {i:Nat} (h:i < xs.length):((fm b18 xs).drop (i*6)).take 6=[li xs[i].op,slI xs[i].ins,slI xs[i].args,slI xs[i].shape,lb xs[i].wide,slI xs[i].data]:=b0h (f:=b18) (k:=6) (fun _=>rfl) h
@[go_sem] theorem d1q {xs:List Nd}:(fm b18 xs).take (xs.length*6)=fm b18 xs:=a2o fun _=>rfl
@[go_sem] theorem c7o {xs:List Nd}:a0j (fm b18 xs)=true:=a8o fun _=>rfl
@[go_sem] theorem d8f {xs:List Nd}:a1b (fm b18 xs)=fm b18 xs:=by
 rw [a60]; congr 1
section
variable {G:GG} {Q:Exit->St->Prop} {st:St}
def d1r (r:List Int):List AV:=[li 4,owI r,.own 1 0 [],.own 1 0 [],lb false,.own 1 0 []]
def f0r (r:List Int):Nd:=⟨4,r,[],[],false,[]⟩
@[go_sem] theorem d8j {xs:List (List Int)}:(fm d1r xs).length=xs.length*6:=a4s fun _=>rfl
@[go_sem] theorem d1s {xs:List (List Int)}:(fm d1r xs).take (xs.length*6)=fm d1r xs:=a2o fun _=>rfl
@[go_sem] theorem d8i {xs:List (List Int)}:a1b (fm d1r xs)=fm b18 (xs.map f0r):=by
 rw [a60]
 induction xs with
 | nil=>rfl
 | cons x xs ih=>
  rw [a39,List.map_cons,a39,ih]
  congr 1
  simp [d1r,b18,f0r,go_sem]
end
def sp (t:Nat):List (List Int)->Nat->List Int
 | [],_=>[]
 | r::rs,i=>(if (t:Int)∈r then [(i:Int)] else [])++sp t rs (i+1)
def a4u:IC:=(.seq (.reg [oo 2 (.box 39 2 (.t 0)),
 oo 3 (.box 39 2 (.t 1)),
 oo 4 (.asg (.c (.bool false)))]) (.seq (.reg [oo 6 (.faddr 39 0 (.t 2) 0),
 oo 7 (.load 34 none (.t 6)),
 oo 8 (.faddr 39 0 (.t 3) 0),
 oo 9 (.load 34 none (.t 8)),
 oc 10 19 [(false,(.t 7)),(false,(.t 9))] [34,34],
 oo 5 (.asg (.t 10))]) (.seq (.reg [om 11 5,
 om 12 11,
 og 13 (.faddr 39 1 (.t 2) 1) 1 12 true,
 og 14 (.load 4 none (.t 13)) 1 12 true,
 og 15 (.faddr 39 1 (.t 3) 1) 1 12 true,
 og 16 (.load 4 none (.t 15)) 1 12 true,
 og 17 (.bin .eql 4 1 (.t 14) (.t 16) 4) 1 12 true,
 oo 18 (.pick (.t 12) (.t 17) (.c (.bool false))),
 oo 4 (.asg (.t 18))]) .ret)))
abbrev a4q:Nat:=18
theorem a6r:fnC pg 18 19 [(.tmp 4)] a4u:=a1k Go.Proofs.Tryd.f18 [(.tmp 4)] (by kernel_rfl)
@[go_sem] theorem b4u:fnB pg 18=true:=by kernel_rfl
def a4y:IC:=(.seq (.reg [oo 2 (.box 44 3 (.t 0)),
 oo 4 (.asg (.c (.bool false)))]) (.seq (.reg [oo 5 (.faddr 44 0 (.t 2) 0),
 oo 6 (.load 39 (some 2) (.t 5)),
 oc 7 25 [(false,(.t 6))] [39],
 om 8 7,
 og 9 (.faddr 44 2 (.t 2) 1) 3 8 true,
 og 10 (.load 34 none (.t 9)) 3 8 true,
 og 11 (.len 34 false (.t 10)) 3 8 true,
 og 12 (.mv (.t 1)) 3 8 true,
 og 13 (.bin .leq 3 0 (.t 11) (.t 12) 3) 3 8 true,
 oo 14 (.pick (.t 8) (.t 13) (.c (.bool false))),
 oo 4 (.asg (.t 14))]) .ret))
abbrev a72:Nat:=57
theorem a6w:fnC pg 57 15 [(.tmp 4)] a4y:=a1k Go.Proofs.Tryd.f57 [(.tmp 4)] (by kernel_rfl)
@[go_sem] theorem b4z:fnB pg 57=true:=by kernel_rfl
def a3q:IC:=(.seq (.reg [oo 1 (.box 39 2 (.t 0)),
 oo 2 (.asg (.c (.bool false)))]) (.seq (.reg [oo 3 (.faddr 39 0 (.t 1) 0),
 oo 4 (.load 34 none (.t 3)),
 oo 5 (.len 34 false (.t 4)),
 oo 6 (.bin .leq 3 0 (.t 5) (.n 8) 3),
 oo 2 (.asg (.t 6))]) .ret))
abbrev a89:Nat:=25
theorem a7r:fnC pg 25 7 [(.tmp 2)] a3q:=a1k Go.Proofs.Tryd.f25 [(.tmp 2)] (by kernel_rfl)
@[go_sem] theorem b6s:fnB pg 25=true:=by kernel_rfl
def a32:IC:=(.seq (.reg [oo 2 (.box 44 3 (.t 0)),
 oo 3 (.box 44 3 (.t 1)),
 oo 4 (.asg (.c (.bool false)))]) (.seq (.reg [oo 7 (.faddr 44 0 (.t 2) 0),
 oo 8 (.load 39 (some 2) (.t 7)),
 oo 9 (.faddr 44 0 (.t 3) 0),
 oo 10 (.load 39 (some 2) (.t 9)),
 oc 11 18 [(false,(.t 8)),(false,(.t 10))] [39,39],
 oo 5 (.asg (.t 11))]) (.seq (.reg [oo 12 (.faddr 44 2 (.t 2) 1),
 oo 13 (.load 34 none (.t 12)),
 oo 14 (.faddr 44 2 (.t 3) 1),
 oo 15 (.load 34 none (.t 14)),
 oc 16 19 [(false,(.t 13)),(false,(.t 15))] [34,34],
 oo 6 (.asg (.t 16))]) (.seq (.reg [om 17 5,
 om 18 17,
 og 19 (.mv (.t 6)) 1 18 true,
 oo 20 (.pick (.t 18) (.t 19) (.c (.bool false))),
 oo 4 (.asg (.t 20))]) .ret))))
abbrev a3y:Nat:=60
theorem a5u:fnC pg 60 21 [(.tmp 4)] a32:=a1k Go.Proofs.Tryd.f60 [(.tmp 4)] (by kernel_rfl)
@[go_sem] theorem b3h:fnB pg 60=true:=by kernel_rfl
section
variable {G:GG} {Q:Exit->St->Prop} {st:St}
def c1h {α:Type} (p:α->Bool):List α->Nat->Int
 | [],_=> -1
 | x::xs,i=>if p x=true then i else c1h p xs (i+1)
theorem c0a {α:Type} {p:α->Bool} {bs:List α} {i k:Nat} (h:i < bs.length):c1h p (bs.drop i) k=if p bs[i]=true then (k:Int) else c1h p (bs.drop (i+1)) (k+1):=by
 rw [List.drop_eq_getElem_cons h]; rfl
theorem b7t {α:Type} {p:α->Bool}:∀ {bs:List α} {i:Nat},decide (0<=c1h p bs i)=bs.any p
 | [],i=>by simp [c1h]
 | x::xs,i=>by
  simp only [c1h,List.any_cons]
  by_cases h:p x=true
  ·simp [h]
  ·simp only [h,Bool.false_eq_true,if_false]
   rw [b7t]; simp
theorem c2i {f:FuncId} (hf:fnB pg f=true) {p:Int->Bool} (xs:List Int) (hp:∀ x∈xs,ACallsX pg G f [li x] (lb (p x)) []) (hlen:xs.length < 2 ^ 62):ACallsX pg G a6q [slI xs,.fn f [] []] (li (c1h p xs 0)) []:=by
 refine a49 (pins:=[]) (by kernel_rfl) rfl rfl rfl rfl ?_
 simp (disch:=omega) [go_sem,a3o]
 refine a03 Nat (fun i st=>st.s 0=slI xs/\st.s 1= .fn f [] []/\st.s 7=li xs.length/\st.s 8=li i/\i<=xs.length/\c1h p (xs.drop i) i=c1h p xs 0) (fun i=>xs.length - i) 0 ?_ ?_
 ·simp (disch:=omega) [go_sem]
 ·rintro i st K ⟨h0,h1,h7,h8,hi,hno⟩ hK
  by_cases hlt:i < xs.length
  ·rw [c0a hlt] at hno
   simp (disch:=omega) [go_sem,a13,h0,h1,h7,h8,hlt,hf]
   refine a04 (hp _ (List.getElem_mem hlt)) rfl rfl rfl rfl ?_
   by_cases hv:p xs[i]=true
   ·rw [if_pos hv] at hno
    simp (disch:=omega) [go_sem,h0,h1,h7,h8,hlt,hv,<-hno]
   ·rw [if_neg hv] at hno
    have hv':p xs[i]=false:=by simpa using hv
    simp (disch:=omega) [go_sem,h0,h1,h7,h8,hlt,hv']
    exact hK (i+1) _ ⟨by simp (disch:=omega) [go_sem,h0],by simp (disch:=omega) [go_sem,h1],by simp (disch:=omega) [go_sem,h7],by simp (disch:=omega) [go_sem],by omega,hno⟩ (by omega)
  ·rw [List.drop_eq_nil_of_le (by omega)] at hno
   simp (disch:=omega) [go_sem,a13,h0,h1,h7,h8,hlt,<-hno,c1h]
theorem b57 {f:FuncId} (hf:fnB pg f=true) {p:Int->Bool} (xs:List Int) (hp:∀ x∈xs,ACallsX pg G f [li x] (lb (p x)) []) (hlen:xs.length < 2 ^ 62):ACallsX pg G a5g [slI xs,.fn f [] []] (lb (xs.any p)) []:=by
 refine a4a (pins:=[]) (by kernel_rfl) rfl rfl rfl rfl ?_
 simp (disch:=omega) [go_sem,a2w]
 refine a04 (c2i hf xs hp hlen) rfl rfl rfl rfl ?_
 simp (disch:=omega) [go_sem,b7t]
end
def c1x (k:Int):Bool:=decide (1<=k/\k<=256)
def c0v:List Int->Int->Int
 | [],n=>n
 | k::ks,n=>c0v ks (n*k)
def b9x (sh:List Int):Er:=if 4 < sh.length then .s 2 else if sh.all c1x=true then (if 16384 < c0v sh 1 then .s 2 else .nil) else .s 3
def e68 (sh:List Int):Bool:=decide (sh.length<=4)&&sh.all c1x&&decide (c0v sh 1<=16384)
def b17 (sh:List Int):Int:=if e68 sh=true then c0v sh 1 else 0
theorem b71:∀ {ks:List Int} {n:Int},ks.all c1x=true->0<=n->n<=c0v ks n
 | [],n,_,_=>Int.le_refl _
 | k::ks,n,h,hn=>by
  simp only [List.all_cons,Bool.and_eq_true] at h
  obtain ⟨ha,hb⟩:=h
  simp only [c1x,decide_eq_true_eq] at ha
  have h1:n*1<=n*k:=Int.mul_le_mul_of_nonneg_left ha.1 hn
  exact Int.le_trans (b:=n*k) (by omega) (b71 (ks:=ks) (n:=n*k) hb (by omega))
@[go_sem] theorem c7m {bk:Nat->Nat×Nat} (e:Er):noRef (a47 bk e)=true:=(b9y e).1
@[go_sem] theorem c7l {bk:Nat->Nat×Nat} (e:Er):a0i (a47 bk e)=true:=(b9y e).2
section
variable {G:GG} {bk:Nat->Nat×Nat} {Q:Exit->St->Prop} {st:St}
def b4h (sh:List Int) (w:Bool):Int:=if w=true then 4*b17 sh else b17 sh
theorem b8f (sh:List Int):0<=b17 sh/\b17 sh<=16384:=by
 unfold b17
 split
 ·rename_i h
  simp only [e68,Bool.and_eq_true,decide_eq_true_eq] at h
  have:=b71 (n:=1) h.1.2 (by omega)
  omega
 ·omega
def e3z (n:Int) (w:Bool):Bool:=if w=true then decide (-2147483648<=n/\n<=2147483647) else decide (-128<=n/\n<=127)
def b7p (w:Bool):List Int->Nat->Option Nat
 | [],_=>none
 | n::ns,i=>if e3z n w=true then b7p w ns (i+1) else some i
def d5a:Option Nat->Er
 | none=> .nil
 | some i=> .at i (.s 3)
def d63 (sh:List Int) (w:Bool) (data:List Int):Er:=if e68 sh=true then (if (data.length:Int)=b17 sh then d5a (b7p w data 0) else .s 6) else b9x sh
abbrev e1t (sh:List Int) (w:Bool) (data:List Int):AV:= .agg [slI sh,lb w,slI data]
end
@[go_sem] theorem c0p (xs:List Int):a01 (xs.map lu)=true:=a9f fun x=>by simp only [a0v]
@[go_sem] theorem d4q (xs:List Int):a0j (xs.map lu)=true:=a9h fun x=>by simp only [a0i]
@[go_sem] theorem d6y {α:Type} {f:α->AV} {xs:List α} {a:AV}:List.take (xs.length+1) (xs.map f++[a])=xs.map f++[a]:=List.take_of_length_le (by simp)
@[go_sem] theorem d6z {α:Type} {f:α->AV} {xs:List α} {a b:AV}:List.take (xs.length+2) (xs.map f++[a,b])=xs.map f++[a,b]:=List.take_of_length_le (by simp)
def b5p (w:Bool) (n:Int):List Int:=if w=true then [u8 n,u8 (n.fdiv 256),u8 (n.fdiv 65536),u8 (n.fdiv 16777216)] else [u8 n]
def le2 (k:Int):List Int:=[u8 k,u8 (k.fdiv 256)]
section
variable {G:GG} {bk:Nat->Nat×Nat} {Q:Exit->St->Prop} {st:St}
end
structure Gr where
 nodes:List Nd
 out:Int
def c4z (n:Nd):List AV:=[li n.op,owI n.ins,owI n.args,owI n.shape,lb n.wide,owI n.data]
@[go_sem] theorem d8e {xs:List Nd}:(fm c4z xs).length=xs.length*6:=a4s fun _=>rfl
@[go_sem] theorem d1p {xs:List Nd}:(fm c4z xs).take (xs.length*6)=fm c4z xs:=a2o fun _=>rfl
@[go_sem] theorem d8d {xs:List Nd}:a1b (fm c4z xs)=fm b18 xs:=by
 rw [a60]
 congr 1
 funext n
 simp [c4z,b18,go_sem]
@[go_sem] theorem c7n {xs:List Nd}:a01 (fm c4z xs)=true:=a8n fun n=>by simp [c4z,go_sem]
theorem a8r (xs:List Int):a0v (owI xs)=true:=by simp only [a0v]; exact a66 xs
section
variable {G:GG} {bk:Nat->Nat×Nat} {Q:Exit->St->Prop} {st:St}
theorem b7f (sh:List Int) (w:Bool) (hlen:sh.length < 2 ^ 62):ACalls pg G a89 [.agg [slI sh,lb w]] (lb (decide (sh.length<=8))):=by
 refine a7r rfl ?_
 by_cases h:sh.length<=8
 ·have h':(sh.length:Int)<=8:=by omega
  simp (disch:=omega) [go_sem,a3q,h,h']
 ·have h':¬ (sh.length:Int)<=8:=by omega
  simp (disch:=omega) [go_sem,a3q,h,h']
theorem c6e (sh:List Int) (w:Bool) (data:List Int) (m:Nat) (hlen:sh.length < 2 ^ 62):ACalls pg G a72 [e1t sh w data,li m] (lb (decide (sh.length<=8)&&decide (data.length<=m))):=by
 refine a6w rfl ?_
 simp (disch:=omega) [go_sem,a4y]
 refine a0p (b7f sh w hlen) rfl rfl ?_
 by_cases h:sh.length<=8
 ·by_cases h2:data.length<=m
  ·have h2':(data.length:Int)<=m:=by omega
   simp (disch:=omega) [go_sem,h,h2,h2']
  ·have h2':¬ (data.length:Int)<=m:=by omega
   simp (disch:=omega) [go_sem,h,h2,h2']
 ·simp (disch:=omega) [go_sem,h]
structure Nd.fin (n:Nd):Prop where
 ins:n.ins.length < 2 ^ 62
 args:n.args.length < 2 ^ 62
 shape:n.shape.length < 2 ^ 62
 data:n.data.length < 2 ^ 62
structure Nd.sh (n:Nd):Prop where
 ins:n.ins.length < 2 ^ 36
 args:n.args.length < 2 ^ 36
 shape:n.shape.length < 2 ^ 36
 data:n.data.length < 2 ^ 36
theorem b69 (sh:List Int) (w:Bool) (hlen:sh.length < 2 ^ 62):ACalls pg G a4q [.agg [slI sh,lb w],.agg [slI sh,lb w]] (lb true):=by
 refine a6r rfl ?_
 simp (disch:=omega) [go_sem,a4u]
 refine a0p (a7k hlen) rfl rfl ?_
 simp (disch:=omega) [go_sem]
theorem c25 (sh:List Int) (w:Bool) (data:List Int) (hlen:sh.length < 2 ^ 62) (hl:data.length < 2 ^ 62):ACalls pg G a3y [e1t sh w data,e1t sh w data] (lb true):=by
 refine a5u rfl ?_
 simp (disch:=omega) [go_sem,a32]
 refine a0p (b69 sh w hlen) rfl rfl ?_
 simp (disch:=omega) [go_sem]
 refine a0p (a7k hl) rfl rfl ?_
 simp (disch:=omega) [go_sem]
end
def e0h (a:Int):Bool:= !decide (-2147483648<=a/\a<=2147483647)
section
variable {G:GG} {bk:Nat->Nat×Nat} {Q:Exit->St->Prop} {st:St}
theorem c45 (n:Int):ACalls pg G b5s [li n] (lb (decide (-2147483648<=n/\n<=2147483647))):=by
 refine b1u rfl ?_
 by_cases h1: -2147483648<=n<;>by_cases h2:n<=2147483647<;>simp (disch:=omega) [go_sem,b0y,h1,h2]
theorem b3k (xs:List Int) (n:Int) (h:xs.length < 2 ^ 40):ACallsX pg G a7p [.var [owU xs],li n] (.tup []) [(0,.var [owU (xs++b5p true n)])]:=by
 refine a5x (pins:=[0]) (by kernel_rfl) rfl rfl rfl rfl ?_
 simp (disch:=omega) [go_sem,a4i,b5p]
end
theorem c5p (b:List Int):(a0v (AV.tup [])&&[((0:Nat),AV.var [owU b])].all fun p=>a0v p.2)=true:=by simp [a0v,a01,c0p]
structure Nd.good (n:Nd):Prop where
 ins:n.ins.length<=8
 args:n.args.length<=8
 tens:n.op=2->d63 n.shape n.wide n.data= .nil
section
variable {G:GG} {bk:Nat->Nat×Nat} {Q:Exit->St->Prop} {st:St}
end
end Go.Ideal.Tryd
end
section
namespace Go.Ideal
theorem b28 {α:Type} {f:α->List AV} {k:Nat} {xs:List α} (hf:∀ x,(f x).length=k) {i j:Nat} (h:i < xs.length) (hj:j < k):(fm f xs)[i*k+j]? =(f xs[i])[j]? :=by
 have h1:=b0h (f:=f) (k:=k) hf h
 rw [<-h1,List.getElem?_take,if_pos hj,List.getElem?_drop]
theorem c3o {α:Type} {f:α->List AV} {k:Nat} {xs:List α} (hf:∀ x,(f x).length=k) {i j m:Nat} (h:i < xs.length) (hj:j+m<=k):((fm f xs).drop (i*k+j)).take m=((f xs[i]).drop j).take m:=by
 have h1:=b0h (f:=f) (k:=k) hf h
 rw [<-h1,List.drop_take,List.take_take,List.drop_drop,Nat.min_eq_left (by omega)]
namespace Tryd
section
variable {xs:List Nd} {i:Nat}
@[go_sem] theorem e9c (h:i < xs.length):(fm b18 xs)[i*6]? =some (li xs[i].op):=b28 (f:=b18) (k:=6) (j:=0) (fun _=>rfl) h (by omega)
@[go_sem] theorem e9d (h:i < xs.length):(fm b18 xs)[i*6+1]? =some (slI xs[i].ins):=b28 (f:=b18) (k:=6) (fun _=>rfl) h (by omega)
@[go_sem] theorem e9e (h:i < xs.length):(fm b18 xs)[i*6+2]? =some (slI xs[i].args):=b28 (f:=b18) (k:=6) (fun _=>rfl) h (by omega)
@[go_sem] theorem e9f (h:i < xs.length):((fm b18 xs).drop (i*6+3)).take 3=[slI xs[i].shape,lb xs[i].wide,slI xs[i].data]:=c3o (f:=b18) (k:=6) (fun _=>rfl) h (by omega)
end
section
variable {G:GG} {bk:Nat->Nat×Nat} {Q:Exit->St->Prop} {st:St}
end
end Tryd
end Go.Ideal
end
section
namespace Go.Ideal.Tryd
def Er.isNil:Er->Bool
 | .nil=>true
 | _=>false
section
variable {G:GG} {bk:Nat->Nat×Nat} {Q:Exit->St->Prop} {st:St}
end
def a5c:IC:=(.seq (.reg [oo 0 (.asg (.c (.bool false)))]) (.seq (.reg [oo 4 (.build 27 [.lit (.int .i64 0),.sl 0 [],.sl 0 [],.sl 0 [],.sl 0 [],.lit (.int .i64 0),.lit (.int .i64 0)] []),
 oc 5 23 [(false,(.t 4))] [27],
 oo 3 (.mva (.t 5)),
 oo 6 (.ext (.t 3) 0),
 oo 7 (.ext (.t 3) 1),
 oo 1 (.asg (.t 6)),
 oo 2 (.asg (.t 7))]) (.seq (.reg [om 8 2,
 oo 9 (.bin .eql 53 2 (.t 8) (.c .nilIface) 53),
 om 10 9,
 og 11 (.mv (.t 1)) 2 10 true,
 og 12 (.len 69 false (.t 11)) 2 10 true,
 og 13 (.bin .eql 3 0 (.t 12) (.n 22) 3) 2 10 true,
 oo 14 (.pick (.t 10) (.t 13) (.c (.bool false))),
 oo 0 (.asg (.t 14))]) .ret)))
abbrev a8f:Nat:=8
theorem a64:fnC pg 8 15 [(.tmp 0)] a5c:=a1k Go.Proofs.Tryd.f8 [(.tmp 0)] (by kernel_rfl)
@[go_sem] theorem b5o:fnB pg 8=true:=by kernel_rfl
@[go_sem] def lodgeworld_Plan_r3:List AO:=[oo 3 (.asg (.n 0))]
def a1p:IC:=(.seq (.seq (.reg [om 28 3,
 oo 29 (.faddr 27 1 (.t 1) 1),
 oo 30 (.load 22 none (.t 29)),
 oo 31 (.len 22 false (.t 30)),
 oo 32 (.bin .lss 3 0 (.t 28) (.t 31) 3)]) (.cond (.t 32) .skip (.exit 0))) (.seq (.block 1 (.seq (.reg [oo 35 (.faddr 27 1 (.t 1) 1),
 oo 36 (.load 22 none (.t 35)),
 om 37 3,
 oo 38 (.iaddr 22 3 (.t 36) (.t 37)),
 oo 39 (.faddr 41 1 (.t 38) 1),
 oo 40 (.load 39 (some 2) (.t 39)),
 oc 41 25 [(false,(.t 40))] [39],
 oo 42 (.un .not 4 (.t 41))]) (.cond (.t 42) (.seq (.reg [oo 2 (.asg (.c (.bool false)))]) .ret) .skip))) (.reg [om 33 3,
 oo 34 (.bin .add 3 0 (.t 33) (.n 1) 3),
 oo 3 (.asg (.t 34))])))
@[go_sem] def lodgeworld_Plan_r8:List AO:=[oo 4 (.asg (.n 0))]
def a1q:IC:=(.seq (.seq (.reg [om 43 4,
 oo 44 (.faddr 27 3 (.t 1) 3),
 oo 45 (.load 24 none (.t 44)),
 oo 46 (.len 24 false (.t 45)),
 oo 47 (.bin .lss 3 0 (.t 43) (.t 46) 3)]) (.cond (.t 47) .skip (.exit 2))) (.seq (.block 3 (.seq (.reg [oo 50 (.faddr 27 3 (.t 1) 3),
 oo 51 (.load 24 none (.t 50)),
 om 52 4,
 oo 53 (.iaddr 24 2 (.t 51) (.t 52)),
 oo 54 (.load 39 (some 2) (.t 53)),
 oc 55 25 [(false,(.t 54))] [39],
 oo 56 (.un .not 4 (.t 55))]) (.cond (.t 56) (.seq (.reg [oo 2 (.asg (.c (.bool false)))]) .ret) .skip))) (.reg [om 48 4,
 oo 49 (.bin .add 3 0 (.t 48) (.n 1) 3),
 oo 4 (.asg (.t 49))])))
@[go_sem] def lodgeworld_Plan_r13:List AO:=[oo 5 (.asg (.n 0))]
def a05:IC:=(.seq (.seq (.reg [om 57 5,
 oo 58 (.faddr 27 4 (.t 1) 4),
 oo 59 (.load 25 none (.t 58)),
 oo 60 (.len 25 false (.t 59)),
 oo 61 (.bin .lss 3 0 (.t 57) (.t 60) 3)]) (.cond (.t 61) .skip (.exit 4))) (.seq (.block 5 (.seq (.reg [oo 64 (.faddr 27 4 (.t 1) 4),
 oo 65 (.load 25 none (.t 64)),
 om 66 5,
 oo 67 (.iaddr 25 6 (.t 65) (.t 66)),
 oo 68 (.faddr 36 2 (.t 67) 2),
 oo 69 (.load 34 none (.t 68)),
 oo 70 (.len 34 false (.t 69)),
 oo 71 (.bin .gtr 3 0 (.t 70) (.n 10) 3),
 om 72 71,
 og 73 (.faddr 27 4 (.t 1) 4) 8 72 false,
 og 74 (.load 25 none (.t 73)) 8 72 false,
 og 75 (.mv (.t 5)) 8 72 false,
 og 76 (.iaddr 25 6 (.t 74) (.t 75)) 8 72 false,
 og 77 (.faddr 36 3 (.t 76) 3) 8 72 false,
 og 78 (.load 34 none (.t 77)) 8 72 false,
 og 79 (.len 34 false (.t 78)) 8 72 false,
 og 80 (.bin .gtr 3 0 (.t 79) (.n 10) 3) 8 72 false,
 oo 81 (.pick (.t 72) (.c (.bool true)) (.t 80))]) (.cond (.t 81) (.seq (.reg [oo 2 (.asg (.c (.bool false)))]) .ret) .skip))) (.reg [om 62 5,
 oo 63 (.bin .add 3 0 (.t 62) (.n 1) 3),
 oo 5 (.asg (.t 63))])))
@[go_sem] def lodgeworld_Plan_r18:List AO:=[oo 2 (.asg (.c (.bool true)))]
def a1g:IC:=(.seq (.reg [oo 1 (.box 27 7 (.t 0)),
 oo 2 (.asg (.c (.bool false)))]) (.seq (.seq (.reg [oo 6 (.faddr 27 1 (.t 1) 1),
 oo 7 (.load 22 none (.t 6)),
 oo 8 (.len 22 false (.t 7)),
 oo 9 (.bin .gtr 3 0 (.t 8) (.n 140) 3),
 om 10 9,
 og 11 (.faddr 27 3 (.t 1) 3) 4 10 false,
 og 12 (.load 24 none (.t 11)) 4 10 false,
 og 13 (.len 24 false (.t 12)) 4 10 false,
 og 14 (.bin .gtr 3 0 (.t 13) (.n 10) 3) 4 10 false,
 oo 15 (.pick (.t 10) (.c (.bool true)) (.t 14)),
 om 16 15,
 og 17 (.faddr 27 4 (.t 1) 4) 10 16 false,
 og 18 (.load 25 none (.t 17)) 10 16 false,
 og 19 (.len 25 false (.t 18)) 10 16 false,
 og 20 (.bin .gtr 3 0 (.t 19) (.n 300) 3) 10 16 false,
 oo 21 (.pick (.t 16) (.c (.bool true)) (.t 20)),
 om 22 21,
 og 23 (.faddr 27 2 (.t 1) 2) 16 22 false,
 og 24 (.load 23 none (.t 23)) 16 22 false,
 ⟨(some 25),.call 24 [(false,(.t 24)),(false,(.n 70)),(false,(.n 300))] [23,3,3],(some (16,22,false))⟩,
 og 26 (.un .not 4 (.t 25)) 16 22 false,
 oo 27 (.pick (.t 22) (.c (.bool true)) (.t 26))]) (.cond (.t 27) (.seq (.reg [oo 2 (.asg (.c (.bool false)))]) .ret) .skip)) (.seq (.seq (.reg lodgeworld_Plan_r3) (.block 0 (.loop a1p))) (.seq (.seq (.reg lodgeworld_Plan_r8) (.block 2 (.loop a1q))) (.seq (.seq (.reg lodgeworld_Plan_r13) (.block 4 (.loop a05))) (.seq (.reg lodgeworld_Plan_r18) .ret))))))
abbrev a9a:Nat:=9
theorem a7s:fnC pg 9 82 [(.tmp 2)] a1g:=a1k Go.Proofs.Tryd.f9 [(.tmp 2)] (by kernel_rfl)
@[go_sem] theorem b6t:fnB pg 9=true:=by kernel_rfl
def a2h:IC:=(.seq (.seq (.reg [om 12 7,
 om 13 0,
 oo 14 (.len 23 false (.t 13)),
 oo 15 (.bin .lss 3 0 (.t 12) (.t 14) 3)]) (.cond (.t 15) .skip (.exit 0))) (.seq (.block 1 (.seq (.reg [om 18 0,
 om 19 7,
 oo 20 (.iaddr 23 3 (.t 18) (.t 19)),
 oo 21 (.load 44 (some 3) (.t 20)),
 om 22 2,
 oc 23 57 [(false,(.t 21)),(false,(.t 22))] [44,3],
 oo 24 (.un .not 4 (.t 23))]) (.cond (.t 24) (.seq (.reg [oo 6 (.asg (.c (.bool false)))]) .ret) .skip))) (.reg [om 16 7,
 oo 17 (.bin .add 3 0 (.t 16) (.n 1) 3),
 oo 7 (.asg (.t 17))])))
def a2q:IC:=(.seq (.reg [oo 6 (.asg (.c (.bool false)))]) (.seq (.seq (.reg [om 8 0,
 oo 9 (.len 23 false (.t 8)),
 om 10 1,
 oo 11 (.bin .gtr 3 0 (.t 9) (.t 10) 3)]) (.cond (.t 11) (.seq (.reg [oo 6 (.asg (.c (.bool false)))]) .ret) .skip)) (.seq (.seq (.reg [oo 7 (.asg (.n 0))]) (.block 0 (.loop a2h))) (.seq (.reg [oo 6 (.asg (.c (.bool true)))]) .ret))))
abbrev a7o:Nat:=24
theorem a59:fnC pg 24 25 [(.tmp 6)] a2q:=a1k Go.Proofs.Tryd.f24 [(.tmp 6)] (by kernel_rfl)
@[go_sem] theorem b32:fnB pg 24=true:=by kernel_rfl
def a41:IC:=(.seq (.reg [oo 2 (.box 27 7 (.t 0)),
 oo 3 (.box 27 7 (.t 1)),
 oo 4 (.asg (.c (.bool false)))]) (.seq (.reg [oo 5 (.asg (.f 29))]) (.seq (.reg [oo 6 (.faddr 27 0 (.t 2) 0),
 oo 7 (.load 3 none (.t 6)),
 oo 8 (.faddr 27 0 (.t 3) 0),
 oo 9 (.load 3 none (.t 8)),
 oo 10 (.bin .eql 3 0 (.t 7) (.t 9) 3),
 om 11 10,
 og 12 (.faddr 27 5 (.t 2) 5) 5 11 true,
 og 13 (.load 3 none (.t 12)) 5 11 true,
 og 14 (.faddr 27 5 (.t 3) 5) 5 11 true,
 og 15 (.load 3 none (.t 14)) 5 11 true,
 og 16 (.bin .eql 3 0 (.t 13) (.t 15) 3) 5 11 true,
 oo 17 (.pick (.t 11) (.t 16) (.c (.bool false))),
 om 18 17,
 og 19 (.faddr 27 6 (.t 2) 6) 12 18 true,
 og 20 (.load 3 none (.t 19)) 12 18 true,
 og 21 (.faddr 27 6 (.t 3) 6) 12 18 true,
 og 22 (.load 3 none (.t 21)) 12 18 true,
 og 23 (.bin .eql 3 0 (.t 20) (.t 22) 3) 12 18 true,
 oo 24 (.pick (.t 18) (.t 23) (.c (.bool false))),
 om 25 24,
 og 26 (.faddr 27 1 (.t 2) 1) 19 25 true,
 og 27 (.load 22 none (.t 26)) 19 25 true,
 og 28 (.faddr 27 1 (.t 3) 1) 19 25 true,
 og 29 (.load 22 none (.t 28)) 19 25 true,
 og 30 (.mv (.t 5)) 19 25 true,
 ⟨(some 31),.callx (.f 31) [(false,(.t 27)),(false,(.t 29))] [.p 0,.p 1,.x (.t 30)] [22,22,77],(some (19,25,true))⟩,
 oo 32 (.pick (.t 25) (.t 31) (.c (.bool false))),
 om 33 32,
 og 34 (.faddr 27 2 (.t 2) 2) 27 33 true,
 og 35 (.load 23 none (.t 34)) 27 33 true,
 og 36 (.faddr 27 2 (.t 3) 2) 27 33 true,
 og 37 (.load 23 none (.t 36)) 27 33 true,
 ⟨(some 38),.callx (.f 32) [(false,(.t 35)),(false,(.t 37))] [.p 0,.p 1,.x (.f 33)] [23,23,80],(some (27,33,true))⟩,
 oo 39 (.pick (.t 33) (.t 38) (.c (.bool false))),
 om 40 39,
 og 41 (.faddr 27 3 (.t 2) 3) 34 40 true,
 og 42 (.load 24 none (.t 41)) 34 40 true,
 og 43 (.faddr 27 3 (.t 3) 3) 34 40 true,
 og 44 (.load 24 none (.t 43)) 34 40 true,
 ⟨(some 45),.callx (.f 34) [(false,(.t 42)),(false,(.t 44))] [.p 0,.p 1,.x (.f 30)] [24,24,60],(some (34,40,true))⟩,
 oo 46 (.pick (.t 40) (.t 45) (.c (.bool false))),
 om 47 46,
 og 48 (.faddr 27 4 (.t 2) 4) 41 47 true,
 og 49 (.load 25 none (.t 48)) 41 47 true,
 og 50 (.faddr 27 4 (.t 3) 4) 41 47 true,
 og 51 (.load 25 none (.t 50)) 41 47 true,
 ⟨(some 52),.callx (.f 35) [(false,(.t 49)),(false,(.t 51))] [.p 0,.p 1,.x (.f 36)] [25,25,83],(some (41,47,true))⟩,
 oo 53 (.pick (.t 47) (.t 52) (.c (.bool false))),
 oo 4 (.asg (.t 53))]) .ret)))
abbrev b5t:Nat:=11
theorem b1v:fnC pg 11 54 [(.tmp 4)] a41:=a1k Go.Proofs.Tryd.f11 [(.tmp 4)] (by kernel_rfl)
@[go_sem] theorem c2x:fnB pg 11=true:=by kernel_rfl
def a4v:IC:=(.seq (.reg [oo 2 (.box 27 7 (.t 0)),
 oo 3 (.box 27 7 (.t 1)),
 oo 4 (.asg (.c (.bool false)))]) (.seq (.reg [oo 9 (.faddr 27 1 (.t 2) 1),
 oo 10 (.load 22 none (.t 9)),
 oo 11 (.faddr 27 1 (.t 3) 1),
 oo 12 (.load 22 none (.t 11)),
 oc 13 37 [(false,(.t 10)),(false,(.t 12))] [22,22],
 oo 5 (.asg (.t 13))]) (.seq (.reg [oo 14 (.faddr 27 2 (.t 2) 2),
 oo 15 (.load 23 none (.t 14)),
 oo 16 (.faddr 27 2 (.t 3) 2),
 oo 17 (.load 23 none (.t 16)),
 oc 18 38 [(false,(.t 15)),(false,(.t 17))] [23,23],
 oo 6 (.asg (.t 18))]) (.seq (.reg [oo 19 (.faddr 27 3 (.t 2) 3),
 oo 20 (.load 24 none (.t 19)),
 oo 21 (.faddr 27 3 (.t 3) 3),
 oo 22 (.load 24 none (.t 21)),
 oc 23 39 [(false,(.t 20)),(false,(.t 22))] [24,24],
 oo 7 (.asg (.t 23))]) (.seq (.reg [oo 24 (.faddr 27 4 (.t 2) 4),
 oo 25 (.load 25 none (.t 24)),
 oo 26 (.faddr 27 4 (.t 3) 4),
 oo 27 (.load 25 none (.t 26)),
 oc 28 40 [(false,(.t 25)),(false,(.t 27))] [25,25],
 oo 8 (.asg (.t 28))]) (.seq (.reg [om 29 5,
 om 30 29,
 og 31 (.mv (.t 6)) 1 30 true,
 oo 32 (.pick (.t 30) (.t 31) (.c (.bool false))),
 om 33 32,
 og 34 (.mv (.t 7)) 4 33 true,
 oo 35 (.pick (.t 33) (.t 34) (.c (.bool false))),
 om 36 35,
 og 37 (.mv (.t 8)) 7 36 true,
 oo 38 (.pick (.t 36) (.t 37) (.c (.bool false))),
 om 39 38,
 og 40 (.faddr 27 0 (.t 2) 0) 10 39 true,
 og 41 (.load 3 none (.t 40)) 10 39 true,
 og 42 (.faddr 27 0 (.t 3) 0) 10 39 true,
 og 43 (.load 3 none (.t 42)) 10 39 true,
 og 44 (.bin .eql 3 0 (.t 41) (.t 43) 3) 10 39 true,
 oo 45 (.pick (.t 39) (.t 44) (.c (.bool false))),
 om 46 45,
 og 47 (.faddr 27 5 (.t 2) 5) 17 46 true,
 og 48 (.load 3 none (.t 47)) 17 46 true,
 og 49 (.faddr 27 5 (.t 3) 5) 17 46 true,
 og 50 (.load 3 none (.t 49)) 17 46 true,
 og 51 (.bin .eql 3 0 (.t 48) (.t 50) 3) 17 46 true,
 oo 52 (.pick (.t 46) (.t 51) (.c (.bool false))),
 om 53 52,
 og 54 (.faddr 27 6 (.t 2) 6) 24 53 true,
 og 55 (.load 3 none (.t 54)) 24 53 true,
 og 56 (.faddr 27 6 (.t 3) 6) 24 53 true,
 og 57 (.load 3 none (.t 56)) 24 53 true,
 og 58 (.bin .eql 3 0 (.t 55) (.t 57) 3) 24 53 true,
 oo 59 (.pick (.t 53) (.t 58) (.c (.bool false))),
 oo 4 (.asg (.t 59))]) .ret))))))
abbrev a7z:Nat:=12
theorem a6t:fnC pg 12 60 [(.tmp 4)] a4v:=a1k Go.Proofs.Tryd.f12 [(.tmp 4)] (by kernel_rfl)
@[go_sem] theorem b4w:fnB pg 12=true:=by kernel_rfl
def a85:IC:=(.seq (.reg [oo 1 (.box 39 2 (.t 0)),
 oo 2 (.alloc 39 [.own 1 0 [],.lit (.bool false)])]) (.seq (.draw [oo 3 (.faddr 39 0 (.t 1) 0),
 oo 4 (.load 34 none (.t 3)),
 oc 5 28 [(false,(.t 4))] [34],
 oo 6 (.faddr 39 1 (.t 1) 1),
 oo 7 (.load 4 none (.t 6)),
 oo 8 (.build 39 [.own 1 0 [],.lit (.bool false)] [(0,0,1,(.t 5)),(1,1,1,(.t 7))]),
 ov (.store 39 2 (.t 2) (.t 8))] [[],[0],[1],[],[3],[2,4],[5,2,0,1,2,3,4,5]]) .ret))
abbrev b2t:Nat:=26
theorem a95:fnC pg 26 9 [(.cells 2 2)] a85:=a1k Go.Proofs.Tryd.f26 [(.cell 2 39)] (by kernel_rfl)
@[go_sem] theorem c04:fnB pg 26=true:=by kernel_rfl
def a9y:IC:=(.seq (.reg [oo 1 (.box 44 3 (.t 0)),
 oo 2 (.alloc 44 [.own 1 0 [],.lit (.bool false),.own 1 0 []])]) (.seq (.draw [oo 3 (.faddr 44 0 (.t 1) 0),
 oo 4 (.load 39 (some 2) (.t 3)),
 oc 5 26 [(false,(.t 4))] [39],
 oo 6 (.faddr 44 2 (.t 1) 1),
 oo 7 (.load 34 none (.t 6)),
 oc 8 28 [(false,(.t 7))] [34],
 oo 9 (.build 44 [.own 1 0 [],.lit (.bool false),.own 1 0 []] [(0,0,2,(.t 5)),(1,2,1,(.t 8))]),
 ov (.store 44 3 (.t 2) (.t 9))] [[],[0],[1],[],[3],[4,2],[2,5],[6,5,0,1,2,3,4,5,6]]) .ret))
abbrev b38:Nat:=27
theorem b1c:fnC pg 27 10 [(.cells 2 3)] a9y:=a1k Go.Proofs.Tryd.f27 [(.cell 2 44)] (by kernel_rfl)
@[go_sem] theorem c1m:fnB pg 27=true:=by kernel_rfl
def a5f:IC:=(.seq (.reg [oo 2 (.asg (.nl 1))]) (.seq (.seq (.reg [om 3 0,
 ⟨(some 4),.nilq 34 (.t 3) 34,none⟩]) (.cond (.t 4) (.seq (.reg [oo 2 (.asg (.nl 1))]) .ret) .skip)) (.seq (.reg [oo 5 (.bslice 34 3 1 0 [.lit (.int .i64 0)] []),
 om 6 0,
 oo 7 (.app 34 3 1 8 (.t 5) (.t 6)),
 oo 2 (.asg (.t 7))]) .ret)))
abbrev a8h:Nat:=28
theorem a7e:fnC pg 28 8 [(.tmp 2)] a5f:=a1k Go.Proofs.Tryd.f28 [(.tmp 2)] (by kernel_rfl)
@[go_sem] theorem b5q:fnB pg 28=true:=by kernel_rfl
def a6g:IC:=(.seq (.reg [oo 2 (.box 41 3 (.t 0)),
 oo 3 (.box 41 3 (.t 1)),
 oo 4 (.asg (.c (.bool false)))]) (.seq (.reg [oo 5 (.faddr 41 0 (.t 2) 0),
 oo 6 (.load 3 none (.t 5)),
 oo 7 (.faddr 41 0 (.t 3) 0),
 oo 8 (.load 3 none (.t 7)),
 oo 9 (.bin .eql 3 0 (.t 6) (.t 8) 3),
 om 10 9,
 og 11 (.faddr 41 1 (.t 2) 1) 5 10 true,
 og 12 (.load 39 (some 2) (.t 11)) 5 10 true,
 og 13 (.faddr 41 1 (.t 3) 1) 5 10 true,
 og 14 (.load 39 (some 2) (.t 13)) 5 10 true,
 ⟨(some 15),.call 30 [(false,(.t 12)),(false,(.t 14))] [39,39],(some (5,10,true))⟩,
 oo 16 (.pick (.t 10) (.t 15) (.c (.bool false))),
 oo 4 (.asg (.t 16))]) .ret))
theorem a93:fnC pg 29 17 [(.tmp 4)] a6g:=a1k Go.Proofs.Tryd.f29 [(.tmp 4)] (by kernel_rfl)
@[go_sem] theorem b0z:fnB pg 29=true:=by kernel_rfl
def a7d:IC:=(.seq (.reg [oo 2 (.box 39 2 (.t 0)),
 oo 3 (.box 39 2 (.t 1)),
 oo 4 (.asg (.c (.bool false)))]) (.seq (.reg [oo 5 (.faddr 39 1 (.t 2) 1),
 oo 6 (.load 4 none (.t 5)),
 oo 7 (.faddr 39 1 (.t 3) 1),
 oo 8 (.load 4 none (.t 7)),
 oo 9 (.bin .eql 4 1 (.t 6) (.t 8) 4),
 om 10 9,
 og 11 (.faddr 39 0 (.t 2) 0) 5 10 true,
 og 12 (.load 34 none (.t 11)) 5 10 true,
 og 13 (.faddr 39 0 (.t 3) 0) 5 10 true,
 og 14 (.load 34 none (.t 13)) 5 10 true,
 ⟨(some 15),.call 58 [(false,(.t 12)),(false,(.t 14))] [34,34],(some (5,10,true))⟩,
 oo 16 (.pick (.t 10) (.t 15) (.c (.bool false))),
 oo 4 (.asg (.t 16))]) .ret))
abbrev b37:Nat:=30
theorem b06:fnC pg 30 17 [(.tmp 4)] a7d:=a1k Go.Proofs.Tryd.f30 [(.tmp 4)] (by kernel_rfl)
@[go_sem] theorem b1y:fnB pg 30=true:=by kernel_rfl
def a1w:IC:=(.seq (.reg [oo 18 (.bin .lss 3 0 (.t 17) (.t 16) 3)]) (.seq (.cond (.t 18) .skip (.exit 0)) (.seq (.block 1 (.seq (.reg [om 19 17,
 oo 20 (.iaddr 22 3 (.t 15) (.t 17)),
 oo 21 (.load 41 (some 3) (.t 20)),
 oo 8 (.alloc 41 [.lit (.int .i64 0),.own 1 0 [],.lit (.bool false)]),
 oo 7 (.asg (.t 19)),
 ov (.store 41 3 (.t 8) (.t 21))]) (.seq (.reg [om 22 1,
 om 23 7,
 oo 24 (.iaddr 22 3 (.t 22) (.t 23)),
 oo 25 (.load 41 (some 3) (.t 24)),
 oo 9 (.alloc 41 [.lit (.int .i64 0),.own 1 0 [],.lit (.bool false)]),
 ov (.store 41 3 (.t 9) (.t 25))]) (.seq (.reg [om 26 2,
 oo 27 (.load 41 (some 3) (.t 8)),
 oo 28 (.load 41 (some 3) (.t 9)),
 ⟨(some 29),.callx (.t 26) [(false,(.t 27)),(false,(.t 28))] [.p 0,.p 1] [41,41],none⟩,
 oo 30 (.un .not 4 (.t 29))]) (.cond (.t 30) (.seq (.reg [oo 6 (.asg (.c (.bool false)))]) .ret) .skip))))) (.reg [oo 31 (.bin .add 3 0 (.t 17) (.n 1) 3),
 om 17 31]))))
def a12:IC:=(.seq (.reg [oo 6 (.asg (.c (.bool false)))]) (.seq (.seq (.reg [om 10 0,
 oo 11 (.len 22 false (.t 10)),
 om 12 1,
 oo 13 (.len 22 false (.t 12)),
 oo 14 (.bin .neq 3 0 (.t 11) (.t 13) 3)]) (.cond (.t 14) (.seq (.reg [oo 6 (.asg (.c (.bool false)))]) .ret) .skip)) (.seq (.seq (.reg [om 15 0,
 oo 16 (.len 22 false (.t 15)),
 oo 17 (.mv (.n 0))]) (.block 0 (.loop a1w))) (.seq (.reg [oo 6 (.asg (.c (.bool true)))]) .ret))))
abbrev a52:Nat:=31
@[go_sem] theorem b10:fnB pg 31=true:=by kernel_rfl
theorem a44:fnX pg 31 32 [(.tmp 6)] [(.tmp 6)] a12:=a6o Go.Proofs.Tryd.f31 (by kernel_rfl)
def a1m:IC:=(.seq (.reg [oo 18 (.bin .lss 3 0 (.t 17) (.t 16) 3)]) (.seq (.cond (.t 18) .skip (.exit 0)) (.seq (.block 1 (.seq (.reg [om 19 17,
 oo 20 (.iaddr 23 3 (.t 15) (.t 17)),
 oo 21 (.load 44 (some 3) (.t 20)),
 oo 8 (.alloc 44 [.own 1 0 [],.lit (.bool false),.own 1 0 []]),
 oo 7 (.asg (.t 19)),
 ov (.store 44 3 (.t 8) (.t 21))]) (.seq (.reg [om 22 1,
 om 23 7,
 oo 24 (.iaddr 23 3 (.t 22) (.t 23)),
 oo 25 (.load 44 (some 3) (.t 24)),
 oo 9 (.alloc 44 [.own 1 0 [],.lit (.bool false),.own 1 0 []]),
 ov (.store 44 3 (.t 9) (.t 25))]) (.seq (.reg [om 26 2,
 oo 27 (.load 44 (some 3) (.t 8)),
 oo 28 (.load 44 (some 3) (.t 9)),
 ⟨(some 29),.callx (.t 26) [(false,(.t 27)),(false,(.t 28))] [.p 0,.p 1] [44,44],none⟩,
 oo 30 (.un .not 4 (.t 29))]) (.cond (.t 30) (.seq (.reg [oo 6 (.asg (.c (.bool false)))]) .ret) .skip))))) (.reg [oo 31 (.bin .add 3 0 (.t 17) (.n 1) 3),
 om 17 31]))))
def a1t:IC:=(.seq (.reg [oo 6 (.asg (.c (.bool false)))]) (.seq (.seq (.reg [om 10 0,
 oo 11 (.len 23 false (.t 10)),
 om 12 1,
 oo 13 (.len 23 false (.t 12)),
 oo 14 (.bin .neq 3 0 (.t 11) (.t 13) 3)]) (.cond (.t 14) (.seq (.reg [oo 6 (.asg (.c (.bool false)))]) .ret) .skip)) (.seq (.seq (.reg [om 15 0,
 oo 16 (.len 23 false (.t 15)),
 oo 17 (.mv (.n 0))]) (.block 0 (.loop a1m))) (.seq (.reg [oo 6 (.asg (.c (.bool true)))]) .ret))))
abbrev a5h:Nat:=32
@[go_sem] theorem b08:fnB pg 32=true:=by kernel_rfl
theorem a4b:fnX pg 32 32 [(.tmp 6)] [(.tmp 6)] a1t:=a6o Go.Proofs.Tryd.f32 (by kernel_rfl)
def b1d:IC:=(.seq (.reg [oo 2 (.box 44 3 (.t 0)),
 oo 3 (.box 44 3 (.t 1)),
 oo 4 (.asg (.c (.bool false)))]) (.seq (.reg [oo 5 (.faddr 44 0 (.t 2) 0),
 oo 6 (.load 39 (some 2) (.t 5)),
 oo 7 (.faddr 44 0 (.t 3) 0),
 oo 8 (.load 39 (some 2) (.t 7)),
 oc 9 30 [(false,(.t 6)),(false,(.t 8))] [39,39],
 om 10 9,
 og 11 (.faddr 44 2 (.t 2) 1) 5 10 true,
 og 12 (.load 34 none (.t 11)) 5 10 true,
 og 13 (.faddr 44 2 (.t 3) 1) 5 10 true,
 og 14 (.load 34 none (.t 13)) 5 10 true,
 ⟨(some 15),.call 58 [(false,(.t 12)),(false,(.t 14))] [34,34],(some (5,10,true))⟩,
 oo 16 (.pick (.t 10) (.t 15) (.c (.bool false))),
 oo 4 (.asg (.t 16))]) .ret))
abbrev b5v:Nat:=33
theorem b12:fnC pg 33 17 [(.tmp 4)] b1d:=a1k Go.Proofs.Tryd.f33 [(.tmp 4)] (by kernel_rfl)
@[go_sem] theorem b3u:fnB pg 33=true:=by kernel_rfl
def a1u:IC:=(.seq (.reg [oo 18 (.bin .lss 3 0 (.t 17) (.t 16) 3)]) (.seq (.cond (.t 18) .skip (.exit 0)) (.seq (.block 1 (.seq (.reg [om 19 17,
 oo 20 (.iaddr 24 2 (.t 15) (.t 17)),
 oo 21 (.load 39 (some 2) (.t 20)),
 oo 8 (.alloc 39 [.own 1 0 [],.lit (.bool false)]),
 oo 7 (.asg (.t 19)),
 ov (.store 39 2 (.t 8) (.t 21))]) (.seq (.reg [om 22 1,
 om 23 7,
 oo 24 (.iaddr 24 2 (.t 22) (.t 23)),
 oo 25 (.load 39 (some 2) (.t 24)),
 oo 9 (.alloc 39 [.own 1 0 [],.lit (.bool false)]),
 ov (.store 39 2 (.t 9) (.t 25))]) (.seq (.reg [om 26 2,
 oo 27 (.load 39 (some 2) (.t 8)),
 oo 28 (.load 39 (some 2) (.t 9)),
 ⟨(some 29),.callx (.t 26) [(false,(.t 27)),(false,(.t 28))] [.p 0,.p 1] [39,39],none⟩,
 oo 30 (.un .not 4 (.t 29))]) (.cond (.t 30) (.seq (.reg [oo 6 (.asg (.c (.bool false)))]) .ret) .skip))))) (.reg [oo 31 (.bin .add 3 0 (.t 17) (.n 1) 3),
 om 17 31]))))
def a11:IC:=(.seq (.reg [oo 6 (.asg (.c (.bool false)))]) (.seq (.seq (.reg [om 10 0,
 oo 11 (.len 24 false (.t 10)),
 om 12 1,
 oo 13 (.len 24 false (.t 12)),
 oo 14 (.bin .neq 3 0 (.t 11) (.t 13) 3)]) (.cond (.t 14) (.seq (.reg [oo 6 (.asg (.c (.bool false)))]) .ret) .skip)) (.seq (.seq (.reg [om 15 0,
 oo 16 (.len 24 false (.t 15)),
 oo 17 (.mv (.n 0))]) (.block 0 (.loop a1u))) (.seq (.reg [oo 6 (.asg (.c (.bool true)))]) .ret))))
abbrev a51:Nat:=34
@[go_sem] theorem b1z:fnB pg 34=true:=by kernel_rfl
theorem a43:fnX pg 34 32 [(.tmp 6)] [(.tmp 6)] a11:=a6o Go.Proofs.Tryd.f34 (by kernel_rfl)
def a1s:IC:=(.seq (.reg [oo 18 (.bin .lss 3 0 (.t 17) (.t 16) 3)]) (.seq (.cond (.t 18) .skip (.exit 0)) (.seq (.block 1 (.seq (.reg [om 19 17,
 oo 20 (.iaddr 25 6 (.t 15) (.t 17)),
 oo 21 (.load 36 (some 6) (.t 20)),
 oo 8 (.alloc 36 [.lit (.int .i64 0),.lit (.int .i64 0),.own 1 0 [],.own 1 0 [],.lit (.int .i64 0),.lit (.int .i64 0)]),
 oo 7 (.asg (.t 19)),
 ov (.store 36 6 (.t 8) (.t 21))]) (.seq (.reg [om 22 1,
 om 23 7,
 oo 24 (.iaddr 25 6 (.t 22) (.t 23)),
 oo 25 (.load 36 (some 6) (.t 24)),
 oo 9 (.alloc 36 [.lit (.int .i64 0),.lit (.int .i64 0),.own 1 0 [],.own 1 0 [],.lit (.int .i64 0),.lit (.int .i64 0)]),
 ov (.store 36 6 (.t 9) (.t 25))]) (.seq (.reg [om 26 2,
 oo 27 (.load 36 (some 6) (.t 8)),
 oo 28 (.load 36 (some 6) (.t 9)),
 ⟨(some 29),.callx (.t 26) [(false,(.t 27)),(false,(.t 28))] [.p 0,.p 1] [36,36],none⟩,
 oo 30 (.un .not 4 (.t 29))]) (.cond (.t 30) (.seq (.reg [oo 6 (.asg (.c (.bool false)))]) .ret) .skip))))) (.reg [oo 31 (.bin .add 3 0 (.t 17) (.n 1) 3),
 om 17 31]))))
def a1v:IC:=(.seq (.reg [oo 6 (.asg (.c (.bool false)))]) (.seq (.seq (.reg [om 10 0,
 oo 11 (.len 25 false (.t 10)),
 om 12 1,
 oo 13 (.len 25 false (.t 12)),
 oo 14 (.bin .neq 3 0 (.t 11) (.t 13) 3)]) (.cond (.t 14) (.seq (.reg [oo 6 (.asg (.c (.bool false)))]) .ret) .skip)) (.seq (.seq (.reg [om 15 0,
 oo 16 (.len 25 false (.t 15)),
 oo 17 (.mv (.n 0))]) (.block 0 (.loop a1s))) (.seq (.reg [oo 6 (.asg (.c (.bool true)))]) .ret))))
abbrev a5n:Nat:=35
@[go_sem] theorem b1m:fnB pg 35=true:=by kernel_rfl
theorem a4k:fnX pg 35 32 [(.tmp 6)] [(.tmp 6)] a1v:=a6o Go.Proofs.Tryd.f35 (by kernel_rfl)
def a20:IC:=(.seq (.reg [oo 2 (.box 36 6 (.t 0)),
 oo 3 (.box 36 6 (.t 1)),
 oo 4 (.asg (.c (.bool false)))]) (.seq (.reg [oo 5 (.faddr 36 0 (.t 2) 0),
 oo 6 (.load 3 none (.t 5)),
 oo 7 (.faddr 36 0 (.t 3) 0),
 oo 8 (.load 3 none (.t 7)),
 oo 9 (.bin .eql 3 0 (.t 6) (.t 8) 3),
 om 10 9,
 og 11 (.faddr 36 1 (.t 2) 1) 5 10 true,
 og 12 (.load 3 none (.t 11)) 5 10 true,
 og 13 (.faddr 36 1 (.t 3) 1) 5 10 true,
 og 14 (.load 3 none (.t 13)) 5 10 true,
 og 15 (.bin .eql 3 0 (.t 12) (.t 14) 3) 5 10 true,
 oo 16 (.pick (.t 10) (.t 15) (.c (.bool false))),
 om 17 16,
 og 18 (.faddr 36 2 (.t 2) 2) 12 17 true,
 og 19 (.load 34 none (.t 18)) 12 17 true,
 og 20 (.faddr 36 2 (.t 3) 2) 12 17 true,
 og 21 (.load 34 none (.t 20)) 12 17 true,
 ⟨(some 22),.call 58 [(false,(.t 19)),(false,(.t 21))] [34,34],(some (12,17,true))⟩,
 oo 23 (.pick (.t 17) (.t 22) (.c (.bool false))),
 om 24 23,
 og 25 (.faddr 36 3 (.t 2) 3) 19 24 true,
 og 26 (.load 34 none (.t 25)) 19 24 true,
 og 27 (.faddr 36 3 (.t 3) 3) 19 24 true,
 og 28 (.load 34 none (.t 27)) 19 24 true,
 ⟨(some 29),.call 58 [(false,(.t 26)),(false,(.t 28))] [34,34],(some (19,24,true))⟩,
 oo 30 (.pick (.t 24) (.t 29) (.c (.bool false))),
 om 31 30,
 og 32 (.faddr 36 4 (.t 2) 4) 26 31 true,
 og 33 (.load 3 none (.t 32)) 26 31 true,
 og 34 (.faddr 36 4 (.t 3) 4) 26 31 true,
 og 35 (.load 3 none (.t 34)) 26 31 true,
 og 36 (.bin .eql 3 0 (.t 33) (.t 35) 3) 26 31 true,
 oo 37 (.pick (.t 31) (.t 36) (.c (.bool false))),
 om 38 37,
 og 39 (.faddr 36 5 (.t 2) 5) 33 38 true,
 og 40 (.load 3 none (.t 39)) 33 38 true,
 og 41 (.faddr 36 5 (.t 3) 5) 33 38 true,
 og 42 (.load 3 none (.t 41)) 33 38 true,
 og 43 (.bin .eql 3 0 (.t 40) (.t 42) 3) 33 38 true,
 oo 44 (.pick (.t 38) (.t 43) (.c (.bool false))),
 oo 4 (.asg (.t 44))]) .ret))
abbrev a90:Nat:=36
theorem a8c:fnC pg 36 45 [(.tmp 4)] a20:=a1k Go.Proofs.Tryd.f36 [(.tmp 4)] (by kernel_rfl)
@[go_sem] theorem a8w:fnB pg 36=true:=by kernel_rfl
def a2g:IC:=(.seq (.seq (.reg [om 12 5,
 om 13 0,
 oo 14 (.len 22 false (.t 13)),
 oo 15 (.bin .lss 3 0 (.t 12) (.t 14) 3)]) (.cond (.t 15) .skip (.exit 0))) (.seq (.block 1 (.seq (.draw [om 18 0,
 om 19 5,
 oo 20 (.iaddr 22 3 (.t 18) (.t 19)),
 oo 21 (.load 41 (some 3) (.t 20)),
 om 22 1,
 om 23 5,
 oo 24 (.iaddr 22 3 (.t 22) (.t 23)),
 oo 25 (.load 41 (some 3) (.t 24)),
 oc 26 59 [(false,(.t 21)),(false,(.t 25))] [41,41],
 oo 6 (.asg (.t 26))] [[],[],[0,1],[2],[],[],[4,5],[6],[3,7],[8,8,0,1,2,3,4,5,6,7,8]]) (.seq (.reg [om 27 6,
 oo 28 (.un .not 4 (.t 27))]) (.cond (.t 28) (.seq (.reg [oo 4 (.asg (.c (.bool false)))]) .ret) .skip)))) (.reg [om 16 5,
 oo 17 (.bin .add 3 0 (.t 16) (.n 1) 3),
 oo 5 (.asg (.t 17))])))
def a4h:IC:=(.seq (.reg [oo 4 (.asg (.c (.bool false)))]) (.seq (.seq (.reg [om 7 0,
 oo 8 (.len 22 false (.t 7)),
 om 9 1,
 oo 10 (.len 22 false (.t 9)),
 oo 11 (.bin .neq 3 0 (.t 8) (.t 10) 3)]) (.cond (.t 11) (.seq (.reg [oo 4 (.asg (.c (.bool false)))]) .ret) .skip)) (.seq (.seq (.reg [oo 5 (.asg (.n 0))]) (.block 0 (.loop a2g))) (.seq (.reg [oo 4 (.asg (.c (.bool true)))]) .ret))))
abbrev a7n:Nat:=37
theorem a58:fnC pg 37 29 [(.tmp 4)] a4h:=a1k Go.Proofs.Tryd.f37 [(.tmp 4)] (by kernel_rfl)
@[go_sem] theorem b31:fnB pg 37=true:=by kernel_rfl
def a10:IC:=(.seq (.seq (.reg [om 12 5,
 om 13 0,
 oo 14 (.len 23 false (.t 13)),
 oo 15 (.bin .lss 3 0 (.t 12) (.t 14) 3)]) (.cond (.t 15) .skip (.exit 0))) (.seq (.block 1 (.seq (.draw [om 18 0,
 om 19 5,
 oo 20 (.iaddr 23 3 (.t 18) (.t 19)),
 oo 21 (.load 44 (some 3) (.t 20)),
 om 22 1,
 om 23 5,
 oo 24 (.iaddr 23 3 (.t 22) (.t 23)),
 oo 25 (.load 44 (some 3) (.t 24)),
 oc 26 60 [(false,(.t 21)),(false,(.t 25))] [44,44],
 oo 6 (.asg (.t 26))] [[],[],[0,1],[2],[],[],[4,5],[6],[3,7],[8,8,0,1,2,3,4,5,6,7,8]]) (.seq (.reg [om 27 6,
 oo 28 (.un .not 4 (.t 27))]) (.cond (.t 28) (.seq (.reg [oo 4 (.asg (.c (.bool false)))]) .ret) .skip)))) (.reg [om 16 5,
 oo 17 (.bin .add 3 0 (.t 16) (.n 1) 3),
 oo 5 (.asg (.t 17))])))
def a3l:IC:=(.seq (.reg [oo 4 (.asg (.c (.bool false)))]) (.seq (.seq (.reg [om 7 0,
 oo 8 (.len 23 false (.t 7)),
 om 9 1,
 oo 10 (.len 23 false (.t 9)),
 oo 11 (.bin .neq 3 0 (.t 8) (.t 10) 3)]) (.cond (.t 11) (.seq (.reg [oo 4 (.asg (.c (.bool false)))]) .ret) .skip)) (.seq (.seq (.reg [oo 5 (.asg (.n 0))]) (.block 0 (.loop a10))) (.seq (.reg [oo 4 (.asg (.c (.bool true)))]) .ret))))
abbrev a6p:Nat:=38
theorem a5i:fnC pg 38 29 [(.tmp 4)] a3l:=a1k Go.Proofs.Tryd.f38 [(.tmp 4)] (by kernel_rfl)
@[go_sem] theorem b2g:fnB pg 38=true:=by kernel_rfl
def a2f:IC:=(.seq (.seq (.reg [om 12 5,
 om 13 0,
 oo 14 (.len 24 false (.t 13)),
 oo 15 (.bin .lss 3 0 (.t 12) (.t 14) 3)]) (.cond (.t 15) .skip (.exit 0))) (.seq (.block 1 (.seq (.draw [om 18 0,
 om 19 5,
 oo 20 (.iaddr 24 2 (.t 18) (.t 19)),
 oo 21 (.load 39 (some 2) (.t 20)),
 om 22 1,
 om 23 5,
 oo 24 (.iaddr 24 2 (.t 22) (.t 23)),
 oo 25 (.load 39 (some 2) (.t 24)),
 oc 26 18 [(false,(.t 21)),(false,(.t 25))] [39,39],
 oo 6 (.asg (.t 26))] [[],[],[0,1],[2],[],[],[4,5],[6],[3,7],[8,8,0,1,2,3,4,5,6,7,8]]) (.seq (.reg [om 27 6,
 oo 28 (.un .not 4 (.t 27))]) (.cond (.t 28) (.seq (.reg [oo 4 (.asg (.c (.bool false)))]) .ret) .skip)))) (.reg [om 16 5,
 oo 17 (.bin .add 3 0 (.t 16) (.n 1) 3),
 oo 5 (.asg (.t 17))])))
def a4f:IC:=(.seq (.reg [oo 4 (.asg (.c (.bool false)))]) (.seq (.seq (.reg [om 7 0,
 oo 8 (.len 24 false (.t 7)),
 om 9 1,
 oo 10 (.len 24 false (.t 9)),
 oo 11 (.bin .neq 3 0 (.t 8) (.t 10) 3)]) (.cond (.t 11) (.seq (.reg [oo 4 (.asg (.c (.bool false)))]) .ret) .skip)) (.seq (.seq (.reg [oo 5 (.asg (.n 0))]) (.block 0 (.loop a2f))) (.seq (.reg [oo 4 (.asg (.c (.bool true)))]) .ret))))
abbrev a7m:Nat:=39
theorem a56:fnC pg 39 29 [(.tmp 4)] a4f:=a1k Go.Proofs.Tryd.f39 [(.tmp 4)] (by kernel_rfl)
@[go_sem] theorem b3z:fnB pg 39=true:=by kernel_rfl
def a19:IC:=(.seq (.seq (.reg [om 12 5,
 om 13 0,
 oo 14 (.len 25 false (.t 13)),
 oo 15 (.bin .lss 3 0 (.t 12) (.t 14) 3)]) (.cond (.t 15) .skip (.exit 0))) (.seq (.block 1 (.seq (.draw [om 18 0,
 om 19 5,
 oo 20 (.iaddr 25 6 (.t 18) (.t 19)),
 oo 21 (.load 36 (some 6) (.t 20)),
 om 22 1,
 om 23 5,
 oo 24 (.iaddr 25 6 (.t 22) (.t 23)),
 oo 25 (.load 36 (some 6) (.t 24)),
 oc 26 61 [(false,(.t 21)),(false,(.t 25))] [36,36],
 oo 6 (.asg (.t 26))] [[],[],[0,1],[2],[],[],[4,5],[6],[3,7],[8,8,0,1,2,3,4,5,6,7,8]]) (.seq (.reg [om 27 6,
 oo 28 (.un .not 4 (.t 27))]) (.cond (.t 28) (.seq (.reg [oo 4 (.asg (.c (.bool false)))]) .ret) .skip)))) (.reg [om 16 5,
 oo 17 (.bin .add 3 0 (.t 16) (.n 1) 3),
 oo 5 (.asg (.t 17))])))
def a31:IC:=(.seq (.reg [oo 4 (.asg (.c (.bool false)))]) (.seq (.seq (.reg [om 7 0,
 oo 8 (.len 25 false (.t 7)),
 om 9 1,
 oo 10 (.len 25 false (.t 9)),
 oo 11 (.bin .neq 3 0 (.t 8) (.t 10) 3)]) (.cond (.t 11) (.seq (.reg [oo 4 (.asg (.c (.bool false)))]) .ret) .skip)) (.seq (.seq (.reg [oo 5 (.asg (.n 0))]) (.block 0 (.loop a19))) (.seq (.reg [oo 4 (.asg (.c (.bool true)))]) .ret))))
abbrev a6x:Nat:=40
theorem a5t:fnC pg 40 29 [(.tmp 4)] a31:=a1k Go.Proofs.Tryd.f40 [(.tmp 4)] (by kernel_rfl)
@[go_sem] theorem b3g:fnB pg 40=true:=by kernel_rfl
def a25:IC:=(.seq (.reg [oo 14 (.bin .lss 3 0 (.t 13) (.t 12) 3)]) (.seq (.cond (.t 14) .skip (.exit 0)) (.seq (.block 1 (.seq (.reg [om 15 13,
 oo 5 (.asg (.t 15))]) (.seq (.draw [om 16 0,
 om 17 5,
 oo 18 (.iaddr 34 1 (.t 16) (.t 17)),
 oo 19 (.load 3 none (.t 18)),
 om 20 1,
 om 21 5,
 oo 22 (.iaddr 34 1 (.t 20) (.t 21)),
 oo 23 (.load 3 none (.t 22)),
 oo 24 (.bin .neq 3 0 (.t 19) (.t 23) 3)] [[],[],[0,1],[2],[],[],[4,5],[6],[3,7]]) (.cond (.t 24) (.seq (.reg [oo 4 (.asg (.c (.bool false)))]) .ret) .skip)))) (.reg [oo 25 (.bin .add 3 0 (.t 13) (.n 1) 3),
 om 13 25]))))
def a3h:IC:=(.seq (.reg [oo 4 (.asg (.c (.bool false)))]) (.seq (.seq (.reg [om 6 0,
 oo 7 (.len 34 false (.t 6)),
 om 8 1,
 oo 9 (.len 34 false (.t 8)),
 oo 10 (.bin .neq 3 0 (.t 7) (.t 9) 3)]) (.cond (.t 10) (.seq (.reg [oo 4 (.asg (.c (.bool false)))]) .ret) .skip)) (.seq (.seq (.reg [om 11 0,
 oo 12 (.len 34 false (.t 11)),
 oo 13 (.mv (.n 0))]) (.block 0 (.loop a25))) (.seq (.reg [oo 4 (.asg (.c (.bool true)))]) .ret))))
abbrev a8i:Nat:=58
theorem a7f:fnC pg 58 26 [(.tmp 4)] a3h:=a1k Go.Proofs.Tryd.f58 [(.tmp 4)] (by kernel_rfl)
@[go_sem] theorem b5r:fnB pg 58=true:=by kernel_rfl
def a4w:IC:=(.seq (.reg [oo 2 (.box 41 3 (.t 0)),
 oo 3 (.box 41 3 (.t 1)),
 oo 4 (.asg (.c (.bool false)))]) (.seq (.reg [oo 6 (.faddr 41 1 (.t 2) 1),
 oo 7 (.load 39 (some 2) (.t 6)),
 oo 8 (.faddr 41 1 (.t 3) 1),
 oo 9 (.load 39 (some 2) (.t 8)),
 oc 10 18 [(false,(.t 7)),(false,(.t 9))] [39,39],
 oo 5 (.asg (.t 10))]) (.seq (.reg [om 11 5,
 om 12 11,
 og 13 (.faddr 41 0 (.t 2) 0) 1 12 true,
 og 14 (.load 3 none (.t 13)) 1 12 true,
 og 15 (.faddr 41 0 (.t 3) 0) 1 12 true,
 og 16 (.load 3 none (.t 15)) 1 12 true,
 og 17 (.bin .eql 3 0 (.t 14) (.t 16) 3) 1 12 true,
 oo 18 (.pick (.t 12) (.t 17) (.c (.bool false))),
 oo 4 (.asg (.t 18))]) .ret)))
abbrev a70:Nat:=59
theorem a6u:fnC pg 59 19 [(.tmp 4)] a4w:=a1k Go.Proofs.Tryd.f59 [(.tmp 4)] (by kernel_rfl)
@[go_sem] theorem b4x:fnB pg 59=true:=by kernel_rfl
def a4g:IC:=(.seq (.reg [oo 2 (.box 36 6 (.t 0)),
 oo 3 (.box 36 6 (.t 1)),
 oo 4 (.asg (.c (.bool false)))]) (.seq (.reg [oo 7 (.faddr 36 2 (.t 2) 2),
 oo 8 (.load 34 none (.t 7)),
 oo 9 (.faddr 36 2 (.t 3) 2),
 oo 10 (.load 34 none (.t 9)),
 oc 11 19 [(false,(.t 8)),(false,(.t 10))] [34,34],
 oo 5 (.asg (.t 11))]) (.seq (.reg [oo 12 (.faddr 36 3 (.t 2) 3),
 oo 13 (.load 34 none (.t 12)),
 oo 14 (.faddr 36 3 (.t 3) 3),
 oo 15 (.load 34 none (.t 14)),
 oc 16 19 [(false,(.t 13)),(false,(.t 15))] [34,34],
 oo 6 (.asg (.t 16))]) (.seq (.reg [om 17 5,
 om 18 17,
 og 19 (.mv (.t 6)) 1 18 true,
 oo 20 (.pick (.t 18) (.t 19) (.c (.bool false))),
 om 21 20,
 og 22 (.faddr 36 0 (.t 2) 0) 4 21 true,
 og 23 (.load 3 none (.t 22)) 4 21 true,
 og 24 (.faddr 36 0 (.t 3) 0) 4 21 true,
 og 25 (.load 3 none (.t 24)) 4 21 true,
 og 26 (.bin .eql 3 0 (.t 23) (.t 25) 3) 4 21 true,
 oo 27 (.pick (.t 21) (.t 26) (.c (.bool false))),
 om 28 27,
 og 29 (.faddr 36 1 (.t 2) 1) 11 28 true,
 og 30 (.load 3 none (.t 29)) 11 28 true,
 og 31 (.faddr 36 1 (.t 3) 1) 11 28 true,
 og 32 (.load 3 none (.t 31)) 11 28 true,
 og 33 (.bin .eql 3 0 (.t 30) (.t 32) 3) 11 28 true,
 oo 34 (.pick (.t 28) (.t 33) (.c (.bool false))),
 om 35 34,
 og 36 (.faddr 36 4 (.t 2) 4) 18 35 true,
 og 37 (.load 3 none (.t 36)) 18 35 true,
 og 38 (.faddr 36 4 (.t 3) 4) 18 35 true,
 og 39 (.load 3 none (.t 38)) 18 35 true,
 og 40 (.bin .eql 3 0 (.t 37) (.t 39) 3) 18 35 true,
 oo 41 (.pick (.t 35) (.t 40) (.c (.bool false))),
 om 42 41,
 og 43 (.faddr 36 5 (.t 2) 5) 25 42 true,
 og 44 (.load 3 none (.t 43)) 25 42 true,
 og 45 (.faddr 36 5 (.t 3) 5) 25 42 true,
 og 46 (.load 3 none (.t 45)) 25 42 true,
 og 47 (.bin .eql 3 0 (.t 44) (.t 46) 3) 25 42 true,
 oo 48 (.pick (.t 42) (.t 47) (.c (.bool false))),
 oo 4 (.asg (.t 48))]) .ret))))
abbrev a4d:Nat:=61
theorem a57:fnC pg 61 49 [(.tmp 4)] a4g:=a1k Go.Proofs.Tryd.f61 [(.tmp 4)] (by kernel_rfl)
@[go_sem] theorem b30:fnB pg 61=true:=by kernel_rfl
structure Ds where
 shape:List Int
 wide:Bool
 deriving DecidableEq
structure Tn where
 shape:List Int
 wide:Bool
 data:List Int
 deriving DecidableEq
structure Vw where
 off:Int
 shape:List Int
 wide:Bool
 deriving DecidableEq
structure In where
 op:Int
 dst:Int
 ins:List Int
 args:List Int
 frm:Int
 to:Int
 deriving DecidableEq
structure Pl where
 size:Int
 views:List Vw
 consts:List Tn
 weights:List Ds
 code:List In
 input:Int
 output:Int
 deriving DecidableEq
def eD (d:Ds):List AV:=[slI d.shape,lb d.wide]
def eT (d:Tn):List AV:=[slI d.shape,lb d.wide,slI d.data]
def eV (d:Vw):List AV:=[li d.off,slI d.shape,lb d.wide]
def eI (d:In):List AV:=[li d.op,li d.dst,slI d.ins,slI d.args,li d.frm,li d.to]
def oD (d:Ds):List AV:=[owI d.shape,lb d.wide]
def oT (d:Tn):List AV:=[owI d.shape,lb d.wide,owI d.data]
def oV (d:Vw):List AV:=[li d.off,owI d.shape,lb d.wide]
def oI (d:In):List AV:=[li d.op,li d.dst,owI d.ins,owI d.args,li d.frm,li d.to]
@[go_sem] theorem e83 {xs:List Ds}:(fm eD xs).length=xs.length*2:=a4s fun _=>rfl
@[go_sem] theorem e82 {xs:List Ds} {i:Nat} (h:i < xs.length):((fm eD xs).drop (i*2)).take 2=[slI xs[i].shape,lb xs[i].wide]:=b0h (f:=eD) (k:=2) (fun _=>rfl) h
@[go_sem] theorem e2z {xs:List Ds}:(fm eD xs).take (xs.length*2)=fm eD xs:=a2o fun _=>rfl
@[go_sem] theorem d77 {xs:List Ds}:a0j (fm eD xs)=true:=a8o fun _=>rfl
@[go_sem] theorem e81 {xs:List Ds}:a1b (fm eD xs)=fm eD xs:=by
 rw [a60]; congr 1
@[go_sem] theorem f0t {xs:List Ds}:(fm oD xs).length=xs.length*2:=a4s fun _=>rfl
@[go_sem] theorem e50 {xs:List Ds}:(fm oD xs).take (xs.length*2)=fm oD xs:=a2o fun _=>rfl
@[go_sem] theorem f0s {xs:List Ds}:a1b (fm oD xs)=fm eD xs:=by
 rw [a60]
 congr 1
 funext n
 simp [oD,eD,go_sem]
@[go_sem] theorem e0c {xs:List Ds}:a01 (fm oD xs)=true:=a8n fun n=>by simp [oD,go_sem]
@[go_sem] theorem e89 {xs:List Tn}:(fm eT xs).length=xs.length*3:=a4s fun _=>rfl
@[go_sem] theorem e88 {xs:List Tn} {i:Nat} (h:i < xs.length):((fm eT xs).drop (i*3)).take 3=[slI xs[i].shape,lb xs[i].wide,slI xs[i].data]:=b0h (f:=eT) (k:=3) (fun _=>rfl) h
@[go_sem] theorem e22 {xs:List Tn}:(fm eT xs).take (xs.length*3)=fm eT xs:=a2o fun _=>rfl
@[go_sem] theorem d8b {xs:List Tn}:a0j (fm eT xs)=true:=a8o fun _=>rfl
@[go_sem] theorem e87 {xs:List Tn}:a1b (fm eT xs)=fm eT xs:=by
 rw [a60]; congr 1
@[go_sem] theorem f0x {xs:List Tn}:(fm oT xs).length=xs.length*3:=a4s fun _=>rfl
@[go_sem] theorem e54 {xs:List Tn}:(fm oT xs).take (xs.length*3)=fm oT xs:=a2o fun _=>rfl
@[go_sem] theorem f0w {xs:List Tn}:a1b (fm oT xs)=fm eT xs:=by
 rw [a60]
 congr 1
 funext n
 simp [oT,eT,go_sem]
@[go_sem] theorem e0f {xs:List Tn}:a01 (fm oT xs)=true:=a8n fun n=>by simp [oT,go_sem]
@[go_sem] theorem e9b {xs:List Vw}:(fm eV xs).length=xs.length*3:=a4s fun _=>rfl
@[go_sem] theorem d1o {xs:List Vw} {i:Nat} (h:i < xs.length):((fm eV xs).drop (i*3)).take 3=[li xs[i].off,slI xs[i].shape,lb xs[i].wide]:=b0h (f:=eV) (k:=3) (fun _=>rfl) h
@[go_sem] theorem e24 {xs:List Vw}:(fm eV xs).take (xs.length*3)=fm eV xs:=a2o fun _=>rfl
@[go_sem] theorem d8c {xs:List Vw}:a0j (fm eV xs)=true:=a8o fun _=>rfl
@[go_sem] theorem e9a {xs:List Vw}:a1b (fm eV xs)=fm eV xs:=by
 rw [a60]; congr 1
@[go_sem] theorem f0z {xs:List Vw}:(fm oV xs).length=xs.length*3:=a4s fun _=>rfl
@[go_sem] theorem e55 {xs:List Vw}:(fm oV xs).take (xs.length*3)=fm oV xs:=a2o fun _=>rfl
@[go_sem] theorem f0y {xs:List Vw}:a1b (fm oV xs)=fm eV xs:=by
 rw [a60]
 congr 1
 funext n
 simp [oV,eV,go_sem]
@[go_sem] theorem e0g {xs:List Vw}:a01 (fm oV xs)=true:=a8n fun n=>by simp [oV,go_sem]
@[go_sem] theorem e86 {xs:List In}:(fm eI xs).length=xs.length*6:=a4s fun _=>rfl
@[go_sem] theorem e85 {xs:List In} {i:Nat} (h:i < xs.length):((fm eI xs).drop (i*6)).take 6=[li xs[i].op,li xs[i].dst,slI xs[i].ins,slI xs[i].args,li xs[i].frm,li xs[i].to]:=b0h (f:=eI) (k:=6) (fun _=>rfl) h
@[go_sem] theorem e20 {xs:List In}:(fm eI xs).take (xs.length*6)=fm eI xs:=a2o fun _=>rfl
@[go_sem] theorem d78 {xs:List In}:a0j (fm eI xs)=true:=a8o fun _=>rfl
@[go_sem] theorem e84 {xs:List In}:a1b (fm eI xs)=fm eI xs:=by
 rw [a60]; congr 1
@[go_sem] theorem f0v {xs:List In}:(fm oI xs).length=xs.length*6:=a4s fun _=>rfl
@[go_sem] theorem e51 {xs:List In}:(fm oI xs).take (xs.length*6)=fm oI xs:=a2o fun _=>rfl
@[go_sem] theorem f0u {xs:List In}:a1b (fm oI xs)=fm eI xs:=by
 rw [a60]
 congr 1
 funext n
 simp [oI,eI,go_sem]
@[go_sem] theorem e0d {xs:List In}:a01 (fm oI xs)=true:=a8n fun n=>by simp [oI,go_sem]
abbrev slD (xs:List Ds):AV:= .sl xs.length (fm eD xs)
abbrev slT (xs:List Tn):AV:= .sl xs.length (fm eT xs)
abbrev slV (xs:List Vw):AV:= .sl xs.length (fm eV xs)
abbrev slJ (xs:List In):AV:= .sl xs.length (fm eI xs)
abbrev owD (xs:List Ds):AV:= .own 2 xs.length (fm oD xs)
abbrev owT (xs:List Tn):AV:= .own 3 xs.length (fm oT xs)
abbrev owV (xs:List Vw):AV:= .own 3 xs.length (fm oV xs)
abbrev owJ (xs:List In):AV:= .own 6 xs.length (fm oI xs)
def eP (p:Pl):List AV:=[li p.size,slV p.views,slT p.consts,slD p.weights,slJ p.code,li p.input,li p.output]
def oP (p:Pl):List AV:=[li p.size,owV p.views,owT p.consts,owD p.weights,owJ p.code,li p.input,li p.output]
section
variable {G:GG} {bk:Nat->Nat×Nat} {Q:Exit->St->Prop} {st:St}
theorem b21 (xs:List Int) (h:xs.length < 2 ^ 40):ACalls pg G a8h [slI xs] (owI xs):=by
 refine a7e rfl ?_
 simp (disch:=omega) [go_sem,a5f]
 refine e5z fun b hb=> ?_
 cases b with
 | true=>
  have:xs=[]:=by simpa using hb rfl
  subst this
  simp (disch:=omega) [go_sem]
 | false=>simp (disch:=omega) [go_sem]
theorem b20 (sh:List Int) (w:Bool) (hlen:sh.length < 2 ^ 40):ACalls pg G b2t [.agg [slI sh,lb w]] (.agg [owI sh,lb w]):=by
 refine a95 rfl ?_
 simp (disch:=omega) [go_sem,a85]
 refine a3d ?_
 simp (disch:=omega) [go_sem]
 refine a1o (b21 sh hlen) rfl (a8r _) (by simp) [5] (by simp) (by simp (disch:=omega) [go_sem]) ?_
 simp (disch:=omega) [go_sem]
 refine a5b (by decide) fun s2 hs he=> ?_
 simp (disch:=omega) [go_sem,hs]
theorem c1u (sh:List Int) (w:Bool) (data:List Int) (hlen:sh.length < 2 ^ 40) (hl:data.length < 2 ^ 40):ACalls pg G b38 [e1t sh w data] (.agg [owI sh,lb w,owI data]):=by
 refine b1c rfl ?_
 simp (disch:=omega) [go_sem,a9y]
 refine a3d ?_
 simp (disch:=omega) [go_sem]
 refine a1o (b20 sh w hlen) rfl (by simp [a0v,a01,a66]) (by simp) [5] (by simp) (by simp (disch:=omega) [go_sem]) ?_
 simp (disch:=omega) [go_sem]
 refine a1o (b21 data hl) rfl (a8r _) (by simp) [8] (by simp) (by simp (disch:=omega) [go_sem]) ?_
 simp (disch:=omega) [go_sem]
 refine a5b (by decide) fun s2 hs he=> ?_
 simp (disch:=omega) [go_sem,hs]
end
def eqP {α:Type} (p:α->α->Bool):List α->List α->Bool
 | [],[]=>true
 | x::xs,y::ys=>p x y&&eqP p xs ys
 | _,_=>false
theorem b0f {α:Type} {p:α->α->Bool}:∀ {a b:List α},a.length≠b.length->eqP p a b=false
 | [],[],h=>absurd rfl h
 | [],_::_,_=>rfl
 | _::_,[],_=>rfl
 | x::xs,y::ys,h=>by rw [eqP,b0f (by simpa using h),Bool.and_false]
theorem b90 {α:Type} [DecidableEq α] {p:α->α->Bool}:∀ {a b:List α},(∀ x∈a,∀ y∈b,p x y=decide (x=y))->eqP p a b=decide (a=b)
 | [],[],h=>by simp [eqP]
 | [],_::_,_=>by simp [eqP]
 | _::_,[],_=>by simp [eqP]
 | x::xs,y::ys,h=>by
  rw [eqP,h x (by simp) y (by simp),b90 fun a ha b hb=>h a (by simp [ha]) b (by simp [hb])]
  by_cases h1:x=y<;>by_cases h2:xs=ys<;>simp [h1,h2]
theorem a8m {α:Type} {p:α->α->Bool} {a b:List α} {i:Nat} (h:i < a.length) (h2:i < b.length):eqP p (a.drop i) (b.drop i)=(p a[i] b[i]&&eqP p (a.drop (i+1)) (b.drop (i+1))):=by
 rw [List.drop_eq_getElem_cons h,List.drop_eq_getElem_cons h2]; rfl
section
variable {G:GG} {bk:Nat->Nat×Nat} {Q:Exit->St->Prop} {st:St}
theorem a97 (a b:List Int) (ha:a.length < 2 ^ 62) (hb:b.length < 2 ^ 62):ACalls pg G a8i [slI a,slI b] (lb (decide (a=b))):=by
 refine a7f rfl ?_
 by_cases hl:a.length=b.length
 ·have hl':(a.length:Int)=b.length:=by omega
  simp (disch:=omega) [go_sem,a3h,hl']
  refine a03 Nat (fun i st=>i<=a.length/\eqP (fun x y=>decide (x=y)) (a.drop i) (b.drop i)=decide (a=b)/\st.s 0=slI a/\st.s 1=slI b/\st.s 11=slI a/\st.s 12=li a.length/\st.s 13=li i) (fun i=>a.length - i) 0 ⟨by simp,b90 fun _ _ _ _=>rfl,by simp (disch:=omega) [go_sem,hl']⟩ ?_
  rintro i st K ⟨hi,hm,h⟩ hK
  by_cases hlt:i < a.length
  ·have hlt2:i < b.length:=by omega
   rw [a8m hlt hlt2] at hm
   simp (disch:=omega) [go_sem,a25,h,hlt]
   refine a3d ?_
   simp (disch:=omega) [go_sem,h,hlt]
   refine a5b (by decide) fun s2 hs he=> ?_
   by_cases k:a[i]=b[i]
   ·rw [decide_eq_true k,Bool.true_and] at hm
    simp (disch:=omega) [go_sem,hs,h,k]
    exact hK (i+1) _ ⟨by omega,hm,by simp (disch:=omega) [go_sem,hs,h]⟩ (by omega)
   ·rw [decide_eq_false k,Bool.false_and] at hm
    simp (disch:=omega) [go_sem,hs,h,k,<-hm]
  ·obtain rfl:i=a.length:=by omega
   rw [List.drop_length,hl,List.drop_length,eqP] at hm
   simp (disch:=omega) [go_sem,a25,h,<-hm]
 ·have hl':¬ (a.length:Int)=b.length:=by omega
  have hn:a≠b:=fun h=>hl (by rw [h])
  simp (disch:=omega) [go_sem,a3h,hl',hn]
theorem e28 {f:FuncId} (hf:fnB pg f=true) {p:Vw->Vw->Bool} (a b:List Vw) (hp:∀ x∈a,∀ y∈b,ACallsX pg G f [.agg (eV x),.agg (eV y)] (lb (p x y)) []) (ha:a.length < 2 ^ 62) (hb:b.length < 2 ^ 62):ACallsX pg G a52 [slV a,slV b,.fn f [] []] (lb (eqP p a b)) []:=by
 refine a44 (pins:=[]) (by kernel_rfl) rfl rfl rfl rfl ?_
 by_cases hl:a.length=b.length
 ·have hl':(a.length:Int)=b.length:=by omega
  simp (disch:=omega) [go_sem,a12,hl']
  refine a03 Nat (fun i st=>i<=a.length/\eqP p (a.drop i) (b.drop i)=eqP p a b/\st.s 0=slV a/\st.s 1=slV b/\st.s 2= .fn f [] []/\st.s 15=slV a/\st.s 16=li a.length/\st.s 17=li i) (fun i=>a.length - i) 0 ⟨by simp,rfl,by simp (disch:=omega) [go_sem,hl']⟩ ?_
  rintro i st K ⟨hi,hm,h⟩ hK
  by_cases hlt:i < a.length
  ·have hlt2:i < b.length:=by omega
   rw [a8m hlt hlt2] at hm
   simp (disch:=omega) [go_sem,a1w,h,hlt,hlt2,hf]
   refine a04 (hp _ (List.getElem_mem hlt) _ (List.getElem_mem hlt2)) rfl rfl rfl rfl ?_
   cases k:p a[i] b[i] with
   | true=>
    rw [k,Bool.true_and] at hm
    simp (disch:=omega) [go_sem,h]
    exact hK (i+1) _ ⟨by omega,hm,by simp (disch:=omega) [go_sem,h]⟩ (by omega)
   | false=>
    rw [k,Bool.false_and] at hm
    simp (disch:=omega) [go_sem,h,<-hm]
  ·obtain rfl:i=a.length:=by omega
   rw [List.drop_length,hl,List.drop_length,eqP] at hm
   simp (disch:=omega) [go_sem,a1w,h,<-hm]
 ·have hl':¬ (a.length:Int)=b.length:=by omega
  simp (disch:=omega) [go_sem,a12,hl',b0f hl]
theorem e29 {f:FuncId} (hf:fnB pg f=true) {p:Tn->Tn->Bool} (a b:List Tn) (hp:∀ x∈a,∀ y∈b,ACallsX pg G f [.agg (eT x),.agg (eT y)] (lb (p x y)) []) (ha:a.length < 2 ^ 62) (hb:b.length < 2 ^ 62):ACallsX pg G a5h [slT a,slT b,.fn f [] []] (lb (eqP p a b)) []:=by
 refine a4b (pins:=[]) (by kernel_rfl) rfl rfl rfl rfl ?_
 by_cases hl:a.length=b.length
 ·have hl':(a.length:Int)=b.length:=by omega
  simp (disch:=omega) [go_sem,a1t,hl']
  refine a03 Nat (fun i st=>i<=a.length/\eqP p (a.drop i) (b.drop i)=eqP p a b/\st.s 0=slT a/\st.s 1=slT b/\st.s 2= .fn f [] []/\st.s 15=slT a/\st.s 16=li a.length/\st.s 17=li i) (fun i=>a.length - i) 0 ⟨by simp,rfl,by simp (disch:=omega) [go_sem,hl']⟩ ?_
  rintro i st K ⟨hi,hm,h⟩ hK
  by_cases hlt:i < a.length
  ·have hlt2:i < b.length:=by omega
   rw [a8m hlt hlt2] at hm
   simp (disch:=omega) [go_sem,a1m,h,hlt,hlt2,hf]
   refine a04 (hp _ (List.getElem_mem hlt) _ (List.getElem_mem hlt2)) rfl rfl rfl rfl ?_
   cases k:p a[i] b[i] with
   | true=>
    rw [k,Bool.true_and] at hm
    simp (disch:=omega) [go_sem,h]
    exact hK (i+1) _ ⟨by omega,hm,by simp (disch:=omega) [go_sem,h]⟩ (by omega)
   | false=>
    rw [k,Bool.false_and] at hm
    simp (disch:=omega) [go_sem,h,<-hm]
  ·obtain rfl:i=a.length:=by omega
   rw [List.drop_length,hl,List.drop_length,eqP] at hm
   simp (disch:=omega) [go_sem,a1m,h,<-hm]
 ·have hl':¬ (a.length:Int)=b.length:=by omega
  simp (disch:=omega) [go_sem,a1t,hl',b0f hl]
theorem e3a {f:FuncId} (hf:fnB pg f=true) {p:Ds->Ds->Bool} (a b:List Ds) (hp:∀ x∈a,∀ y∈b,ACallsX pg G f [.agg (eD x),.agg (eD y)] (lb (p x y)) []) (ha:a.length < 2 ^ 62) (hb:b.length < 2 ^ 62):ACallsX pg G a51 [slD a,slD b,.fn f [] []] (lb (eqP p a b)) []:=by
 refine a43 (pins:=[]) (by kernel_rfl) rfl rfl rfl rfl ?_
 by_cases hl:a.length=b.length
 ·have hl':(a.length:Int)=b.length:=by omega
  simp (disch:=omega) [go_sem,a11,hl']
  refine a03 Nat (fun i st=>i<=a.length/\eqP p (a.drop i) (b.drop i)=eqP p a b/\st.s 0=slD a/\st.s 1=slD b/\st.s 2= .fn f [] []/\st.s 15=slD a/\st.s 16=li a.length/\st.s 17=li i) (fun i=>a.length - i) 0 ⟨by simp,rfl,by simp (disch:=omega) [go_sem,hl']⟩ ?_
  rintro i st K ⟨hi,hm,h⟩ hK
  by_cases hlt:i < a.length
  ·have hlt2:i < b.length:=by omega
   rw [a8m hlt hlt2] at hm
   simp (disch:=omega) [go_sem,a1u,h,hlt,hlt2,hf]
   refine a04 (hp _ (List.getElem_mem hlt) _ (List.getElem_mem hlt2)) rfl rfl rfl rfl ?_
   cases k:p a[i] b[i] with
   | true=>
    rw [k,Bool.true_and] at hm
    simp (disch:=omega) [go_sem,h]
    exact hK (i+1) _ ⟨by omega,hm,by simp (disch:=omega) [go_sem,h]⟩ (by omega)
   | false=>
    rw [k,Bool.false_and] at hm
    simp (disch:=omega) [go_sem,h,<-hm]
  ·obtain rfl:i=a.length:=by omega
   rw [List.drop_length,hl,List.drop_length,eqP] at hm
   simp (disch:=omega) [go_sem,a1u,h,<-hm]
 ·have hl':¬ (a.length:Int)=b.length:=by omega
  simp (disch:=omega) [go_sem,a11,hl',b0f hl]
theorem e3b {f:FuncId} (hf:fnB pg f=true) {p:In->In->Bool} (a b:List In) (hp:∀ x∈a,∀ y∈b,ACallsX pg G f [.agg (eI x),.agg (eI y)] (lb (p x y)) []) (ha:a.length < 2 ^ 62) (hb:b.length < 2 ^ 62):ACallsX pg G a5n [slJ a,slJ b,.fn f [] []] (lb (eqP p a b)) []:=by
 refine a4k (pins:=[]) (by kernel_rfl) rfl rfl rfl rfl ?_
 by_cases hl:a.length=b.length
 ·have hl':(a.length:Int)=b.length:=by omega
  simp (disch:=omega) [go_sem,a1v,hl']
  refine a03 Nat (fun i st=>i<=a.length/\eqP p (a.drop i) (b.drop i)=eqP p a b/\st.s 0=slJ a/\st.s 1=slJ b/\st.s 2= .fn f [] []/\st.s 15=slJ a/\st.s 16=li a.length/\st.s 17=li i) (fun i=>a.length - i) 0 ⟨by simp,rfl,by simp (disch:=omega) [go_sem,hl']⟩ ?_
  rintro i st K ⟨hi,hm,h⟩ hK
  by_cases hlt:i < a.length
  ·have hlt2:i < b.length:=by omega
   rw [a8m hlt hlt2] at hm
   simp (disch:=omega) [go_sem,a1s,h,hlt,hlt2,hf]
   refine a04 (hp _ (List.getElem_mem hlt) _ (List.getElem_mem hlt2)) rfl rfl rfl rfl ?_
   cases k:p a[i] b[i] with
   | true=>
    rw [k,Bool.true_and] at hm
    simp (disch:=omega) [go_sem,h]
    exact hK (i+1) _ ⟨by omega,hm,by simp (disch:=omega) [go_sem,h]⟩ (by omega)
   | false=>
    rw [k,Bool.false_and] at hm
    simp (disch:=omega) [go_sem,h,<-hm]
  ·obtain rfl:i=a.length:=by omega
   rw [List.drop_length,hl,List.drop_length,eqP] at hm
   simp (disch:=omega) [go_sem,a1s,h,<-hm]
 ·have hl':¬ (a.length:Int)=b.length:=by omega
  simp (disch:=omega) [go_sem,a1v,hl',b0f hl]
theorem b68 (a b:Ds) (ha:a.shape.length < 2 ^ 62) (hb:b.shape.length < 2 ^ 62):ACalls pg G b37 [.agg (eD a),.agg (eD b)] (lb (decide (a=b))):=by
 refine b06 rfl ?_
 obtain ⟨s1,w1⟩:=a
 obtain ⟨s2,w2⟩:=b
 by_cases k:w1=w2
 ·simp (disch:=omega) [go_sem,a7d,eD,k]
  refine a0p (a97 s1 s2 ha hb) rfl rfl ?_
  simp (disch:=omega) [go_sem,Ds.mk.injEq,k]
 ·simp (disch:=omega) [go_sem,a7d,eD,k,Ds.mk.injEq]
theorem c59 (a b:Tn) (ha:a.shape.length < 2 ^ 62) (hb:b.shape.length < 2 ^ 62) (ha2:a.data.length < 2 ^ 62) (hb2:b.data.length < 2 ^ 62):ACalls pg G b5v [.agg (eT a),.agg (eT b)] (lb (decide (a=b))):=by
 refine b12 rfl ?_
 obtain ⟨s1,w1,d1⟩:=a
 obtain ⟨s2,w2,d2⟩:=b
 simp (disch:=omega) [go_sem,b1d,eT]
 refine a0p (b68 ⟨s1,w1⟩ ⟨s2,w2⟩ ha hb) rfl rfl ?_
 by_cases k:(⟨s1,w1⟩:Ds)=⟨s2,w2⟩
 ·simp (disch:=omega) [go_sem,k]
  refine a0p (a97 d1 d2 ha2 hb2) rfl rfl ?_
  obtain ⟨rfl,rfl⟩:s1=s2/\w1=w2:=by simpa using k
  simp (disch:=omega) [go_sem,Tn.mk.injEq]
 ·simp (disch:=omega) [go_sem,k]
  exact fun h1 h2 _=>k (by rw [h1,h2])
theorem c6c (a b:Vw) (ha:a.shape.length < 2 ^ 62) (hb:b.shape.length < 2 ^ 62):ACalls pg G 29 [.agg (eV a),.agg (eV b)] (lb (decide (a=b))):=by
 refine a93 rfl ?_
 obtain ⟨o1,s1,w1⟩:=a
 obtain ⟨o2,s2,w2⟩:=b
 by_cases k:o1=o2
 ·simp (disch:=omega) [go_sem,a6g,eV,k]
  refine a0p (b68 ⟨s1,w1⟩ ⟨s2,w2⟩ ha hb) rfl rfl ?_
  simp (disch:=omega) [go_sem,Vw.mk.injEq,k,Ds.mk.injEq]
 ·simp (disch:=omega) [go_sem,a6g,eV,k,Vw.mk.injEq]
theorem c5f (a b:In) (ha:a.ins.length < 2 ^ 62) (hb:b.ins.length < 2 ^ 62) (ha2:a.args.length < 2 ^ 62) (hb2:b.args.length < 2 ^ 62):ACalls pg G a90 [.agg (eI a),.agg (eI b)] (lb (decide (a=b))):=by
 refine a8c rfl ?_
 obtain ⟨o1,d1,i1,a1,f1,t1⟩:=a
 obtain ⟨o2,d2,i2,a2,f2,t2⟩:=b
 simp only at ha hb ha2 hb2
 by_cases k1:o1=o2
 ·subst k1
  by_cases k2:d1=d2
  ·subst k2
   simp (disch:=omega) [go_sem,a20,eI]
   refine a0p (a97 i1 i2 ha hb) rfl rfl ?_
   by_cases k3:i1=i2
   ·subst k3
    simp (disch:=omega) [go_sem]
    refine a0p (a97 a1 a2 ha2 hb2) rfl rfl ?_
    by_cases k4:a1=a2
    ·subst k4
     by_cases k5:f1=f2
     ·subst k5
      by_cases k6:t1=t2<;>simp (disch:=omega) [go_sem,k6,In.mk.injEq]
     ·simp (disch:=omega) [go_sem,k5,In.mk.injEq]
    ·simp (disch:=omega) [go_sem,k4,In.mk.injEq]
   ·simp (disch:=omega) [go_sem,k3,In.mk.injEq]
  ·simp (disch:=omega) [go_sem,a20,eI,k2,In.mk.injEq]
 ·simp (disch:=omega) [go_sem,a20,eI,k1,In.mk.injEq]
structure Pl.fin (p:Pl):Prop where
 vl:p.views.length < 2 ^ 62
 cl:p.consts.length < 2 ^ 62
 wl:p.weights.length < 2 ^ 62
 il:p.code.length < 2 ^ 62
 vs:∀ x∈p.views,x.shape.length < 2 ^ 62
 cs:∀ x∈p.consts,x.shape.length < 2 ^ 62/\x.data.length < 2 ^ 62
 ws:∀ x∈p.weights,x.shape.length < 2 ^ 62
 is:∀ x∈p.code,x.ins.length < 2 ^ 62/\x.args.length < 2 ^ 62
theorem a6b (p q:Pl) (hp:p.fin) (hq:q.fin):ACalls pg G b5t [.agg (eP p),.agg (eP q)] (lb (decide (p=q))):=by
 refine b1v rfl ?_
 have c1:=e28 (G:=G) (f:=29) b0z (p:=fun x y=>decide (x=y)) p.views q.views (fun x hx y hy=>(c6c x y (hp.vs x hx) (hq.vs y hy)).toX (by simp [noRef])) hp.vl hq.vl
 have c2:=e29 (G:=G) (f:=33) b3u (p:=fun x y=>decide (x=y)) p.consts q.consts (fun x hx y hy=>(c59 x y (hp.cs x hx).1 (hq.cs y hy).1 (hp.cs x hx).2 (hq.cs y hy).2).toX (by simp [noRef])) hp.cl hq.cl
 have c3:=e3a (G:=G) (f:=30) b1y (p:=fun x y=>decide (x=y)) p.weights q.weights (fun x hx y hy=>(b68 x y (hp.ws x hx) (hq.ws y hy)).toX (by simp [noRef])) hp.wl hq.wl
 have c4:=e3b (G:=G) (f:=36) a8w (p:=fun x y=>decide (x=y)) p.code q.code (fun x hx y hy=>(c5f x y (hp.is x hx).1 (hq.is y hy).1 (hp.is x hx).2 (hq.is y hy).2).toX (by simp [noRef])) hp.il hq.il
 rw [b90 fun _ _ _ _=>rfl] at c1 c2 c3 c4
 obtain ⟨s1,v1,k1,w1,i1,p1,o1⟩:=p
 obtain ⟨s2,v2,k2,w2,i2,p2,o2⟩:=q
 simp only at c1 c2 c3 c4
 clear hp hq
 by_cases e1:s1=s2
 ·subst e1
  by_cases e2:p1=p2
  ·subst e2
   by_cases e3:o1=o2
   ·subst e3
    simp (disch:=omega) [go_sem,a41,eP]
    refine a04 c1 rfl rfl rfl rfl ?_
    by_cases e4:v1=v2
    ·subst e4
     simp (disch:=omega) [go_sem]
     refine a04 c2 rfl rfl rfl rfl ?_
     by_cases e5:k1=k2
     ·subst e5
      simp (disch:=omega) [go_sem]
      refine a04 c3 rfl rfl rfl rfl ?_
      by_cases e6:w1=w2
      ·subst e6
       simp (disch:=omega) [go_sem]
       refine a04 c4 rfl rfl rfl rfl ?_
       by_cases e7:i1=i2<;>simp (disch:=omega) [go_sem,e7,Pl.mk.injEq]
      ·simp (disch:=omega) [go_sem,e6,Pl.mk.injEq]
     ·simp (disch:=omega) [go_sem,e5,Pl.mk.injEq]
    ·simp (disch:=omega) [go_sem,e4,Pl.mk.injEq]
   ·simp (disch:=omega) [go_sem,a41,eP,e3,Pl.mk.injEq]
  ·simp (disch:=omega) [go_sem,a41,eP,e2,Pl.mk.injEq]
 ·simp (disch:=omega) [go_sem,a41,eP,e1,Pl.mk.injEq]
end
end Go.Ideal.Tryd
end
section
namespace Go.Proofs.YtploijbaclgehaaDoor
open Go Go.ChangeShapes Go.WideShapes Go.RowKit Go.Ideal Go.Ideal.Tryd
section
variable {H:Type} {e:TypeId×Value->H} {w:World}
theorem b47:Rd e Tryd.prog w Int 3 (fun n=>[li n]) (fun n=> -9223372036854775808<=n/\n<=9223372036854775807):=Rd.int Tryd.underlying3
theorem d5q:Rd e Tryd.prog w Bool 4 (fun n=>[lb n]) (fun _=>True):=Rd.bool Tryd.underlying4
theorem b73:Rd e Tryd.prog w (List Int) 34 (fun xs=>[slI xs]) (fun xs=>xs.length<=reachBytes/\∀ x∈xs,-9223372036854775808<=x/\x<=9223372036854775807):=
 Rd.slice1 Tryd.underlying34 (of_decide_eq_true (by kernel_rfl)) (of_decide_eq_true (by kernel_rfl)) (Rd.int Tryd.underlying3)
theorem a9l:Tryd.prog.cellsOf 3=1:=by kernel_rfl
theorem d04:Tryd.prog.cellsOf 4=1:=by kernel_rfl
theorem b2y:Tryd.prog.cellsOf 34=1:=by kernel_rfl
theorem b2z:Tryd.prog.cellsOf 39=2:=by kernel_rfl
theorem b9p:Tryd.prog.cellsOf 44=3:=by kernel_rfl
theorem b9o:Tryd.prog.cellsOf 41=3:=by kernel_rfl
theorem b9n:Tryd.prog.cellsOf 36=6:=by kernel_rfl
theorem c4r:Tryd.prog.cellsOf 27=7:=by kernel_rfl
theorem c4p:Tryd.prog.cellsOf 24=1:=by kernel_rfl
theorem c4o:Tryd.prog.cellsOf 23=1:=by kernel_rfl
theorem c4n:Tryd.prog.cellsOf 22=1:=by kernel_rfl
theorem c4q:Tryd.prog.cellsOf 25=1:=by kernel_rfl
theorem e6v:Rd e Tryd.prog w Ds 39 eD (fun d=>d.shape.length<=reachBytes):=
 (Rd.struct (l:=[(34,0),(4,1)]) (by kernel_rfl) b2z (.cons b2y b73 (.cons d04 d5q .nil))).map (fun x=>⟨x.1,x.2.1⟩) (fun x=>rfl) (fun x hx=>hx.1.1)
theorem f3a:Rd e Tryd.prog w Tn 44 eT (fun d=>d.shape.length<=reachBytes/\d.data.length<=reachBytes):=
 (Rd.struct (l:=[(39,0),(34,2)]) (by kernel_rfl) b9p (.cons b2z e6v (.cons b2y b73 .nil))).map (fun x=>⟨x.1.shape,x.1.wide,x.2.1⟩) (fun x=>rfl) (fun x hx=>⟨hx.1,hx.2.1.1⟩)
theorem f3b:Rd e Tryd.prog w Vw 41 eV (fun d=>d.shape.length<=reachBytes):=
 (Rd.struct (l:=[(3,0),(39,1)]) (by kernel_rfl) b9o (.cons a9l b47 (.cons b2z e6v .nil))).map (fun x=>⟨x.1,x.2.1.shape,x.2.1.wide⟩) (fun x=>rfl) (fun x hx=>hx.2.1)
theorem f22:Rd e Tryd.prog w In 36 eI (fun d=>d.ins.length<=reachBytes/\d.args.length<=reachBytes):=
 (Rd.struct (l:=[(3,0),(3,1),(34,2),(34,3),(3,4),(3,5)]) (by kernel_rfl) b9n (.cons a9l b47 (.cons a9l b47 (.cons b2y b73 (.cons b2y b73 (.cons a9l b47 (.cons a9l b47 .nil))))))).map
  (fun x=>⟨x.1,x.2.1,x.2.2.1,x.2.2.2.1,x.2.2.2.2.1,x.2.2.2.2.2.1⟩) (fun x=>rfl) (fun x hx=>⟨hx.2.2.1.1,hx.2.2.2.1.1⟩)
theorem e73:Tryd.prog.underlying 24=some (.slice 39):=by kernel_rfl
theorem e6w:Rd e Tryd.prog w (List Ds) 24 (fun xs=>[slD xs]) (fun xs=>xs.length<=reachBytes/\∀ x∈xs,x.shape.length<=reachBytes):=
 Rd.slice e73 (of_decide_eq_true (by kernel_rfl)) e6v (fun x=>by rw [b2z]; rfl)
theorem e72:Tryd.prog.underlying 23=some (.slice 44):=by kernel_rfl
theorem e61:Rd e Tryd.prog w (List Tn) 23 (fun xs=>[slT xs]) (fun xs=>xs.length<=reachBytes/\∀ x∈xs,x.shape.length<=reachBytes/\x.data.length<=reachBytes):=
 Rd.slice e72 (of_decide_eq_true (by kernel_rfl)) f3a (fun x=>by rw [b9p]; rfl)
theorem e71:Tryd.prog.underlying 22=some (.slice 41):=by kernel_rfl
theorem e62:Rd e Tryd.prog w (List Vw) 22 (fun xs=>[slV xs]) (fun xs=>xs.length<=reachBytes/\∀ x∈xs,x.shape.length<=reachBytes):=
 Rd.slice e71 (of_decide_eq_true (by kernel_rfl)) f3b (fun x=>by rw [b9o]; rfl)
theorem e74:Tryd.prog.underlying 25=some (.slice 36):=by kernel_rfl
theorem e6x:Rd e Tryd.prog w (List In) 25 (fun xs=>[slJ xs]) (fun xs=>xs.length<=reachBytes/\∀ x∈xs,x.ins.length<=reachBytes/\x.args.length<=reachBytes):=
 Rd.slice e74 (of_decide_eq_true (by kernel_rfl)) f22 (fun x=>by rw [b9n]; rfl)
theorem b7b:b1a Tryd.prog 27 [(3,0),(22,1),(23,2),(24,3),(25,4),(3,5),(3,6)]=true:=by kernel_rfl
theorem c3y:Rd e Tryd.prog w Pl 27 eP Pl.fin:=
 (Rd.struct b7b c4r (.cons a9l b47 (.cons c4n e62 (.cons c4o e61 (.cons c4p e6w (.cons c4q e6x (.cons a9l b47 (.cons a9l b47 .nil)))))))).map
  (fun x=>⟨x.1,x.2.1,x.2.2.1,x.2.2.2.1,x.2.2.2.2.1,x.2.2.2.2.2.1,x.2.2.2.2.2.2.1⟩) (fun x=>rfl)
  (fun x hx=>by
   obtain ⟨_,⟨v1,v2⟩,⟨c1,c2⟩,⟨w1,w2⟩,⟨i1,i2⟩,_⟩:=hx
   have k:∀ n:Nat,n<=reachBytes->n < 2 ^ 62:=fun n h=>Nat.lt_of_le_of_lt h (by unfold reachBytes; decide)
   exact ⟨k _ v1,k _ c1,k _ w1,k _ i1,fun x hx=>k _ (v2 x hx),fun x hx=>⟨k _ (c2 x hx).1,k _ (c2 x hx).2⟩,fun x hx=>k _ (w2 x hx),fun x hx=>⟨k _ (i2 x hx).1,k _ (i2 x hx).2⟩⟩)
end
end Go.Proofs.YtploijbaclgehaaDoor
end
